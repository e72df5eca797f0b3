/- A slot is added. -/
import Derived.Test.YtlagoaggllhggaaA5
set_option linter.unusedVariables false
set_option linter.unusedSimpArgs false
namespace Go.Proofs.Ytlagoaggllhggaa
open Go Go.RowKit

theorem fok26 : fnOk Try.prog 26 = true := by kernel_rfl

/-- What Add answers: the page, its slot, what was wrong. -/
def addP (lsn : Int) (xs : List Old) (o : Old) : Int × List Old × Int × Int :=
  if may xs = false ∨ o.live = false ∨ 66 < o.delta.size then (0, [], 0, 1) else
  let p := place xs o.delta.size
  if p < 0 then (0, [], 0, 5) else
  if p = xs.length then (lsn, xs ++ [o], p, 0) else (lsn, xs.set p.toNat o, p, 0)
abbrev addAV (r : Int × List Old × Int × Int) : AV := .tuple [undoAV r.1 r.2.1, .int .u8 r.2.2.1, .int .i64 r.2.2.2]
theorem argsO {lsn : Int} {xs : List Old} {o : Old} : ∀ x, x ∈ [undoAV lsn xs, o.av] → AV.on (fun _ => False) x ∧ ∀ vs, x ≠ .tuple vs := fun x hx => by
  simp only [List.mem_cons, List.not_mem_nil, or_false] at hx
  rcases hx with rfl | rfl
  · exact ⟨on_undo _ _ _, fun vs h => by cases h⟩
  · exact ⟨by simp [AV.on, AV.onL], fun vs h => by cases h⟩
theorem place_le {xs : List Old} {n : Int} (h : may xs = true) : place xs n ≤ xs.length := by
  unfold place
  have dl : ∀ (xs : List Old) (i : Nat), deadAt xs = some i → i < xs.length := by
    intro xs
    induction xs with
    | nil => intro i h; simp [deadAt] at h
    | cons o r ih =>
      intro i h
      simp only [deadAt] at h
      split at h
      · cases hd : deadAt r with
        | none => simp [hd] at h
        | some j => simp [hd] at h; have := ih j hd; simp; omega
      · simp at h; subst h; simp
  split
  · omega
  · split
    · rename_i i hi
      have := dl xs i hi
      split <;> omega
    · split <;> omega

theorem add_spec (lsn : Int) (xs : List Old) (o : Old) (hl : xs.length ≤ 9223372036854775807) : ACall Try.prog 21 [undoAV lsn xs, o.av] [] (addAV (addP lsn xs o)) [] := by
  refine ACall.run (Z := Z) (N := 52) mixed hZ Try.func21 rfl rfl (by kernel_rfl) (by simp) argsO 0 ?_
  have fin0 : ∀ (e : Int) (t : Env) (H : Heap) (m : Nat), look t 4 = some (.ptr 2 0 []) → look t 5 = some (.int .u8 0) → look t 6 = some (.int .i64 e) → Heap.get H 2 = some (.cells (undoAV 0 [])) → (0, [], 0, e) = addP lsn xs o →
      Final Try.prog Try.f21 (addAV (addP lsn xs o)) [] .ret ⟨52, t, H, m⟩ := by
    intro e t H m h1 h2 h3 h4 h5
    rw [← h5]
    exact Final.many (.inr rfl) (rs := [.cell 4 33, .tmp 5, .tmp 6]) (us := [undoAV 0 [], .int .u8 0, .int .i64 e]) rfl ⟨⟨2, 0, [], _, h1, h4, rfl, rfl, by simp -dsimp -implicitDefEqProofs only [j129, AV.size, AV.sizeL, Nat.reduceAdd, j182, j197, j289, j290]⟩, ⟨h2, fun vs h => by cases h⟩, ⟨h3, fun vs h => by cases h⟩, trivial⟩ (by simp) ⟨.same _ (on_undo _ _ _), .same _ trivial, .same _ trivial, trivial⟩
  have fin1 : ∀ (q L : Nat) (ys : List Old) (es : List AV) (p : Int) (t : Env) (H : Heap) (m : Nat), ys.length = L → es = ys.map Old.av → look t 4 = some (.ptr 2 0 []) → look t 5 = some (.int .u8 p) → look t 6 = some (.int .i64 0) → Heap.get H 2 = some (.cells (.agg [.int .u64 lsn, .sl q 0 [] 0 L L 6])) → Heap.get H q = some (.cells (.agg es)) → (lsn, ys, p, 0) = addP lsn xs o →
      Final Try.prog Try.f21 (addAV (addP lsn xs o)) [] .ret ⟨52, t, H, m⟩ := by
    intro q L ys es p t H m hL hes h1 h2 h3 h4 h4' h5
    subst hL hes
    rw [← h5]
    exact Final.many (.inr rfl) (rs := [.cell 4 33, .tmp 5, .tmp 6]) (us := [.agg [.int .u64 lsn, .sl q 0 [] 0 ys.length ys.length 6], .int .u8 p, .int .i64 0]) rfl ⟨⟨2, 0, [], _, h1, h4, rfl, rfl, by simp -dsimp -implicitDefEqProofs only [j129, AV.size, AV.sizeL, Nat.reduceAdd, j182, j197, j289, j290]⟩, ⟨h2, fun vs h => by cases h⟩, ⟨h3, fun vs h => by cases h⟩, trivial⟩ (by simp) ⟨frz_row h4', .same _ trivial, .same _ trivial, trivial⟩
  simp -dsimp -implicitDefEqProofs only [↓j0, ↓j1, ↓j7, ↓j12, ↓j15, j17, j18, j20, ↓j25, ↓j27, ↓j29, ↓j30, j33, ↓j39, ↓j41, ↓j42, ↓j43, ↓j53, ↓j76, j129, ↓j145, ↓j146, ↓j153, AV.proj, AV.offOf, AV.size, AV.sizeL, AV.layable, argEnv, j170, j171, j172, reduceCtorEq, ↓reduceIte, Nat.reduceAdd, Nat.reduceEqDiff, j182, j196, j197, j289, j290, j374]
  refine CallTo.pure (args := [undoAV lsn xs]) rfl fok25 (by simp -dsimp -implicitDefEqProofs only [↓j25, ↓j29, j173, j174, ↓reduceIte]) (fun x hx => (args1 x hx).2) (may_spec lsn xs hl) ?_
  cases hm : may xs
  · simp -dsimp -implicitDefEqProofs only [↓j0, ↓j1, ↓j2, ↓j7, ↓j10, ↓j12, ↓j13, ↓j15, j17, j18, j19, j20, j21, j22, j23, ↓j25, ↓j27, ↓j29, ↓j30, j32, j33, ↓j38, ↓j39, ↓j40, ↓j44, ↓j54, ↓j55, ↓j78, j81, j84, ↓j124, j125, j127, ↓j145, ↓j146, ↓j147, ↓j149, ↓j151, ↓j153, partsAV, AV.proj, AV.offOf, AV.upd, AV.size, AV.sizeL, AV.layable, j163, j164, j170, j171, j175, reduceCtorEq, ↓reduceIte, Nat.reduceAdd, Nat.reduceEqDiff, j182, j194, j197, j214, j218, j219, j289, j394]
    refine fin0 1 _ _ _ ?_ ?_ ?_ ?_ ?_
    · rfl
    · rfl
    · rfl
    · rfl
    · rw [addP, if_pos (.inl hm)]
  have hlen := may_len hm
  cases hv : o.live
  · simp -dsimp -implicitDefEqProofs only [↓j0, ↓j1, ↓j2, ↓j7, ↓j10, ↓j12, ↓j13, ↓j15, j17, j18, j19, j20, j21, j22, j23, ↓j25, ↓j27, ↓j29, ↓j30, j32, j33, ↓j38, ↓j39, ↓j40, ↓j43, ↓j44, ↓j45, ↓j54, ↓j55, ↓j76, ↓j78, ↓j79, j81, j83, j84, ↓j124, j125, j127, j131, ↓j145, ↓j146, ↓j147, ↓j148, ↓j149, ↓j151, ↓j153, partsAV, AV.proj, AV.offOf, AV.upd, AV.size, AV.sizeL, AV.layable, j163, j164, j167, j170, j171, j175, reduceCtorEq, ↓reduceIte, Nat.reduceAdd, Nat.reduceEqDiff, j182, j193, j194, j195, j197, j214, j218, j219, j253, j289, j331, j394, hv]
    refine fin0 1 _ _ _ ?_ ?_ ?_ ?_ ?_
    · rfl
    · rfl
    · rfl
    · rfl
    · rw [addP, if_pos (.inr (.inl hv))]
  simp -dsimp -implicitDefEqProofs only [↓j0, ↓j1, ↓j2, ↓j13, j17, j18, j20, ↓j25, ↓j27, ↓j29, ↓j30, j32, j33, ↓j38, ↓j40, ↓j43, ↓j45, ↓j48, ↓j55, ↓j58, ↓j59, ↓j76, ↓j79, j83, j84, ↓j89, j131, j132, j141, ↓j145, ↓j146, ↓j148, ↓j149, ↓j151, ↓j153, j161, AV.proj, AV.offOf, AV.size, AV.sizeL, j163, j164, j166, j167, j171, j175, ↓reduceIte, Nat.reduceAdd, Nat.reduceEqDiff, j182, j185, j193, j195, j196, j197, j253, j258, j259, j331, j343, hv]
  refine ⟨fun h66 => ?_, fun h66 => ?_⟩
  · have h66' := of_decide_eq_true h66
    simp -dsimp -implicitDefEqProofs only [↓j0, ↓j1, ↓j7, ↓j10, ↓j12, ↓j15, j17, j18, j19, j20, j21, j22, j23, ↓j25, ↓j27, ↓j29, ↓j30, j33, ↓j39, ↓j44, ↓j54, ↓j78, ↓j124, j125, j127, ↓j145, ↓j146, ↓j153, partsAV, AV.proj, AV.offOf, AV.upd, AV.size, AV.sizeL, AV.layable, j170, j171, reduceCtorEq, ↓reduceIte, Nat.reduceAdd, Nat.reduceEqDiff, j182, j197, j214, j218, j219, j289, j394, h66]
    refine fin0 1 _ _ _ ?_ ?_ ?_ ?_ ?_
    · rfl
    · rfl
    · rfl
    · rfl
    · rw [addP, if_pos (.inr (.inr (by omega)))]
  have h66' := of_decide_eq_false h66
  simp -dsimp -implicitDefEqProofs only [↓j1, ↓j7, ↓j9, ↓j12, ↓j15, j17, j18, j20, ↓j25, ↓j27, ↓j29, ↓j43, ↓j45, ↓j53, ↓j58, ↓j59, ↓j76, ↓j79, j129, j132, j141, ↓j145, ↓j146, ↓j153, AV.proj, AV.offOf, AV.size, AV.sizeL, j163, j164, j166, j167, j171, reduceCtorEq, ↓reduceIte, Nat.reduceAdd, Nat.reduceEqDiff, j182, j196, j197, j258, j259, j289, j290, j343, h66, hv]
  refine CallTo.pure (args := [undoAV lsn xs, .int .i64 o.delta.size]) rfl fok24 (by simp -dsimp -implicitDefEqProofs only [↓j25, ↓j29, j173, j174, ↓reduceIte, Nat.reduceEqDiff]) (fun x hx => (args2 x hx).2) (place_spec lsn xs _ hl) ?_
  have hle := place_le (n := o.delta.size) hm
  have hnot : ¬ (may xs = false ∨ o.live = false ∨ 66 < o.delta.size) := by simp only [hm, hv, Bool.true_eq_false, false_or]; omega
  have hp : addP lsn xs o = (if place xs o.delta.size < 0 then (0, [], 0, 5) else if place xs o.delta.size = xs.length then (lsn, xs ++ [o], place xs o.delta.size, 0) else (lsn, xs.set (place xs o.delta.size).toNat o, place xs o.delta.size, 0)) := by
    rw [addP, if_neg hnot]
  generalize place xs o.delta.size = p at hp hle
  simp -dsimp -implicitDefEqProofs only [↓j0, ↓j1, ↓j7, ↓j12, ↓j13, ↓j15, j17, j18, j20, ↓j25, ↓j29, ↓j30, j33, ↓j38, ↓j39, ↓j48, ↓j89, ↓j145, ↓j146, ↓j149, j159, j171, ↓reduceIte, j185]
  refine ⟨fun hneg => ?_, fun hneg => ?_⟩
  · have hneg' := of_decide_eq_true hneg
    simp -dsimp -implicitDefEqProofs only [↓j0, ↓j1, ↓j7, ↓j10, ↓j12, ↓j15, j17, j18, j19, j20, j21, j22, j23, ↓j25, ↓j27, ↓j29, ↓j30, j33, ↓j39, ↓j44, ↓j54, ↓j78, ↓j124, j125, j127, ↓j145, ↓j146, ↓j153, partsAV, AV.proj, AV.offOf, AV.upd, AV.size, AV.sizeL, AV.layable, j170, j171, reduceCtorEq, ↓reduceIte, Nat.reduceAdd, Nat.reduceEqDiff, j182, j197, j214, j218, j219, j289, j394, hneg]
    refine fin0 5 _ _ _ ?_ ?_ ?_ ?_ ?_
    · rfl
    · rfl
    · rfl
    · rfl
    · rw [hp, if_pos hneg']
  have hneg' := of_decide_eq_false hneg
  rw [if_neg hneg'] at hp
  have hwp : IntKind.u8.wrap p = p := wrap_id (by simp [IntKind.min, IntKind.signed]; omega) (by simp [IntKind.max, IntKind.bits, IntKind.signed]; omega)
  simp -dsimp -implicitDefEqProofs only [↓j1, ↓j7, ↓j9, ↓j12, ↓j15, j17, j18, j20, ↓j25, ↓j27, ↓j29, ↓j43, ↓j53, ↓j76, j129, ↓j145, ↓j146, ↓j153, AV.proj, AV.offOf, AV.size, AV.sizeL, j171, reduceCtorEq, ↓reduceIte, Nat.reduceAdd, Nat.reduceEqDiff, j182, j197, j289, j290, hneg]
  by_cases hx : xs = []
  · subst hx
    refine CallTo.pure (args := [undoAV lsn []]) rfl fok26 (by simp -dsimp -implicitDefEqProofs only [↓j25, ↓j29, j173, j174, ↓reduceIte]) (fun x hx => (args1 x hx).2) (own_nil lsn) ?_
    have hp0 : p = 0 := by simp only [List.length_nil] at hle; omega
    subst hp0
    have hb0 : ((0 : Int) == ((0 : Nat) : Int)) = true := rfl
    simp -dsimp -implicitDefEqProofs only [↓j0, ↓j1, ↓j7, ↓j12, ↓j13, ↓j15, j17, j18, j19, j20, j21, j22, j23, ↓j25, ↓j27, ↓j29, ↓j38, ↓j43, ↓j44, ↓j45, ↓j48, ↓j51, ↓j58, ↓j60, ↓j74, ↓j76, ↓j78, ↓j79, ↓j89, j125, j126, j127, j128, j129, j134, j144, ↓j145, ↓j146, ↓j147, ↓j149, ↓j153, j157, partsAV, AV.proj, AV.offOf, AV.upd, AV.size, AV.sizeL, AV.layable, j163, j164, j166, j167, j169, j170, j171, j179, j180, reduceCtorEq, ↓reduceIte, Nat.reduceAdd, Nat.reduceMul, Nat.reduceEqDiff, Nat.reduceLeDiff, j182, j183, j185, j196, j197, j213, j214, j215, j217, Nat.reducePow, List.replicate, j234, j286, j289, j295, j328, j329, j391, j416, hb0]
    refine DoAppend_of rfl rfl at31 ?_
    have hu : Unif 6 [o.av] := unif_olds [o]
    simp -dsimp -implicitDefEqProofs only [↓j0, ↓j1, ↓j7, ↓j10, ↓j12, ↓j15, j17, j18, j19, j20, j21, j22, j23, ↓j25, ↓j27, ↓j29, ↓j30, j33, ↓j38, ↓j39, ↓j43, ↓j44, ↓j45, ↓j50, ↓j76, ↓j78, ↓j79, ↓j100, ↓j106, j107, j129, ↓j145, ↓j146, ↓j148, ↓j153, AV.proj, AV.offOf, AV.upd, AV.size, AV.sizeL, AV.layable, j163, j164, j166, j167, j168, j169, j170, j171, reduceCtorEq, ↓reduceIte, Nat.reduceAdd, Nat.reduceMul, Nat.reduceEqDiff, Nat.reduceLeDiff, j182, j196, j197, j223, ↓j225, j227, j228, j230, j231, Nat.reduceBEq, j234, j256, j285, j289, j290, j295, j406, hu, hwp]
    rw [if_pos (by rfl)] at hp
    refine fin1 4 1 [o] _ 0 _ _ _ rfl rfl ?_ ?_ ?_ ?_ ?_ hp.symm
    · rfl
    · rfl
    · rfl
    · rfl
    · rfl
  · refine CallTo.newAt 5 (args := [undoAV lsn xs]) rfl fok26 (by simp -dsimp -implicitDefEqProofs only [↓j25, ↓j29, j173, j174, ↓reduceIte]) (fun x hx => (args1 x hx).2) (show (3 : Nat) ≤ 5 by decide) (own_cons 3 lsn xs hx (by omega)) ?_
    simp -dsimp -implicitDefEqProofs only [↓j0, ↓j1, ↓j7, ↓j12, ↓j13, ↓j15, j17, j18, j19, j20, j21, j22, j23, ↓j25, ↓j27, ↓j29, ↓j38, ↓j43, ↓j44, ↓j45, ↓j48, ↓j58, ↓j61, ↓j76, ↓j78, ↓j79, ↓j89, j135, j143, ↓j145, ↓j146, ↓j149, ↓j153, j157, AV.proj, AV.offOf, AV.upd, AV.size, AV.sizeL, AV.layable, j163, j164, j166, j167, j170, j171, reduceCtorEq, ↓reduceIte, Nat.reduceAdd, Nat.reduceEqDiff, j182, j185, j196, j197, j286, j289, j295, j416]
    refine ⟨fun hpe => ?_, fun hpe => ?_⟩
    · have hpe' : p = xs.length := by simpa using hpe
      rw [if_pos hpe'] at hp
      simp -dsimp -implicitDefEqProofs only [↓j1, ↓j7, ↓j15, j17, j18, j20, ↓j25, ↓j27, ↓j29, ↓j43, ↓j45, ↓j51, ↓j74, ↓j76, ↓j79, j125, j126, j127, j128, j129, j135, ↓j145, ↓j146, ↓j153, partsAV, AV.proj, AV.offOf, AV.size, AV.sizeL, AV.layable, j163, j164, j166, j167, j169, j170, j171, j179, j180, reduceCtorEq, ↓reduceIte, Nat.reduceAdd, Nat.reduceMul, Nat.reduceEqDiff, Nat.reduceLeDiff, j182, j183, j196, j197, j213, j214, j215, j217, Nat.reducePow, List.replicate, j234, j286, j295, j328, j329, j391, hpe]
      refine DoAppend_of rfl rfl at31 ?_
      have hu : Unif 6 [o.av] := unif_olds [o]
      have hu2 := unif_olds xs
      simp -dsimp -implicitDefEqProofs only [↓j27, ↓j101, ↓j102, ↓j106, j107, ↓j145, ↓j146, ↓j153, AV.proj, AV.offOf, j166, reduceCtorEq, ↓reduceIte, Nat.reduceEqDiff, Nat.reduceLeDiff, j182, j184, j188, j189, j196, j197, j213, j214, j215, j222, j223, j227, j228, j230, j231, j234, hu, hu2]
      refine ⟨⟨by omega, by omega⟩, ?_⟩
      simp -dsimp -implicitDefEqProofs only [↓j0, ↓j1, ↓j7, ↓j10, ↓j12, ↓j15, j17, j18, j19, j20, j21, j22, j23, ↓j25, ↓j27, ↓j29, ↓j30, j33, ↓j38, ↓j39, ↓j43, ↓j44, ↓j45, ↓j50, ↓j76, ↓j78, ↓j79, j129, ↓j145, ↓j146, ↓j153, AV.proj, AV.offOf, AV.upd, AV.size, AV.sizeL, AV.layable, j163, j164, j166, j167, j168, j169, j170, j171, reduceCtorEq, ↓reduceIte, Nat.reduceAdd, Nat.reduceEqDiff, j182, j196, j197, ↓j225, j227, j228, j230, j231, j256, j285, j289, j290, j295, j406, hwp, take_olds]
      refine fin1 7 (xs.length + 1) (xs ++ [o]) (xs.map Old.av ++ [o.av]) p _ _ _ (by simp) (by rw [List.map_append, List.map_cons, List.map_nil]) ?_ ?_ ?_ ?_ ?_ hp.symm
      · rfl
      · rfl
      · rfl
      · rfl
      · rfl
    · have hpe' : ¬ p = xs.length := by simpa using hpe
      rw [if_neg hpe'] at hp
      obtain ⟨x0, hx0⟩ := list_get (xs := xs) (i := p.toNat) (by omega)
      have hsz := sizeL_olds xs p.toNat (by omega)
      have h0 : 0 ≤ p := by omega
      have hlt : p < (xs.length : Int) := by omega
      simp -dsimp -implicitDefEqProofs only [↓j0, ↓j1, ↓j7, ↓j10, ↓j12, ↓j15, j17, j18, j19, j20, j21, j22, j23, ↓j25, ↓j27, ↓j29, ↓j30, j33, ↓j38, ↓j39, ↓j43, ↓j44, ↓j45, ↓j46, ↓j50, ↓j76, ↓j78, ↓j79, ↓j93, j129, j135, ↓j145, ↓j146, ↓j153, AV.proj, AV.offOf, AV.upd, AV.size, AV.sizeL, AV.layable, j163, j164, j166, j167, j170, j171, j177, reduceCtorEq, ↓reduceIte, Nat.reduceAdd, Nat.reduceEqDiff, j182, j196, j197, j206, ↓j225, j256, j286, j287, j289, j290, j295, j328, j329, j406, hpe, h0, hlt, hx0, hsz, hwp]
      refine fin1 5 xs.length (xs.set p.toNat o) ((xs.map Old.av).set p.toNat o.av) p _ _ _ (by simp) (by rw [List.map_set]) ?_ ?_ ?_ ?_ ?_ hp.symm
      · rfl
      · rfl
      · rfl
      · rfl
      · rfl
end Go.Proofs.Ytlagoaggllhggaa
