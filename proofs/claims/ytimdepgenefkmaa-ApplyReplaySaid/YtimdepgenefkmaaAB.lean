import Derived.Test.YtimdepgenefkmaaAA
set_option maxRecDepth 8000
set_option linter.unusedVariables false
set_option linter.unusedSimpArgs false
section
namespace Go.Proofs.Ytimdepgenefkmaa.Slot
open Go Go.RowKit

theorem fok54 : fnOk Try.prog 54 = true := by kernel_rfl
def fits (xs : List Old) (n : Int) : Bool := decide (0 ≤ place xs n)

def liveN (xs : List Old) : Nat := (xs.filter (·.live)).length
def getP (xs : List Old) (k : Int) : Old × Bool := match xs[k.toNat]? with
  | some o => if o.live then (o, true) else (.zero, false)
  | none => (.zero, false)
theorem args5 {lsn k : Int} {xs : List Old} : ∀ x, x ∈ [undoAV lsn xs, .int .u8 k] → AV.on (fun _ => False) x ∧ ∀ vs, x ≠ .tuple vs := args2

theorem get_spec (lsn k : Int) (xs : List Old) (h0 : 0 ≤ k) (h1 : k ≤ 255) : ACall Try.prog 56 [undoAV lsn xs, .int .u8 k] [] (.tuple [(getP xs k).1.av, .bool (getP xs k).2]) [] := by
  refine ACall.run (Z := Z) (N := 27) mixed hZ Try.func56 rfl rfl (by kernel_rfl) (by simp) args5 0 ?_
  have hwk : IntKind.i64.wrap k = k := wrap_i64 (by omega) (by omega)
  have fin : ∀ (a : Old) (b : Bool) (t : Env) (H : Heap) (m : Nat), look t 4 = some (.ptr 1 0 []) → look t 5 = some (.bool b) → Heap.get H 1 = some (.cells a.av) → (a, b) = getP xs k →
      Final Try.prog Try.f56 (.tuple [(getP xs k).1.av, .bool (getP xs k).2]) [] .ret ⟨27, t, H, m⟩ := by
    intro a b t H m h1 h2 h3 h4
    rw [← h4]
    refine Final.many (.inr rfl) (rs := [.cell 4 32, .tmp 5]) (us := [a.av, .bool b]) rfl ⟨⟨1, 0, [], _, h1, h3, rfl, rfl, by simp -dsimp -implicitDefEqProofs only [j129, AV.size, AV.sizeL, Nat.reduceAdd, j182, j197, j294, j295]⟩, ⟨h2, fun vs h => by cases h⟩, trivial⟩ (by simp) ⟨.same _ (by simp [AV.on, AV.onL]), .same _ trivial, trivial⟩
  simp -dsimp -implicitDefEqProofs only [↓j0, ↓j1, ↓j2, ↓j7, ↓j12, ↓j15, j17, j18, j20, ↓j25, ↓j27, ↓j29, ↓j30, j32, ↓j38, ↓j39, ↓j41, ↓j42, ↓j43, ↓j45, ↓j48, ↓j50, ↓j58, ↓j62, ↓j76, ↓j79, ↓j89, j133, j142, ↓j145, ↓j146, ↓j151, ↓j153, j162, AV.proj, AV.offOf, AV.size, AV.sizeL, AV.layable, argEnv, j163, j164, j166, j167, j170, j171, j172, j175, reduceCtorEq, ↓reduceIte, Nat.reduceAdd, Nat.reduceEqDiff, j182, j185, j196, j197, ↓j225, j251, j388, j397, j423, j461, j478, hwk]
  refine ⟨fun h => ?_, fun h => ?_⟩
  · have h' := of_decide_eq_true h
    simp -dsimp -implicitDefEqProofs only [↓j0, ↓j1, ↓j2, ↓j7, ↓j10, ↓j12, ↓j13, ↓j15, j17, j18, j19, j20, j21, j22, j23, ↓j25, ↓j27, ↓j29, ↓j30, j32, ↓j39, ↓j40, ↓j44, ↓j54, ↓j78, j81, ↓j124, j125, j127, ↓j145, ↓j146, ↓j147, ↓j149, ↓j151, ↓j153, partsAV, AV.proj, AV.offOf, AV.upd, AV.size, AV.sizeL, AV.layable, j163, j164, j170, j171, j175, reduceCtorEq, ↓reduceIte, Nat.reduceAdd, Nat.reduceEqDiff, j182, j197, j214, j218, j219, j294, j441, h]
    refine fin .zero false _ _ _ ?_ ?_ ?_ ?_
    · rfl
    · rfl
    · rfl
    · have : xs[k.toNat]? = none := List.getElem?_eq_none (by omega)
      simp [getP, this]
  · have h' := of_decide_eq_false h
    obtain ⟨o, ho⟩ := list_get (xs := xs) (i := k.toNat) (by omega)
    have hsz := sizeL_olds xs k.toNat (by omega)
    have hlt : k < (xs.length : Int) := by omega
    simp -dsimp -implicitDefEqProofs only [↓j0, ↓j1, ↓j2, ↓j13, j17, j18, j20, ↓j25, ↓j27, ↓j29, ↓j30, j32, ↓j38, ↓j40, ↓j43, ↓j45, ↓j46, ↓j55, ↓j76, ↓j77, ↓j79, ↓j80, j83, j84, ↓j92, j131, j133, ↓j145, ↓j146, ↓j148, ↓j149, ↓j151, ↓j153, AV.proj, AV.offOf, AV.size, AV.sizeL, j163, j164, j166, j167, j170, j171, j175, j177, reduceCtorEq, ↓reduceIte, Nat.reduceEqDiff, j182, j195, j196, j197, j206, j253, j297, j388, j389, j397, h, h0, hlt, ho, hsz]
    cases hl : o.live
    · simp -dsimp -implicitDefEqProofs only [↓j0, ↓j1, ↓j7, ↓j10, ↓j12, ↓j15, j17, j18, j19, j20, j21, j22, j23, ↓j25, ↓j27, ↓j29, ↓j30, j32, ↓j39, ↓j44, ↓j54, ↓j78, ↓j124, j125, j127, ↓j145, ↓j146, ↓j147, ↓j153, partsAV, AV.proj, AV.offOf, AV.upd, AV.size, AV.sizeL, AV.layable, j170, j171, reduceCtorEq, ↓reduceIte, Nat.reduceAdd, Nat.reduceEqDiff, j182, j194, j197, j214, j218, j219, j294, j441]
      refine fin .zero false _ _ _ ?_ ?_ ?_ ?_
      · rfl
      · rfl
      · rfl
      · simp [getP, ho, hl]
    · simp -dsimp -implicitDefEqProofs only [↓j0, ↓j1, ↓j7, ↓j9, ↓j10, ↓j12, ↓j15, j17, j18, j19, j20, j21, j22, j23, ↓j25, ↓j27, ↓j29, ↓j30, j32, ↓j38, ↓j39, ↓j43, ↓j44, ↓j45, ↓j46, ↓j76, ↓j77, ↓j78, ↓j79, ↓j92, j129, j133, ↓j145, ↓j146, ↓j148, ↓j153, AV.proj, AV.offOf, AV.upd, AV.size, AV.sizeL, AV.layable, j163, j164, j166, j167, j170, j171, j177, reduceCtorEq, ↓reduceIte, Nat.reduceAdd, Nat.reduceEqDiff, j182, j193, j196, j197, j206, j294, j295, j388, j389, j397, h0, hlt, ho, hsz]
      refine fin o true _ _ _ ?_ ?_ ?_ ?_
      · rfl
      · rfl
      · simp -dsimp -implicitDefEqProofs only [↓j27, ↓reduceIte]
      · simp [getP, ho, hl]

theorem frz_row {H : Heap} {n : Nat} {lsn : Int} {xs : List Old} (h : Heap.get H n = some (.cells (.agg (xs.map Old.av)))) : Frz (fun _ => False) H (.agg [.int .u64 lsn, .sl n 0 [] 0 xs.length xs.length 6]) (undoAV lsn xs) := by
  refine .agg _ _ rfl fun k hk => ?_
  match k, hk with
  | 0, _ => exact .same _ trivial
  | 1, _ =>
    have := Frz.sl (K := fun _ => False) (H := H) n 0 [] 0 xs.length xs.length 6 _ (xs.map Old.av) h (fun h => h) rfl rfl (by simp) (unif_olds xs) (fun x hx => by
      obtain ⟨o, _, rfl⟩ := List.mem_map.1 (List.mem_of_mem_drop (List.mem_of_mem_take hx))
      simp [AV.on, AV.onL])
    rw [List.drop_zero, take_olds] at this
    exact this

theorem kept_spec (lsn : Int) (xs : List Old) (hb : xs.length * 32 ≤ 140737488355328) : ACall Try.prog 50 [undoAV lsn xs] [] (undoAV lsn xs) [] := by
  refine ACall.run (Z := Z) (N := 10) mixed hZ Try.func50 rfl rfl (by kernel_rfl) (by simp) args1 0 ?_
  simp -dsimp -implicitDefEqProofs only [↓j0, ↓j1, ↓j4, ↓j7, ↓j8, ↓j12, ↓j15, j17, j18, j20, j24, ↓j25, ↓j27, ↓j29, ↓j41, ↓j42, ↓j43, ↓j45, ↓j51, ↓j74, ↓j76, ↓j79, j125, j127, j130, j133, ↓j145, ↓j146, ↓j153, partsAV, AV.proj, AV.offOf, AV.size, AV.sizeL, AV.layable, argEnv, j163, j164, j166, j167, j170, j171, j172, j173, j174, reduceCtorEq, ↓reduceIte, Nat.reduceAdd, Nat.reduceEqDiff, j182, j196, j197, j214, j218, j219, j226, Nat.reducePow, List.replicate, j234, j279, j388, j394, j397, j433, j450]
  refine DoAppend_of rfl rfl at69 ?_
  have hu := unif_olds xs
  have hl : xs.length ≤ 9223372036854775807 := by omega
  have hu0 : Unif 6 [] := fun x hx => by simp at hx
  simp -dsimp -implicitDefEqProofs only [↓j3, ↓j4, j17, j18, j19, j20, j21, j22, j23, j24, ↓j25, ↓j27, ↓j29, ↓j44, ↓j54, ↓j78, ↓j101, ↓j102, ↓j104, ↓j124, j125, j126, j127, j128, ↓j145, ↓j146, ↓j153, partsAV, AV.proj, AV.offOf, AV.upd, AV.size, AV.sizeL, AV.layable, j163, j164, j166, j167, j168, j169, j170, j171, j172, j173, j174, j179, j180, reduceCtorEq, ↓reduceIte, Nat.reduceAdd, Nat.reduceEqDiff, j182, j183, j188, j189, j196, j197, j213, j214, j215, j216, j217, j222, j223, j228, j229, j231, j234, j391, j395, j398, j453, hu, hu0, take_olds, hb, hl]
  refine ⟨by kernel_rfl, ?_⟩
  simp -dsimp -implicitDefEqProofs only [↓j10]
  exact Final.one (.inr rfl) (r := .cell 2 71) rfl ⟨1, 0, [], _, rfl, rfl, rfl, rfl, by simp -dsimp -implicitDefEqProofs only [j129, AV.size, AV.sizeL, Nat.reduceAdd, j182, j197, j391, j392]⟩ (fun vs h => by cases h) (fun vs h => by cases h) (frz_row (n := 3) rfl)
end Go.Proofs.Ytimdepgenefkmaa.Slot
end
section
namespace Go.Proofs.Ytimdepgenefkmaa.Slot
open Go Go.RowKit

theorem fok55 : fnOk Try.prog 55 = true := by kernel_rfl

def addP (lsn : Int) (xs : List Old) (o : Old) : Int × List Old × Int × Int :=
  if may xs = false ∨ o.live = false ∨ 66 < o.delta.size then (0, [], 0, 1) else
  let p := place xs o.delta.size
  if p < 0 then (0, [], 0, 5) else
  if p = xs.length then (lsn, xs ++ [o], p, 0) else (lsn, xs.set p.toNat o, p, 0)
abbrev addAV (r : Int × List Old × Int × Int) : AV := .tuple [undoAV r.1 r.2.1, .int .u8 r.2.2.1, .int .i64 r.2.2.2]
theorem argsO {lsn : Int} {xs : List Old} {o : Old} : ∀ x, x ∈ [undoAV lsn xs, o.av] → AV.on (fun _ => False) x ∧ ∀ vs, x ≠ .tuple vs := fun x hx => by
  simp only [List.mem_cons, List.not_mem_nil, or_false] at hx
  rcases hx with rfl | rfl
  · exact ⟨on_undo _ _ _, fun vs h => by cases h⟩
  · exact ⟨by simp [AV.on, AV.onL], fun vs h => by cases h⟩
theorem place_le {xs : List Old} {n : Int} (h : may xs = true) : place xs n ≤ xs.length := by
  unfold place
  have dl : ∀ (xs : List Old) (i : Nat), deadAt xs = some i → i < xs.length := by
    intro xs
    induction xs with
    | nil => intro i h; simp [deadAt] at h
    | cons o r ih =>
      intro i h
      simp only [deadAt] at h
      split at h
      · cases hd : deadAt r with
        | none => simp [hd] at h
        | some j => simp [hd] at h; have := ih j hd; simp; omega
      · simp at h; subst h; simp
  split
  · omega
  · split
    · rename_i i hi
      have := dl xs i hi
      split <;> omega
    · split <;> omega

theorem add_spec (lsn : Int) (xs : List Old) (o : Old) (hl : xs.length ≤ 9223372036854775807) : ACall Try.prog 36 [undoAV lsn xs, o.av] [] (addAV (addP lsn xs o)) [] := by
  refine ACall.run (Z := Z) (N := 52) mixed hZ Try.func36 rfl rfl (by kernel_rfl) (by simp) argsO 0 ?_
  have fin0 : ∀ (e : Int) (t : Env) (H : Heap) (m : Nat), look t 4 = some (.ptr 2 0 []) → look t 5 = some (.int .u8 0) → look t 6 = some (.int .i64 e) → Heap.get H 2 = some (.cells zeroU) → (0, [], 0, e) = addP lsn xs o →
      Final Try.prog Try.f36 (addAV (addP lsn xs o)) [] .ret ⟨52, t, H, m⟩ := by
    intro e t H m h1 h2 h3 h4 h5
    rw [← h5]
    exact Final.many (.inr rfl) (rs := [.cell 4 71, .tmp 5, .tmp 6]) (us := [zeroU, .int .u8 0, .int .i64 e]) rfl ⟨⟨2, 0, [], _, h1, h4, rfl, rfl, by simp -dsimp -implicitDefEqProofs only [j129, AV.size, AV.sizeL, Nat.reduceAdd, j182, j197, j391, j392]⟩, ⟨h2, fun vs h => by cases h⟩, ⟨h3, fun vs h => by cases h⟩, trivial⟩ (by simp) ⟨frz0, .same _ trivial, .same _ trivial, trivial⟩
  have fin1 : ∀ (q L : Nat) (ys : List Old) (es : List AV) (p : Int) (t : Env) (H : Heap) (m : Nat), ys.length = L → es = ys.map Old.av → look t 4 = some (.ptr 2 0 []) → look t 5 = some (.int .u8 p) → look t 6 = some (.int .i64 0) → Heap.get H 2 = some (.cells (.agg [.int .u64 lsn, .sl q 0 [] 0 L L 6])) → Heap.get H q = some (.cells (.agg es)) → (lsn, ys, p, 0) = addP lsn xs o →
      Final Try.prog Try.f36 (addAV (addP lsn xs o)) [] .ret ⟨52, t, H, m⟩ := by
    intro q L ys es p t H m hL hes h1 h2 h3 h4 h4' h5
    subst hL hes
    rw [← h5]
    exact Final.many (.inr rfl) (rs := [.cell 4 71, .tmp 5, .tmp 6]) (us := [.agg [.int .u64 lsn, .sl q 0 [] 0 ys.length ys.length 6], .int .u8 p, .int .i64 0]) rfl ⟨⟨2, 0, [], _, h1, h4, rfl, rfl, by simp -dsimp -implicitDefEqProofs only [j129, AV.size, AV.sizeL, Nat.reduceAdd, j182, j197, j391, j392]⟩, ⟨h2, fun vs h => by cases h⟩, ⟨h3, fun vs h => by cases h⟩, trivial⟩ (by simp) ⟨frz_row h4', .same _ trivial, .same _ trivial, trivial⟩
  simp -dsimp -implicitDefEqProofs only [↓j0, ↓j1, ↓j7, ↓j12, ↓j15, j17, j18, j20, ↓j25, ↓j27, ↓j29, ↓j30, j33, ↓j39, ↓j41, ↓j42, ↓j43, ↓j53, ↓j76, j129, ↓j145, ↓j146, ↓j153, AV.proj, AV.offOf, AV.size, AV.sizeL, AV.layable, argEnv, j170, j171, j172, reduceCtorEq, ↓reduceIte, Nat.reduceAdd, Nat.reduceEqDiff, j182, j196, j197, j391, j392, j433]
  refine CallTo.pure (args := [undoAV lsn xs]) rfl fok53 (by simp -dsimp -implicitDefEqProofs only [↓j25, ↓j29, j173, j174, ↓reduceIte]) (fun x hx => (args1 x hx).2) (may_spec lsn xs hl) ?_
  cases hm : may xs
  · simp -dsimp -implicitDefEqProofs only [↓j0, ↓j1, ↓j2, ↓j7, ↓j10, ↓j12, ↓j13, ↓j15, j17, j18, j19, j20, j21, j22, j23, ↓j25, ↓j27, ↓j29, ↓j30, j32, j33, ↓j38, ↓j39, ↓j40, ↓j44, ↓j54, ↓j55, ↓j78, j81, j84, ↓j124, j125, j127, ↓j145, ↓j146, ↓j147, ↓j149, ↓j151, ↓j153, partsAV, AV.proj, AV.offOf, AV.upd, AV.size, AV.sizeL, AV.layable, j163, j164, j170, j171, j175, reduceCtorEq, ↓reduceIte, Nat.reduceAdd, Nat.reduceEqDiff, j182, j194, j197, j214, j218, j219, j391, j453]
    refine fin0 1 _ _ _ ?_ ?_ ?_ ?_ ?_
    · rfl
    · rfl
    · rfl
    · rfl
    · rw [addP, if_pos (.inl hm)]
  have hlen := may_len hm
  cases hv : o.live
  · simp -dsimp -implicitDefEqProofs only [↓j0, ↓j1, ↓j2, ↓j7, ↓j10, ↓j12, ↓j13, ↓j15, j17, j18, j19, j20, j21, j22, j23, ↓j25, ↓j27, ↓j29, ↓j30, j32, j33, ↓j38, ↓j39, ↓j40, ↓j43, ↓j44, ↓j45, ↓j54, ↓j55, ↓j76, ↓j78, ↓j79, j81, j83, j84, ↓j124, j125, j127, j131, ↓j145, ↓j146, ↓j147, ↓j148, ↓j149, ↓j151, ↓j153, partsAV, AV.proj, AV.offOf, AV.upd, AV.size, AV.sizeL, AV.layable, j163, j164, j167, j170, j171, j175, reduceCtorEq, ↓reduceIte, Nat.reduceAdd, Nat.reduceEqDiff, j182, j193, j194, j195, j197, j214, j218, j219, j253, j297, j391, j453, hv]
    refine fin0 1 _ _ _ ?_ ?_ ?_ ?_ ?_
    · rfl
    · rfl
    · rfl
    · rfl
    · rw [addP, if_pos (.inr (.inl hv))]
  simp -dsimp -implicitDefEqProofs only [↓j0, ↓j1, ↓j2, ↓j13, j17, j18, j20, ↓j25, ↓j27, ↓j29, ↓j30, j32, j33, ↓j38, ↓j40, ↓j43, ↓j45, ↓j48, ↓j55, ↓j58, ↓j59, ↓j76, ↓j79, j83, j84, ↓j89, j131, j132, j141, ↓j145, ↓j146, ↓j148, ↓j149, ↓j151, ↓j153, j161, AV.proj, AV.offOf, AV.size, AV.sizeL, j163, j164, j166, j167, j171, j175, ↓reduceIte, Nat.reduceAdd, Nat.reduceEqDiff, j182, j185, j193, j195, j196, j197, j253, j258, j259, j297, j309, hv]
  refine ⟨fun h66 => ?_, fun h66 => ?_⟩
  · have h66' := of_decide_eq_true h66
    simp -dsimp -implicitDefEqProofs only [↓j0, ↓j1, ↓j7, ↓j10, ↓j12, ↓j15, j17, j18, j19, j20, j21, j22, j23, ↓j25, ↓j27, ↓j29, ↓j30, j33, ↓j39, ↓j44, ↓j54, ↓j78, ↓j124, j125, j127, ↓j145, ↓j146, ↓j153, partsAV, AV.proj, AV.offOf, AV.upd, AV.size, AV.sizeL, AV.layable, j170, j171, reduceCtorEq, ↓reduceIte, Nat.reduceAdd, Nat.reduceEqDiff, j182, j197, j214, j218, j219, j391, j453, h66]
    refine fin0 1 _ _ _ ?_ ?_ ?_ ?_ ?_
    · rfl
    · rfl
    · rfl
    · rfl
    · rw [addP, if_pos (.inr (.inr (by omega)))]
  have h66' := of_decide_eq_false h66
  simp -dsimp -implicitDefEqProofs only [↓j1, ↓j7, ↓j9, ↓j12, ↓j15, j17, j18, j20, ↓j25, ↓j27, ↓j29, ↓j43, ↓j45, ↓j53, ↓j58, ↓j59, ↓j76, ↓j79, j129, j132, j141, ↓j145, ↓j146, ↓j153, AV.proj, AV.offOf, AV.size, AV.sizeL, j163, j164, j166, j167, j171, reduceCtorEq, ↓reduceIte, Nat.reduceAdd, Nat.reduceEqDiff, j182, j196, j197, j258, j259, j309, j391, j392, h66, hv]
  refine CallTo.pure (args := [undoAV lsn xs, .int .i64 o.delta.size]) rfl fok54 (by simp -dsimp -implicitDefEqProofs only [↓j25, ↓j29, j173, j174, ↓reduceIte, Nat.reduceEqDiff]) (fun x hx => (args2 x hx).2) (place_spec lsn xs _ hl) ?_
  have hle := place_le (n := o.delta.size) hm
  have hnot : ¬ (may xs = false ∨ o.live = false ∨ 66 < o.delta.size) := by simp only [hm, hv, Bool.true_eq_false, false_or]; omega
  have hp : addP lsn xs o = (if place xs o.delta.size < 0 then (0, [], 0, 5) else if place xs o.delta.size = xs.length then (lsn, xs ++ [o], place xs o.delta.size, 0) else (lsn, xs.set (place xs o.delta.size).toNat o, place xs o.delta.size, 0)) := by
    rw [addP, if_neg hnot]
  generalize place xs o.delta.size = p at hp hle
  simp -dsimp -implicitDefEqProofs only [↓j0, ↓j1, ↓j7, ↓j12, ↓j13, ↓j15, j17, j18, j20, ↓j25, ↓j29, ↓j30, j33, ↓j38, ↓j39, ↓j48, ↓j89, ↓j145, ↓j146, ↓j149, j159, j171, ↓reduceIte, j185]
  refine ⟨fun hneg => ?_, fun hneg => ?_⟩
  · have hneg' := of_decide_eq_true hneg
    simp -dsimp -implicitDefEqProofs only [↓j0, ↓j1, ↓j7, ↓j10, ↓j12, ↓j15, j17, j18, j19, j20, j21, j22, j23, ↓j25, ↓j27, ↓j29, ↓j30, j33, ↓j39, ↓j44, ↓j54, ↓j78, ↓j124, j125, j127, ↓j145, ↓j146, ↓j153, partsAV, AV.proj, AV.offOf, AV.upd, AV.size, AV.sizeL, AV.layable, j170, j171, reduceCtorEq, ↓reduceIte, Nat.reduceAdd, Nat.reduceEqDiff, j182, j197, j214, j218, j219, j391, j453, hneg]
    refine fin0 5 _ _ _ ?_ ?_ ?_ ?_ ?_
    · rfl
    · rfl
    · rfl
    · rfl
    · rw [hp, if_pos hneg']
  have hneg' := of_decide_eq_false hneg
  rw [if_neg hneg'] at hp
  have hwp : IntKind.u8.wrap p = p := wrap_id (by simp [IntKind.min, IntKind.signed]; omega) (by simp [IntKind.max, IntKind.bits, IntKind.signed]; omega)
  simp -dsimp -implicitDefEqProofs only [↓j1, ↓j7, ↓j9, ↓j12, ↓j15, j17, j18, j20, ↓j25, ↓j27, ↓j29, ↓j43, ↓j53, ↓j76, j129, ↓j145, ↓j146, ↓j153, AV.proj, AV.offOf, AV.size, AV.sizeL, j171, reduceCtorEq, ↓reduceIte, Nat.reduceAdd, Nat.reduceEqDiff, j182, j197, j391, j392, hneg]
  by_cases hx : xs = []
  · subst hx
    refine CallTo.pure (args := [undoAV lsn []]) rfl fok55 (by simp -dsimp -implicitDefEqProofs only [↓j25, ↓j29, j173, j174, ↓reduceIte]) (fun x hx => (args1 x hx).2) (own_nil lsn) ?_
    have hp0 : p = 0 := by simp only [List.length_nil] at hle; omega
    subst hp0
    have hb0 : ((0 : Int) == ((0 : Nat) : Int)) = true := rfl
    simp -dsimp -implicitDefEqProofs only [↓j0, ↓j1, ↓j7, ↓j12, ↓j13, ↓j15, j17, j18, j19, j20, j21, j22, j23, ↓j25, ↓j27, ↓j29, ↓j38, ↓j43, ↓j44, ↓j45, ↓j48, ↓j51, ↓j58, ↓j60, ↓j74, ↓j76, ↓j78, ↓j79, ↓j89, j125, j126, j127, j128, j129, j134, j144, ↓j145, ↓j146, ↓j147, ↓j149, ↓j153, j157, partsAV, AV.proj, AV.offOf, AV.upd, AV.size, AV.sizeL, AV.layable, j163, j164, j166, j167, j169, j170, j171, j179, j180, reduceCtorEq, ↓reduceIte, Nat.reduceAdd, Nat.reduceMul, Nat.reduceEqDiff, Nat.reduceLeDiff, j182, j183, j185, j196, j197, j213, j214, j215, j217, Nat.reducePow, List.replicate, j234, j294, j295, j388, j391, j397, j450, j478, hb0]
    refine DoAppend_of rfl rfl at69 ?_
    have hu : Unif 6 [o.av] := unif_olds [o]
    simp -dsimp -implicitDefEqProofs only [↓j0, ↓j1, ↓j7, ↓j10, ↓j12, ↓j15, j17, j18, j19, j20, j21, j22, j23, ↓j25, ↓j27, ↓j29, ↓j30, j33, ↓j38, ↓j39, ↓j43, ↓j44, ↓j45, ↓j50, ↓j76, ↓j78, ↓j79, ↓j100, ↓j106, j107, j129, ↓j145, ↓j146, ↓j148, ↓j153, AV.proj, AV.offOf, AV.upd, AV.size, AV.sizeL, AV.layable, j163, j164, j166, j167, j168, j169, j170, j171, reduceCtorEq, ↓reduceIte, Nat.reduceAdd, Nat.reduceMul, Nat.reduceEqDiff, Nat.reduceLeDiff, j182, j196, j197, j223, ↓j225, j227, j228, j230, j231, Nat.reduceBEq, j234, j256, j387, j391, j392, j397, j459, hu, hwp]
    rw [if_pos (by rfl)] at hp
    refine fin1 4 1 [o] _ 0 _ _ _ rfl rfl ?_ ?_ ?_ ?_ ?_ hp.symm
    · rfl
    · rfl
    · rfl
    · rfl
    · rfl
  · refine CallTo.newAt 5 (args := [undoAV lsn xs]) rfl fok55 (by simp -dsimp -implicitDefEqProofs only [↓j25, ↓j29, j173, j174, ↓reduceIte]) (fun x hx => (args1 x hx).2) (show (3 : Nat) ≤ 5 by decide) (own_cons 3 lsn xs hx (by omega)) ?_
    simp -dsimp -implicitDefEqProofs only [↓j0, ↓j1, ↓j7, ↓j12, ↓j13, ↓j15, j17, j18, j19, j20, j21, j22, j23, ↓j25, ↓j27, ↓j29, ↓j38, ↓j43, ↓j44, ↓j45, ↓j48, ↓j58, ↓j61, ↓j76, ↓j78, ↓j79, ↓j89, j135, j143, ↓j145, ↓j146, ↓j149, ↓j153, j157, AV.proj, AV.offOf, AV.upd, AV.size, AV.sizeL, AV.layable, j163, j164, j166, j167, j170, j171, reduceCtorEq, ↓reduceIte, Nat.reduceAdd, Nat.reduceEqDiff, j182, j185, j196, j197, j388, j391, j397, j478]
    refine ⟨fun hpe => ?_, fun hpe => ?_⟩
    · have hpe' : p = xs.length := by simpa using hpe
      rw [if_pos hpe'] at hp
      simp -dsimp -implicitDefEqProofs only [↓j1, ↓j7, ↓j15, j17, j18, j20, ↓j25, ↓j27, ↓j29, ↓j43, ↓j45, ↓j51, ↓j74, ↓j76, ↓j79, j125, j126, j127, j128, j129, j135, ↓j145, ↓j146, ↓j153, partsAV, AV.proj, AV.offOf, AV.size, AV.sizeL, AV.layable, j163, j164, j166, j167, j169, j170, j171, j179, j180, reduceCtorEq, ↓reduceIte, Nat.reduceAdd, Nat.reduceMul, Nat.reduceEqDiff, Nat.reduceLeDiff, j182, j183, j196, j197, j213, j214, j215, j217, Nat.reducePow, List.replicate, j234, j294, j295, j388, j397, j450, hpe]
      refine DoAppend_of rfl rfl at69 ?_
      have hu : Unif 6 [o.av] := unif_olds [o]
      have hu2 := unif_olds xs
      simp -dsimp -implicitDefEqProofs only [↓j27, ↓j101, ↓j102, ↓j106, j107, ↓j145, ↓j146, ↓j153, AV.proj, AV.offOf, j166, reduceCtorEq, ↓reduceIte, Nat.reduceEqDiff, Nat.reduceLeDiff, j182, j184, j188, j189, j196, j197, j213, j214, j215, j222, j223, j227, j228, j230, j231, j234, hu, hu2]
      refine ⟨⟨by omega, by omega⟩, ?_⟩
      simp -dsimp -implicitDefEqProofs only [↓j0, ↓j1, ↓j7, ↓j10, ↓j12, ↓j15, j17, j18, j19, j20, j21, j22, j23, ↓j25, ↓j27, ↓j29, ↓j30, j33, ↓j38, ↓j39, ↓j43, ↓j44, ↓j45, ↓j50, ↓j76, ↓j78, ↓j79, j129, ↓j145, ↓j146, ↓j153, AV.proj, AV.offOf, AV.upd, AV.size, AV.sizeL, AV.layable, j163, j164, j166, j167, j168, j169, j170, j171, reduceCtorEq, ↓reduceIte, Nat.reduceAdd, Nat.reduceEqDiff, j182, j196, j197, ↓j225, j227, j228, j230, j231, j256, j387, j391, j392, j397, j459, hwp, take_olds]
      refine fin1 7 (xs.length + 1) (xs ++ [o]) (xs.map Old.av ++ [o.av]) p _ _ _ (by simp) (by rw [List.map_append, List.map_cons, List.map_nil]) ?_ ?_ ?_ ?_ ?_ hp.symm
      · rfl
      · rfl
      · rfl
      · rfl
      · rfl
    · have hpe' : ¬ p = xs.length := by simpa using hpe
      rw [if_neg hpe'] at hp
      obtain ⟨x0, hx0⟩ := list_get (xs := xs) (i := p.toNat) (by omega)
      have hsz := sizeL_olds xs p.toNat (by omega)
      have h0 : 0 ≤ p := by omega
      have hlt : p < (xs.length : Int) := by omega
      simp -dsimp -implicitDefEqProofs only [↓j0, ↓j1, ↓j7, ↓j10, ↓j12, ↓j15, j17, j18, j19, j20, j21, j22, j23, ↓j25, ↓j27, ↓j29, ↓j30, j33, ↓j38, ↓j39, ↓j43, ↓j44, ↓j45, ↓j46, ↓j50, ↓j76, ↓j78, ↓j79, ↓j93, j129, j135, ↓j145, ↓j146, ↓j153, AV.proj, AV.offOf, AV.upd, AV.size, AV.sizeL, AV.layable, j163, j164, j166, j167, j170, j171, j177, reduceCtorEq, ↓reduceIte, Nat.reduceAdd, Nat.reduceEqDiff, j182, j196, j197, j206, ↓j225, j256, j294, j295, j388, j389, j391, j392, j397, j459, hpe, h0, hlt, hx0, hsz, hwp]
      refine fin1 5 xs.length (xs.set p.toNat o) ((xs.map Old.av).set p.toNat o.av) p _ _ _ (by simp) (by rw [List.map_set]) ?_ ?_ ?_ ?_ ?_ hp.symm
      · rfl
      · rfl
      · rfl
      · rfl
      · rfl
end Go.Proofs.Ytimdepgenefkmaa.Slot
end
section
namespace Go.Proofs.Ytimdepgenefkmaa.Slot
open Go Go.RowKit

end Go.Proofs.Ytimdepgenefkmaa.Slot
end
section
namespace Go.Proofs.Ytimdepgenefkmaa.Slot
open Go Go.RowKit

theorem fok56 : fnOk Try.prog 56 = true := by kernel_rfl
def trimTo (xs : List Old) : Nat → Nat
  | 0 => 0
  | n + 1 => match xs[n]? with
    | some o => if o.live then n + 1 else trimTo xs n
    | none => 0
theorem trimTo_le (xs : List Old) : ∀ n, trimTo xs n ≤ n
  | 0 => Nat.le_refl _
  | n + 1 => by
    simp only [trimTo]
    have := trimTo_le xs n
    split
    · split <;> omega
    · omega
def freeP (lsn : Int) (xs : List Old) (k : Int) : Int × List Old × Int :=
  if (getP xs k).2 = false ∨ may xs = false then (0, [], 1) else
  let ys := xs.set k.toNat .zero
  (lsn, ys.take (trimTo ys ys.length), 0)
abbrev freeAV (r : Int × List Old × Int) : AV := .tuple [undoAV r.1 r.2.1, .int .i64 r.2.2]

theorem frz_take {H : Heap} {n c : Nat} {lsn : Int} {xs : List Old} {L : Nat} (hL : L ≤ xs.length) (h : Heap.get H n = some (.cells (.agg (xs.map Old.av)))) : Frz (fun _ => False) H (.agg [.int .u64 lsn, .sl n 0 [] 0 L c 6]) (undoAV lsn (xs.take L)) := by
  refine .agg _ _ rfl fun k hk => ?_
  match k, hk with
  | 0, _ => exact .same _ trivial
  | 1, _ =>
    have := Frz.sl (K := fun _ => False) (H := H) n 0 [] 0 L c 6 _ (xs.map Old.av) h (fun h => h) rfl rfl (by simp; omega) (unif_olds xs) (fun x hx => by
      obtain ⟨o, _, rfl⟩ := List.mem_map.1 (List.mem_of_mem_drop (List.mem_of_mem_take hx))
      simp [AV.on, AV.onL])
    rw [List.drop_zero, ← List.map_take] at this
    have e : (xs.take L).length = L := by rw [List.length_take]; omega
    show Frz _ H (.sl n 0 [] 0 L c 6) (.vsl ((xs.take L).map Old.av) (xs.take L).length)
    rw [e]
    exact this

def freeSt (lsn : Int) (ys : List Old) (L c : Nat) : St := ⟨54, [(2, .ptr 0 0 []), (4, .ptr 1 0 [])], [(0, .cells (.agg [.int .u64 lsn, .sl 5 0 [] 0 L c 6])), (1, .cells zeroU), (5, .cells (.agg (ys.map Old.av)))], 6⟩

theorem free_spec (lsn k : Int) (xs : List Old) (h0 : 0 ≤ k) (h1 : k ≤ 255) (hl : xs.length ≤ 9223372036854775807) : ACall Try.prog 37 [undoAV lsn xs, .int .u8 k] [] (freeAV (freeP lsn xs k)) [] := by
  refine ACall.run (Z := Z) (N := 54) mixed hZ Try.func37 rfl rfl (by kernel_rfl) (by simp) args5 0 ?_
  have fin0 : ∀ (t : Env) (H : Heap) (m : Nat), look t 4 = some (.ptr 1 0 []) → look t 5 = some (.int .i64 1) → Heap.get H 1 = some (.cells zeroU) → (0, [], 1) = freeP lsn xs k →
      Final Try.prog Try.f37 (freeAV (freeP lsn xs k)) [] .ret ⟨54, t, H, m⟩ := by
    intro t H m h1 h2 h3 h4
    rw [← h4]
    exact Final.many (.inr rfl) (rs := [.cell 4 71, .tmp 5]) (us := [zeroU, .int .i64 1]) rfl ⟨⟨1, 0, [], _, h1, h3, rfl, rfl, by simp -dsimp -implicitDefEqProofs only [j129, AV.size, AV.sizeL, Nat.reduceAdd, j182, j197, j391, j392]⟩, ⟨h2, fun vs h => by cases h⟩, trivial⟩ (by simp) ⟨frz0, .same _ trivial, trivial⟩
  simp -dsimp -implicitDefEqProofs only [↓j0, ↓j1, ↓j7, ↓j12, ↓j15, j17, j18, j20, ↓j25, ↓j27, ↓j29, ↓j30, j33, ↓j38, ↓j39, ↓j41, ↓j42, ↓j43, ↓j53, ↓j76, j129, ↓j145, ↓j146, ↓j153, AV.proj, AV.offOf, AV.size, AV.sizeL, AV.layable, argEnv, j170, j171, j172, reduceCtorEq, ↓reduceIte, Nat.reduceAdd, Nat.reduceEqDiff, j182, j196, j197, j391, j392, j433]
  refine CallTo.pure (args := [undoAV lsn xs, .int .u8 k]) rfl fok56 (by simp -dsimp -implicitDefEqProofs only [↓j25, ↓j29, j173, j174, ↓reduceIte, Nat.reduceEqDiff]) (fun x hx => (args5 x hx).2) (get_spec lsn k xs h0 h1) ?_
  cases hg : (getP xs k).2
  · simp -dsimp -implicitDefEqProofs only [↓j0, ↓j1, ↓j2, ↓j7, ↓j10, ↓j12, ↓j13, ↓j15, j17, j18, j19, j20, j21, j22, j23, ↓j25, ↓j27, ↓j29, ↓j30, j32, j33, ↓j38, ↓j39, ↓j40, ↓j41, ↓j44, ↓j54, ↓j55, ↓j57, ↓j78, j81, j84, j85, ↓j124, j125, j127, ↓j145, ↓j146, ↓j147, ↓j149, ↓j151, ↓j153, partsAV, AV.proj, AV.offOf, AV.upd, AV.size, AV.sizeL, AV.layable, j163, j164, j170, j171, j175, reduceCtorEq, ↓reduceIte, Nat.reduceAdd, Nat.reduceEqDiff, j182, j194, j197, j214, j218, j219, j294, j391, j423, j453]
    refine fin0 _ _ _ ?_ ?_ ?_ ?_
    · rfl
    · rfl
    · rfl
    · rw [freeP, if_pos (.inl hg)]
  simp -dsimp -implicitDefEqProofs only [↓j0, ↓j1, ↓j2, ↓j7, ↓j12, ↓j15, j17, j18, j19, j20, j21, j22, j23, ↓j25, ↓j27, ↓j29, ↓j38, ↓j39, ↓j41, ↓j43, ↓j44, ↓j53, ↓j55, ↓j57, ↓j76, ↓j78, j84, j85, j129, ↓j145, ↓j146, ↓j148, ↓j151, ↓j153, AV.proj, AV.offOf, AV.upd, AV.size, AV.sizeL, AV.layable, j163, j164, j170, j171, j175, reduceCtorEq, ↓reduceIte, Nat.reduceAdd, Nat.reduceEqDiff, j182, j193, j197, j294, j391, j392, j423]
  refine CallTo.pure (args := [undoAV lsn xs]) rfl fok53 (by simp -dsimp -implicitDefEqProofs only [↓j25, ↓j29, j173, j174, ↓reduceIte]) (fun x hx => (args1 x hx).2) (may_spec lsn xs hl) ?_
  cases hm : may xs
  · simp -dsimp -implicitDefEqProofs only [↓j0, ↓j1, ↓j2, ↓j7, ↓j10, ↓j12, ↓j13, ↓j15, j17, j18, j19, j20, j21, j22, j23, ↓j25, ↓j27, ↓j29, ↓j30, j32, j33, ↓j39, ↓j40, ↓j44, ↓j54, ↓j55, ↓j78, j83, j84, ↓j124, j125, j127, ↓j145, ↓j146, ↓j147, ↓j148, ↓j149, ↓j151, ↓j153, partsAV, AV.proj, AV.offOf, AV.upd, AV.size, AV.sizeL, AV.layable, j163, j164, j170, j171, j175, reduceCtorEq, ↓reduceIte, Nat.reduceAdd, Nat.reduceEqDiff, j182, j194, j195, j197, j214, j218, j219, j391, j453]
    refine fin0 _ _ _ ?_ ?_ ?_ ?_
    · rfl
    · rfl
    · rfl
    · rw [freeP, if_pos (.inr hm)]
  have hlen := may_len hm
  obtain ⟨x0, hx0⟩ : ∃ x0, xs[k.toNat]? = some x0 := by
    cases hx : xs[k.toNat]? with
    | none => simp [getP, hx] at hg
    | some x0 => exact ⟨x0, rfl⟩
  have hkl : k.toNat < xs.length := by
    rcases Nat.lt_or_ge k.toNat xs.length with h | h
    · exact h
    · rw [List.getElem?_eq_none h] at hx0; cases hx0
  have hx : xs ≠ [] := fun h => by subst h; simp at hkl
  have hf : freeP lsn xs k = (lsn, (xs.set k.toNat .zero).take (trimTo (xs.set k.toNat .zero) xs.length), 0) := by
    rw [freeP, if_neg (by simp [hg, hm])]
    simp
  have hsz := sizeL_olds xs k.toNat (by omega)
  have hlt : k < (xs.length : Int) := by omega
  simp -dsimp -implicitDefEqProofs only [↓j0, ↓j1, ↓j2, ↓j7, ↓j9, ↓j12, ↓j13, ↓j15, j17, j18, j20, ↓j25, ↓j27, ↓j29, ↓j30, j32, ↓j40, ↓j43, ↓j53, ↓j55, ↓j76, j83, j84, j129, ↓j145, ↓j146, ↓j148, ↓j149, ↓j151, ↓j153, AV.proj, AV.offOf, AV.size, AV.sizeL, j163, j164, j171, j175, reduceCtorEq, ↓reduceIte, Nat.reduceAdd, Nat.reduceEqDiff, j182, j193, j195, j197, j391, j392]
  refine CallTo.newAt 5 (args := [undoAV lsn xs]) rfl fok55 (by simp -dsimp -implicitDefEqProofs only [↓j25, ↓j29, j173, j174, ↓reduceIte]) (fun x hx => (args1 x hx).2) (show (3 : Nat) ≤ 5 by decide) (own_cons 3 lsn xs hx (by omega)) ?_
  have hset : (xs.map Old.av).set k.toNat Old.zero.av = (xs.set k.toNat .zero).map Old.av := by rw [List.map_set]
  have hset' : (xs.map Old.av).set k.toNat (AV.agg [AV.bool false, AV.int IntKind.u16 0, AV.int IntKind.u32 0, AV.agg [AV.int IntKind.u16 0, AV.int IntKind.u8 0], AV.str { data := #[] }]) = (xs.set k.toNat .zero).map Old.av := hset
  have hyl : (xs.set k.toNat .zero).length = xs.length := List.length_set
  obtain ⟨ys, hys⟩ : ∃ ys, xs.set k.toNat .zero = ys := ⟨_, rfl⟩
  rw [hys] at hset' hyl hf
  simp -dsimp -implicitDefEqProofs only [↓j0, ↓j1, ↓j7, ↓j12, ↓j14, ↓j15, ↓j16, j17, j18, j19, j20, j21, j22, j23, ↓j25, ↓j27, ↓j29, ↓j38, ↓j43, ↓j44, ↓j45, ↓j46, ↓j54, ↓j76, ↓j78, ↓j79, ↓j93, ↓j124, j125, j127, j135, ↓j145, ↓j146, ↓j153, partsAV, AV.proj, AV.offOf, AV.upd, AV.size, AV.sizeL, AV.layable, j163, j164, j166, j167, j170, j171, j177, reduceCtorEq, ↓reduceIte, Nat.reduceAdd, Nat.reduceEqDiff, j182, j196, j197, j206, j214, j218, j219, j294, j388, j389, j391, j397, j441, h0, hlt, hx0, hsz, hset']
  refine AWp.loopR (Z := Z) mixed hZ (by kernel_rfl) (fun n s => n ≤ xs.length ∧ trimTo ys n = trimTo ys xs.length ∧ s = freeSt lsn ys n xs.length) (n0 := xs.length) (s0 := freeSt lsn ys xs.length xs.length) ?_ ⟨Nat.le_refl _, rfl, rfl⟩ ?_ rfl
  · exact Wk.sub (by simp -dsimp -implicitDefEqProofs only [↓j25, ↓j27, reduceCtorEq, ↓reduceIte, Nat.reduceEqDiff, j182, j202, j203, j204, j205, j223] <;> simp)
  · rintro n s ⟨hn, ht, rfl⟩
    refine ⟨rfl, ?_⟩
    have fin1 : ∀ (t : Env) (H : Heap) (nx : Nat), look t 4 = some (.ptr 1 0 []) → look t 5 = some (.int .i64 0) → Heap.get H 1 = some (.cells (.agg [.int .u64 lsn, .sl 5 0 [] 0 n xs.length 6])) → Heap.get H 5 = some (.cells (.agg (ys.map Old.av))) → trimTo ys n = n →
        Final Try.prog Try.f37 (freeAV (freeP lsn xs k)) [] .ret ⟨54, t, H, nx⟩ := by
      intro t H nx h1 h2 h3 h5 h4
      rw [hf, ← ht, h4]
      exact Final.many (.inr rfl) (rs := [.cell 4 71, .tmp 5]) (us := [.agg [.int .u64 lsn, .sl 5 0 [] 0 n xs.length 6], .int .i64 0]) rfl ⟨⟨1, 0, [], _, h1, h3, rfl, rfl, by simp -dsimp -implicitDefEqProofs only [j129, AV.size, AV.sizeL, Nat.reduceAdd, j182, j197, j391, j392]⟩, ⟨h2, fun vs h => by cases h⟩, trivial⟩ (by simp) ⟨frz_take (by omega) h5, .same _ trivial, trivial⟩
    cases n with
    | zero =>
      have hd : decide ((0 : Int) < ((0 : Nat) : Int)) = false := rfl
      simp -dsimp -implicitDefEqProofs only [freeSt, ↓j0, ↓j1, ↓j2, ↓j7, ↓j10, ↓j11, ↓j12, ↓j13, ↓j15, j17, j18, j19, j20, j21, j22, j23, ↓j25, ↓j27, ↓j29, ↓j30, j32, j33, ↓j38, ↓j39, ↓j40, ↓j43, ↓j44, ↓j45, ↓j48, ↓j58, ↓j61, ↓j76, ↓j78, ↓j79, j82, ↓j89, j129, j135, j143, ↓j145, ↓j146, ↓j148, ↓j149, ↓j150, ↓j153, j161, AV.proj, AV.offOf, AV.upd, AV.size, AV.sizeL, AV.layable, j163, j164, j166, j167, j170, j171, j175, reduceCtorEq, ↓reduceIte, Nat.reduceAdd, Nat.reduceEqDiff, j182, j185, j196, j197, j388, j391, j392, j397, j478, hd]
      refine fin1 _ _ _ ?_ ?_ ?_ ?_ ?_
      · rfl
      · rfl
      · rfl
      · rfl
      · rfl
    | succ n =>
      have hd : decide ((0 : Int) < ((n + 1 : Nat) : Int)) = true := decide_eq_true (by omega)
      obtain ⟨o, ho⟩ := list_get (xs := ys) (i := n) (by omega)
      have hw : IntKind.i64.wrap (((n + 1 : Nat) : Int) - 1) = (n : Int) := by rw [wrap_i64 (by omega) (by omega)]; omega
      have hnlt : (n : Int) < ((n + 1 : Nat) : Int) := by omega
      have hsz2 := sizeL_olds ys n (by omega)
      have hle : n ≤ n + 1 := Nat.le_succ n
      have hle2 : n ≤ xs.length := by omega
      have h0n : (0 : Int) ≤ (n : Int) := by omega
      have hnle : (n : Int) ≤ ((n + 1 : Nat) : Int) := by omega
      have hnle2 : (n : Int) ≤ (xs.length : Int) := by omega
      simp -dsimp -implicitDefEqProofs only [freeSt, ↓j0, ↓j1, ↓j2, ↓j7, ↓j12, ↓j13, ↓j15, j17, j18, j20, ↓j25, ↓j27, ↓j29, ↓j30, j32, j33, ↓j38, ↓j40, ↓j43, ↓j45, ↓j46, ↓j48, ↓j55, ↓j58, ↓j61, ↓j76, ↓j79, j83, j84, ↓j89, ↓j93, j131, j135, j143, ↓j145, ↓j146, ↓j147, ↓j149, ↓j150, ↓j153, j155, j161, AV.proj, AV.offOf, AV.size, AV.sizeL, j163, j164, j166, j167, j170, j171, j175, j177, reduceCtorEq, ↓reduceIte, Nat.reduceEqDiff, j182, j185, j196, j197, j206, j207, j208, j253, j297, j388, j389, j397, j478, hd, hw, ho, hnlt, hsz2]
      refine ⟨fun hl => ?_, fun hl => ?_⟩
      · have hl' : o.live = false := by simpa using hl
        simp -dsimp -implicitDefEqProofs only [↓j0, ↓j1, ↓j7, ↓j9, ↓j14, ↓j15, j17, j18, j19, j20, j21, j22, j23, ↓j25, ↓j27, ↓j29, ↓j30, j33, ↓j43, ↓j44, ↓j45, ↓j48, ↓j49, ↓j58, ↓j61, ↓j76, ↓j78, ↓j79, ↓j89, ↓j99, j135, j143, ↓j145, ↓j146, ↓j153, j155, AV.proj, AV.offOf, AV.upd, AV.size, AV.sizeL, AV.layable, j163, j164, j166, j167, j168, j169, j170, j171, reduceCtorEq, ↓reduceIte, Nat.reduceEqDiff, Int.reduceToNat, j182, j185, j194, j196, j197, j207, bndAV, j232, j233, j234, j387, j388, j389, j397, j478, hl', hw, h0n, hnle2]
        refine ⟨n, freeSt lsn ys n xs.length, by omega, ⟨hle2, ?_, rfl⟩, Wk.sub (by simp -dsimp -implicitDefEqProofs only [↓j25, ↓j27, reduceCtorEq, ↓reduceIte, Nat.reduceEqDiff, j182, j202, j203, j204, j205, j223] <;> simp)⟩
        rw [← ht, trimTo]
        simp [ho, hl']
      · have hl' : o.live = true := by simpa using hl
        simp -dsimp -implicitDefEqProofs only [↓j0, ↓j1, ↓j7, ↓j10, ↓j11, ↓j12, ↓j15, j17, j18, j19, j20, j21, j22, j23, ↓j25, ↓j27, ↓j29, ↓j30, j33, ↓j39, ↓j43, ↓j44, ↓j76, ↓j78, j129, ↓j145, ↓j146, ↓j153, AV.proj, AV.offOf, AV.upd, AV.size, AV.sizeL, AV.layable, j170, j171, reduceCtorEq, ↓reduceIte, Nat.reduceAdd, Nat.reduceEqDiff, j182, j193, j197, j391, j392, hl']
        refine fin1 _ _ _ ?_ ?_ ?_ ?_ ?_
        · rfl
        · rfl
        · rfl
        · rfl
        · simp [trimTo, ho, hl']
end Go.Proofs.Ytimdepgenefkmaa.Slot
end
section
namespace Go.Proofs.Ytimdepgenefkmaa.Slot
open Go Go.RowKit

theorem deadAt_get : ∀ {xs : List Old} {i : Nat}, deadAt xs = some i → ∃ d, xs[i]? = some d ∧ d.live = false
  | [], i, h => by simp [deadAt] at h
  | x :: xs, i, h => by
    simp only [deadAt] at h
    split at h
    · cases hd : deadAt xs with
      | none => simp [hd] at h
      | some j =>
        simp [hd] at h; subst h
        obtain ⟨d, h1, h2⟩ := deadAt_get hd
        exact ⟨d, by simpa using h1, h2⟩
    · rename_i hx
      simp at h; subst h
      exact ⟨x, rfl, by simpa using hx⟩
theorem set_self {α : Type} : ∀ {xs : List α} {i : Nat} {d : α}, xs[i]? = some d → xs.set i d = xs
  | [], i, d, h => by simp at h
  | x :: xs, 0, d, h => by simp at h; subst h; rfl
  | x :: xs, i + 1, d, h => by
    simp only [List.getElem?_cons_succ] at h
    rw [List.set_cons_succ, set_self h]
theorem get_set {α : Type} : ∀ {xs : List α} {i : Nat} {d e : α}, xs[i]? = some d → (xs.set i e)[i]? = some e
  | [], i, d, e, h => by simp at h
  | x :: xs, 0, d, e, h => by simp
  | x :: xs, i + 1, d, e, h => by
    simp only [List.getElem?_cons_succ] at h
    rw [List.set_cons_succ, List.getElem?_cons_succ]
    exact get_set h
theorem sizeOf_set : ∀ {xs : List Old} {i : Nat} {d : Old} (o : Old), xs[i]? = some d → sizeOf' (xs.set i o) + d.cost = sizeOf' xs + o.cost
  | [], i, d, o, h => by simp at h
  | x :: xs, 0, d, o, h => by simp at h; subst h; simp [sizeOf']; omega
  | x :: xs, i + 1, d, o, h => by
    simp only [List.getElem?_cons_succ] at h
    have := sizeOf_set o h
    simp [sizeOf'] at this ⊢; omega
theorem liveN_set : ∀ {xs : List Old} {i : Nat} {d : Old} (o : Old), xs[i]? = some d → d.live = false → o.live = true → liveN (xs.set i o) = liveN xs + 1
  | [], i, d, o, h, _, _ => by simp at h
  | x :: xs, 0, d, o, h, h1, h2 => by simp at h; subst h; simp [liveN, h1, h2]
  | x :: xs, i + 1, d, o, h, h1, h2 => by
    simp only [List.getElem?_cons_succ] at h
    have := liveN_set o h h1 h2
    rw [List.set_cons_succ]
    simp only [liveN, List.filter_cons] at this ⊢
    split <;> simp [this]
theorem liveN_append (xs : List Old) (o : Old) (h : o.live = true) : liveN (xs ++ [o]) = liveN xs + 1 := by
  simp [liveN, h]
theorem trimTo_append (xs : List Old) (e : List Old) : ∀ n, n ≤ xs.length → trimTo (xs ++ e) n = trimTo xs n
  | 0, _ => rfl
  | n + 1, h => by
    simp only [trimTo]
    rw [List.getElem?_append_left (by omega), trimTo_append xs e n (by omega)]
theorem trimTo_last {xs : List Old} (h : lastOk xs = true) : trimTo xs xs.length = xs.length := by
  cases hl : xs.length with
  | zero => rfl
  | succ n =>
    obtain ⟨o, ho⟩ := list_get (xs := xs) (i := n) (by omega)
    have : lastOk xs = o.live := by
      unfold lastOk
      rw [hl, Nat.add_sub_cancel, ho]
    rw [this] at h
    simp [trimTo, ho, h]
theorem may_iff {xs : List Old} : may xs = true ↔ xs.length ≤ 15 ∧ lastOk xs = true ∧ xs.all okOld = true ∧ sizeOf' xs ≤ 224 := by
  simp only [may, Bool.and_eq_true, decide_eq_true_eq, and_assoc]
theorem dead_zero {d : Old} (h : okOld d = true) (hl : d.live = false) : d = .zero := by
  simp only [okOld, hl, Bool.false_or, Bool.and_eq_true] at h
  exact same_iff.1 h.1

theorem add_ok {lsn : Int} {xs : List Old} {o : Old} (h : (addP lsn xs o).2.2.2 = 0) :
    ∃ ys p, addP lsn xs o = (lsn, ys, p, 0) ∧ may xs = true ∧ o.live = true ∧ o.delta.size ≤ 66 ∧
      ((p = xs.length ∧ ys = xs ++ [o] ∧ xs.length < 15 ∧ deadAt xs = none ∧ sizeOf' xs + 11 + o.delta.size ≤ 224) ∨
       (∃ i, p = (i : Nat) ∧ deadAt xs = some i ∧ ys = xs.set i o ∧ sizeOf' xs + 10 + o.delta.size ≤ 224)) := by
  unfold addP at h ⊢
  by_cases hc : may xs = false ∨ o.live = false ∨ 66 < o.delta.size
  · rw [if_pos hc] at h; simp at h
  rw [if_neg hc] at h ⊢
  rw [not_or, not_or] at hc
  obtain ⟨h1, h2, h3⟩ := hc
  have h1 : may xs = true := by simpa using h1
  have h2 : o.live = true := by simpa using h2
  have h3 : o.delta.size ≤ 66 := by omega
  by_cases hp : place xs o.delta.size < 0
  · simp [hp] at h
  simp only [hp, if_false] at h ⊢
  have hlen := may_len h1
  cases hd : deadAt xs with
  | none =>
    have hpl : place xs o.delta.size = if xs.length = 15 ∨ 224 < (sizeOf' xs : Int) + 11 + (o.delta.size : Int) then (-1 : Int) else (xs.length : Int) := by
      rw [place, if_neg (by simp only [h1, Bool.true_eq_false, or_false]; omega), hd]
    by_cases hx : xs.length = 15 ∨ 224 < (sizeOf' xs : Int) + 11 + (o.delta.size : Int)
    · rw [if_pos hx] at hpl; omega
    rw [if_neg hx] at hpl
    rw [if_pos hpl]
    exact ⟨_, _, rfl, h1, h2, h3, .inl ⟨hpl, rfl, by omega, rfl, by omega⟩⟩
  | some i =>
    have hpl : place xs o.delta.size = if 224 < (sizeOf' xs : Int) + 10 + (o.delta.size : Int) then (-1 : Int) else (i : Int) := by
      rw [place, if_neg (by simp only [h1, Bool.true_eq_false, or_false]; omega), hd]
    by_cases hx : 224 < (sizeOf' xs : Int) + 10 + (o.delta.size : Int)
    · rw [if_pos hx] at hpl; omega
    rw [if_neg hx] at hpl
    obtain ⟨d, hg, _⟩ := deadAt_get hd
    have hlt : i < xs.length := by
      rcases Nat.lt_or_ge i xs.length with h | h
      · exact h
      · rw [List.getElem?_eq_none h] at hg; cases hg
    rw [if_neg (by omega)]
    refine ⟨_, _, rfl, h1, h2, h3, .inr ⟨i, hpl, rfl, ?_, by omega⟩⟩
    rw [hpl]; rfl

theorem add_back {lsn : Int} {xs : List Old} {o : Old} (h : (addP lsn xs o).2.2.2 = 0) :
    ∃ ys p, addP lsn xs o = (lsn, ys, p, 0) ∧ 0 ≤ p ∧ p ≤ 15 ∧ ys.length ≤ 15 ∧ getP ys p = (o, true) ∧ freeP lsn ys p = (lsn, xs, 0) ∧ liveN ys = liveN xs + 1 ∧ may ys = true := by
  obtain ⟨ys, p, he, h1, h2, h3, hc⟩ := add_ok h
  have hm := may_iff.1 h1
  have hko : okOld o = true := by simp [okOld, h2, h3]
  have hco : o.cost = 10 + o.delta.size := by simp [Old.cost, h2]
  rcases hc with ⟨hp, rfl, hlen, hd, hs⟩ | ⟨i, hp, hd, rfl, hs⟩
  · subst hp
    have hget : (xs ++ [o])[xs.length]? = some o := by simp
    have hmay : may (xs ++ [o]) = true := by
      refine may_iff.2 ⟨by simp; omega, by simp [lastOk, h2], by simp [hko, hm.2.2.1], ?_⟩
      simp only [sizeOf', List.map_append, List.sum_append, List.map_cons, List.map_nil, List.sum_cons, List.sum_nil, hco] at hs ⊢; omega
    refine ⟨_, _, he, by omega, by omega, by simp; omega, by simp [getP, h2], ?_, liveN_append xs o h2, hmay⟩
    rw [freeP, if_neg (by simp [hmay, getP, h2])]
    simp only [Int.toNat_natCast]
    have hset : (xs ++ [o]).set xs.length .zero = xs ++ [.zero] := by simp
    rw [hset, List.length_append, List.length_singleton]
    have ht : trimTo (xs ++ [.zero]) (xs.length + 1) = xs.length := by
      have : trimTo (xs ++ [.zero]) (xs.length + 1) = trimTo (xs ++ [.zero]) xs.length := by simp [trimTo, Old.zero]
      rw [this, trimTo_append xs _ _ (Nat.le_refl _), trimTo_last hm.2.1]
    rw [ht]
    simp
  · subst hp
    obtain ⟨d, hg, hl⟩ := deadAt_get hd
    have hlt : i < xs.length := by
      rcases Nat.lt_or_ge i xs.length with h | h
      · exact h
      · rw [List.getElem?_eq_none h] at hg; cases hg
    have hd0 : d = .zero := dead_zero (List.all_eq_true.1 hm.2.2.1 d (List.mem_of_getElem? hg)) hl
    have hs2 := sizeOf_set o hg
    have hcd : d.cost = 0 := by simp [Old.cost, hl]
    have hmay : may (xs.set i o) = true := by
      refine may_iff.2 ⟨by simp; omega, ?_, ?_, by omega⟩
      · have hlast := hm.2.1
        simp only [lastOk, List.length_set] at hlast ⊢
        by_cases hi : i = xs.length - 1
        · rw [← hi, get_set hg]; exact h2
        · rw [List.getElem?_set_ne hi]; exact hlast
      · rw [List.all_eq_true]
        intro x hx
        rcases List.mem_or_eq_of_mem_set hx with h | rfl
        · exact List.all_eq_true.1 hm.2.2.1 x h
        · exact hko
    have hgp : getP (xs.set i o) i = (o, true) := by
      simp only [getP, Int.toNat_natCast, get_set hg, h2, if_true]
    refine ⟨_, _, he, by omega, by omega, by simp; omega, hgp, ?_, liveN_set o hg hl h2, hmay⟩
    rw [freeP, if_neg (by simp [hmay, hgp])]
    simp only [Int.toNat_natCast]
    rw [List.set_set, ← hd0, set_self hg, trimTo_last hm.2.1]
    simp
end Go.Proofs.Ytimdepgenefkmaa.Slot
end
