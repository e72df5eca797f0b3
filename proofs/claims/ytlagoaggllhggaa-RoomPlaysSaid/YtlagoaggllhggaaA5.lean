/- Fits, Live, Get, Kept. -/
import Derived.Test.YtlagoaggllhggaaA4
set_option linter.unusedVariables false
set_option linter.unusedSimpArgs false
namespace Go.Proofs.Ytlagoaggllhggaa
open Go Go.RowKit

theorem fok24 : fnOk Try.prog 24 = true := by kernel_rfl
def fits (xs : List Old) (n : Int) : Bool := decide (0 ≤ place xs n)

theorem fits_spec (lsn : Int) (xs : List Old) (n : Int) (hl : xs.length ≤ 9223372036854775807) : ACall Try.prog 18 [undoAV lsn xs, .int .i64 n] [] (.bool (fits xs n)) [] := by
  refine ACall.run (Z := Z) (N := 9) mixed hZ Try.func18 rfl rfl (by kernel_rfl) (by simp) args2 0 ?_
  simp -dsimp -implicitDefEqProofs only [↓j0, ↓j1, ↓j7, ↓j12, ↓j15, j17, j18, j20, ↓j25, ↓j27, ↓j29, ↓j30, j32, ↓j38, ↓j39, ↓j42, ↓j43, ↓j53, ↓j76, j129, ↓j145, ↓j146, ↓j153, AV.proj, AV.offOf, AV.size, AV.sizeL, AV.layable, argEnv, j171, j172, reduceCtorEq, ↓reduceIte, Nat.reduceAdd, Nat.reduceEqDiff, j182, j196, j197, j289, j290]
  refine CallTo.pure (args := [undoAV lsn xs, .int .i64 n]) rfl fok24 (by simp -dsimp -implicitDefEqProofs only [↓j25, ↓j29, j173, j174, ↓reduceIte, Nat.reduceEqDiff]) (fun x hx => (args2 x hx).2) (place_spec lsn xs n hl) ?_
  simp -dsimp -implicitDefEqProofs only [↓j0, ↓j1, ↓j10, j17, j18, j20, ↓j25, ↓j29, ↓j30, j33, ↓j39, ↓j48, ↓j89, ↓j145, ↓j146, j162, j171, ↓reduceIte, j185]
  exact Final.one (.inr rfl) (r := .tmp 4) rfl ⟨rfl, fun vs h => by cases h⟩ (fun vs h => by cases h) (fun vs h => by cases h) (.same _ trivial)

def liveN (xs : List Old) : Nat := (xs.filter (·.live)).length
theorem liveN_take {xs : List Old} {i : Nat} {o : Old} (h : xs[i]? = some o) : liveN (xs.take (i + 1)) = liveN (xs.take i) + (if o.live then 1 else 0) := by
  rw [take_succ h, liveN, liveN, List.filter_append, List.length_append]
  cases hl : o.live <;> simp [hl]
theorem liveN_le (xs : List Old) : liveN xs ≤ xs.length := List.length_filter_le _ _

def liveSt (xs : List Old) (i acc : Nat) : St := ⟨19, [(9, .int .i64 i), (8, .int .i64 xs.length), (7, rowAV xs), (3, .int .i64 acc), (2, .int .i64 0)], [], i + 1⟩

theorem live_spec (lsn : Int) (xs : List Old) (hl : xs.length ≤ 9223372036854775807) : ACall Try.prog 16 [undoAV lsn xs] [] (.int .i64 (liveN xs)) [] := by
  refine ACall.run (Z := Z) (N := 19) mixed hZ Try.func16 rfl rfl (by kernel_rfl) (by simp) args1 0 ?_
  simp -dsimp -implicitDefEqProofs only [↓j0, ↓j1, ↓j7, ↓j12, ↓j14, ↓j15, ↓j16, j17, j18, j20, ↓j25, ↓j27, ↓j29, ↓j30, j33, ↓j38, ↓j39, ↓j42, ↓j43, ↓j45, ↓j58, ↓j62, ↓j76, ↓j79, j133, j142, ↓j145, ↓j146, ↓j153, AV.proj, AV.offOf, AV.size, AV.sizeL, AV.layable, argEnv, j163, j164, j166, j167, j171, j172, ↓reduceIte, Nat.reduceEqDiff, j182, j196, j197, j286, j295, j416]
  refine AWp.loopR (Z := Z) mixed hZ (by kernel_rfl) (fun n s => ∃ i, i + n = xs.length ∧ s = liveSt xs i (liveN (xs.take i))) (n0 := xs.length) (s0 := liveSt xs 0 0) ?_ ⟨0, by omega, rfl⟩ ?_ rfl
  · exact Wk.sub (by simp -dsimp -implicitDefEqProofs only [↓j25, j179, ↓reduceIte, Nat.reduceEqDiff, j182, j183, j184, j196, j202, j203, j204, j209, j223] <;> simp)
  · rintro n s ⟨i, hi, rfl⟩
    refine ⟨rfl, ?_⟩
    simp -dsimp -implicitDefEqProofs only [liveSt, ↓j0, ↓j1, ↓j7, ↓j12, ↓j13, ↓j15, j17, j18, j20, ↓j25, ↓j29, ↓j48, ↓j89, ↓j145, ↓j146, ↓j149, j159, j172, ↓reduceIte, Nat.reduceEqDiff, j185]
    refine ⟨fun hlt => ?_, fun hge => ?_⟩
    · have hlt' : (i : Int) < (xs.length : Int) := of_decide_eq_true hlt
      obtain ⟨o, ho⟩ := list_get (xs := xs) (i := i) (by omega)
      have hsz := sizeL_olds xs i (by omega)
      have hle := liveN_le (xs.take i)
      rw [List.length_take] at hle
      have hw : IntKind.i64.wrap ((i : Int) + 1) = ((i + 1 : Nat) : Int) := by rw [wrap_i64 (by omega) (by omega)]; omega
      have hw2 : IntKind.i64.wrap ((liveN (xs.take i) : Int) + 1) = ((liveN (xs.take i) + 1 : Nat) : Int) := by rw [wrap_i64 (by omega) (by omega)]; omega
      simp -dsimp -implicitDefEqProofs only [↓j0, ↓j1, ↓j7, ↓j9, ↓j12, ↓j13, ↓j14, ↓j15, j17, j18, j19, j20, j21, j22, j23, ↓j25, ↓j27, ↓j29, ↓j41, ↓j43, ↓j44, ↓j45, ↓j46, ↓j76, ↓j77, ↓j78, ↓j79, ↓j92, j129, j131, ↓j145, ↓j146, ↓j149, ↓j153, AV.proj, AV.offOf, AV.upd, AV.size, AV.sizeL, AV.layable, j163, j167, j171, j172, j177, ↓reduceIte, Nat.reduceAdd, Nat.reduceEqDiff, j182, j191, j197, j206, j207, j208, j224, j253, j287, j328, j329, j331, j380, ho, hlt', hsz]
      have hc := liveN_take ho
      cases hl : o.live
      all_goals
        simp only [hl, if_true, Bool.false_eq_true, if_false] at hc
        simp -dsimp -implicitDefEqProofs only [↓j0, ↓j1, ↓j7, ↓j9, ↓j15, j17, j18, j20, ↓j25, ↓j29, ↓j30, j33, ↓j38, ↓j39, ↓j48, ↓j89, ↓j145, ↓j146, ↓j147, ↓j148, j154, j171, ↓reduceIte, Nat.reduceEqDiff, j185]
        refine ⟨n - 1, liveSt xs (i + 1) (liveN (xs.take (i + 1))), by omega, ⟨i + 1, by omega, rfl⟩, Wk.sub ?_⟩
        simp -dsimp -implicitDefEqProofs only [↓j25, ↓reduceIte, Nat.reduceAdd, Nat.reduceEqDiff, j182, j197, j202, j203, j204, j223, j224, hc, hw, hw2]
        try simp
    · have hge : ¬ (i : Int) < (xs.length : Int) := of_decide_eq_false hge
      have : xs.take i = xs := List.take_of_length_le (by omega)
      simp -dsimp -implicitDefEqProofs only [↓j0, ↓j1, ↓j7, ↓j10, ↓j11, ↓j12, ↓j15, j17, j18, j20, ↓j25, ↓j29, ↓j38, ↓j39, ↓j145, j172, ↓reduceIte, Nat.reduceEqDiff]
      rw [this]
      exact Final.one (.inr rfl) (r := .tmp 2) rfl ⟨rfl, fun vs h => by cases h⟩ (fun vs h => by cases h) (fun vs h => by cases h) (.same _ trivial)

def getP (xs : List Old) (k : Int) : Old × Bool := match xs[k.toNat]? with
  | some o => if o.live then (o, true) else (.zero, false)
  | none => (.zero, false)
theorem args5 {lsn k : Int} {xs : List Old} : ∀ x, x ∈ [undoAV lsn xs, .int .u8 k] → AV.on (fun _ => False) x ∧ ∀ vs, x ≠ .tuple vs := args2

theorem get_spec (lsn k : Int) (xs : List Old) (h0 : 0 ≤ k) (h1 : k ≤ 255) : ACall Try.prog 19 [undoAV lsn xs, .int .u8 k] [] (.tuple [(getP xs k).1.av, .bool (getP xs k).2]) [] := by
  refine ACall.run (Z := Z) (N := 27) mixed hZ Try.func19 rfl rfl (by kernel_rfl) (by simp) args5 0 ?_
  have hwk : IntKind.i64.wrap k = k := wrap_i64 (by omega) (by omega)
  have fin : ∀ (a : Old) (b : Bool) (t : Env) (H : Heap) (m : Nat), look t 4 = some (.ptr 1 0 []) → look t 5 = some (.bool b) → Heap.get H 1 = some (.cells a.av) → (a, b) = getP xs k →
      Final Try.prog Try.f19 (.tuple [(getP xs k).1.av, .bool (getP xs k).2]) [] .ret ⟨27, t, H, m⟩ := by
    intro a b t H m h1 h2 h3 h4
    rw [← h4]
    refine Final.many (.inr rfl) (rs := [.cell 4 50, .tmp 5]) (us := [a.av, .bool b]) rfl ⟨⟨1, 0, [], _, h1, h3, rfl, rfl, by simp -dsimp -implicitDefEqProofs only [j129, AV.size, AV.sizeL, Nat.reduceAdd, j182, j197, j328, j329]⟩, ⟨h2, fun vs h => by cases h⟩, trivial⟩ (by simp) ⟨.same _ (by simp [AV.on, AV.onL]), .same _ trivial, trivial⟩
  simp -dsimp -implicitDefEqProofs only [↓j0, ↓j1, ↓j2, ↓j7, ↓j12, ↓j15, j17, j18, j20, ↓j25, ↓j27, ↓j29, ↓j30, j32, ↓j38, ↓j39, ↓j41, ↓j42, ↓j43, ↓j45, ↓j48, ↓j50, ↓j58, ↓j62, ↓j76, ↓j79, ↓j89, j133, j142, ↓j145, ↓j146, ↓j151, ↓j153, j162, AV.proj, AV.offOf, AV.size, AV.sizeL, AV.layable, argEnv, j163, j164, j166, j167, j170, j171, j172, j175, reduceCtorEq, ↓reduceIte, Nat.reduceAdd, Nat.reduceEqDiff, j182, j185, j196, j197, ↓j225, j251, j286, j295, j380, j408, j416, hwk]
  refine ⟨fun h => ?_, fun h => ?_⟩
  · have h' := of_decide_eq_true h
    simp -dsimp -implicitDefEqProofs only [↓j0, ↓j1, ↓j2, ↓j7, ↓j10, ↓j12, ↓j13, ↓j15, j17, j18, j19, j20, j21, j22, j23, ↓j25, ↓j27, ↓j29, ↓j30, j32, ↓j39, ↓j40, ↓j44, ↓j54, ↓j78, j81, ↓j124, j125, j127, ↓j145, ↓j146, ↓j147, ↓j149, ↓j151, ↓j153, partsAV, AV.proj, AV.offOf, AV.upd, AV.size, AV.sizeL, AV.layable, j163, j164, j170, j171, j175, reduceCtorEq, ↓reduceIte, Nat.reduceAdd, Nat.reduceEqDiff, j182, j197, j214, j218, j219, j328, j400, h]
    refine fin .zero false _ _ _ ?_ ?_ ?_ ?_
    · rfl
    · rfl
    · rfl
    · have : xs[k.toNat]? = none := List.getElem?_eq_none (by omega)
      simp [getP, this]
  · have h' := of_decide_eq_false h
    obtain ⟨o, ho⟩ := list_get (xs := xs) (i := k.toNat) (by omega)
    have hsz := sizeL_olds xs k.toNat (by omega)
    have hlt : k < (xs.length : Int) := by omega
    simp -dsimp -implicitDefEqProofs only [↓j0, ↓j1, ↓j2, ↓j13, j17, j18, j20, ↓j25, ↓j27, ↓j29, ↓j30, j32, ↓j38, ↓j40, ↓j43, ↓j45, ↓j46, ↓j55, ↓j76, ↓j77, ↓j79, ↓j80, j83, j84, ↓j92, j131, j133, ↓j145, ↓j146, ↓j148, ↓j149, ↓j151, ↓j153, AV.proj, AV.offOf, AV.size, AV.sizeL, j163, j164, j166, j167, j170, j171, j175, j177, reduceCtorEq, ↓reduceIte, Nat.reduceEqDiff, j182, j195, j196, j197, j206, j253, j286, j287, j295, j331, h, h0, hlt, ho, hsz]
    cases hl : o.live
    · simp -dsimp -implicitDefEqProofs only [↓j0, ↓j1, ↓j7, ↓j10, ↓j12, ↓j15, j17, j18, j19, j20, j21, j22, j23, ↓j25, ↓j27, ↓j29, ↓j30, j32, ↓j39, ↓j44, ↓j54, ↓j78, ↓j124, j125, j127, ↓j145, ↓j146, ↓j147, ↓j153, partsAV, AV.proj, AV.offOf, AV.upd, AV.size, AV.sizeL, AV.layable, j170, j171, reduceCtorEq, ↓reduceIte, Nat.reduceAdd, Nat.reduceEqDiff, j182, j194, j197, j214, j218, j219, j328, j400]
      refine fin .zero false _ _ _ ?_ ?_ ?_ ?_
      · rfl
      · rfl
      · rfl
      · simp [getP, ho, hl]
    · simp -dsimp -implicitDefEqProofs only [↓j0, ↓j1, ↓j7, ↓j9, ↓j10, ↓j12, ↓j15, j17, j18, j19, j20, j21, j22, j23, ↓j25, ↓j27, ↓j29, ↓j30, j32, ↓j38, ↓j39, ↓j43, ↓j44, ↓j45, ↓j46, ↓j76, ↓j77, ↓j78, ↓j79, ↓j92, j129, j133, ↓j145, ↓j146, ↓j148, ↓j153, AV.proj, AV.offOf, AV.upd, AV.size, AV.sizeL, AV.layable, j163, j164, j166, j167, j170, j171, j177, reduceCtorEq, ↓reduceIte, Nat.reduceAdd, Nat.reduceEqDiff, j182, j193, j196, j197, j206, j286, j287, j295, j328, j329, h0, hlt, ho, hsz]
      refine fin o true _ _ _ ?_ ?_ ?_ ?_
      · rfl
      · rfl
      · simp -dsimp -implicitDefEqProofs only [↓j27, ↓reduceIte]
      · simp [getP, ho, hl]

theorem frz_row {H : Heap} {n : Nat} {lsn : Int} {xs : List Old} (h : Heap.get H n = some (.cells (.agg (xs.map Old.av)))) : Frz (fun _ => False) H (.agg [.int .u64 lsn, .sl n 0 [] 0 xs.length xs.length 6]) (undoAV lsn xs) := by
  refine .agg _ _ rfl fun k hk => ?_
  match k, hk with
  | 0, _ => exact .same _ trivial
  | 1, _ =>
    have := Frz.sl (K := fun _ => False) (H := H) n 0 [] 0 xs.length xs.length 6 _ (xs.map Old.av) h (fun h => h) rfl rfl (by simp) (unif_olds xs) (fun x hx => by
      obtain ⟨o, _, rfl⟩ := List.mem_map.1 (List.mem_of_mem_drop (List.mem_of_mem_take hx))
      simp [AV.on, AV.onL])
    rw [List.drop_zero, take_olds] at this
    exact this

theorem kept_spec (lsn : Int) (xs : List Old) (hb : xs.length * 32 ≤ 140737488355328) : ACall Try.prog 9 [undoAV lsn xs] [] (undoAV lsn xs) [] := by
  refine ACall.run (Z := Z) (N := 10) mixed hZ Try.func9 rfl rfl (by kernel_rfl) (by simp) args1 0 ?_
  simp -dsimp -implicitDefEqProofs only [↓j0, ↓j1, ↓j4, ↓j7, ↓j8, ↓j12, ↓j15, j17, j18, j20, j24, ↓j25, ↓j27, ↓j29, ↓j41, ↓j42, ↓j43, ↓j45, ↓j51, ↓j74, ↓j76, ↓j79, j125, j127, j130, j133, ↓j145, ↓j146, ↓j153, partsAV, AV.proj, AV.offOf, AV.size, AV.sizeL, AV.layable, argEnv, j163, j164, j166, j167, j170, j171, j172, j173, j174, reduceCtorEq, ↓reduceIte, Nat.reduceAdd, Nat.reduceEqDiff, j182, j196, j197, j214, j218, j219, j226, Nat.reducePow, List.replicate, j234, j283, j286, j292, j295, j374, j391]
  refine DoAppend_of rfl rfl at31 ?_
  have hu := unif_olds xs
  have hl : xs.length ≤ 9223372036854775807 := by omega
  have hu0 : Unif 6 [] := fun x hx => by simp at hx
  simp -dsimp -implicitDefEqProofs only [↓j3, ↓j4, j17, j18, j19, j20, j21, j22, j23, j24, ↓j25, ↓j27, ↓j29, ↓j44, ↓j54, ↓j78, ↓j101, ↓j102, ↓j104, ↓j124, j125, j126, j127, j128, ↓j145, ↓j146, ↓j153, partsAV, AV.proj, AV.offOf, AV.upd, AV.size, AV.sizeL, AV.layable, j163, j164, j166, j167, j168, j169, j170, j171, j172, j173, j174, j179, j180, reduceCtorEq, ↓reduceIte, Nat.reduceAdd, Nat.reduceEqDiff, j182, j183, j188, j189, j196, j197, j213, j214, j215, j216, j217, j222, j223, j228, j229, j231, j234, j289, j293, j296, j394, hu, hu0, take_olds, hb, hl]
  refine ⟨by kernel_rfl, ?_⟩
  simp -dsimp -implicitDefEqProofs only [↓j10]
  exact Final.one (.inr rfl) (r := .cell 2 33) rfl ⟨1, 0, [], _, rfl, rfl, rfl, rfl, by simp -dsimp -implicitDefEqProofs only [j129, AV.size, AV.sizeL, Nat.reduceAdd, j182, j197, j289, j290]⟩ (fun vs h => by cases h) (fun vs h => by cases h) (frz_row (n := 3) rfl)
end Go.Proofs.Ytlagoaggllhggaa
