/- Fits, Live, Get, Kept. -/
import Derived.Test.YtlagoaggllhggaaA4
set_option linter.unusedVariables false
set_option linter.unusedSimpArgs false
namespace Go.Proofs.Ytlagoaggllhggaa
open Go Go.RowKit

theorem fok24 : fnOk Try.prog 24 = true := by kernel_rfl
def fits (xs : List Old) (n : Int) : Bool := decide (0 ≤ place xs n)

theorem fits_spec (lsn : Int) (xs : List Old) (n : Int) (hl : xs.length ≤ 9223372036854775807) : ACall Try.prog 18 [undoAV lsn xs, .int .i64 n] [] (.bool (fits xs n)) [] := by
  refine ACall.run (Z := Z) (N := 9) mixed hZ Try.func18 rfl rfl (by kernel_rfl) (by simp) args2 0 ?_
  simp -dsimp -implicitDefEqProofs only [↓j0, ↓j1, ↓j7, ↓j12, ↓j15, j17, j18, j20, ↓j25, ↓j27, ↓j29, ↓j30, j32, ↓j38, ↓j39, ↓j42, ↓j43, ↓j53, ↓j63, j116, ↓j129, ↓j130, ↓j137, AV.proj, AV.offOf, AV.size, AV.sizeL, AV.layable, argEnv, j155, j156, reduceCtorEq, ↓reduceIte, Nat.reduceAdd, Nat.reduceEqDiff, j166, j180, j181, j262, j263]
  refine CallTo.pure (args := [undoAV lsn xs, .int .i64 n]) rfl fok24 (by simp -dsimp -implicitDefEqProofs only [↓j25, ↓j29, j157, j158, ↓reduceIte, Nat.reduceEqDiff]) (fun x hx => (args2 x hx).2) (place_spec lsn xs n hl) ?_
  simp -dsimp -implicitDefEqProofs only [↓j0, ↓j1, ↓j10, j17, j18, j20, ↓j25, ↓j29, ↓j30, j33, ↓j39, ↓j48, ↓j76, ↓j129, ↓j130, j146, j155, ↓reduceIte, j169]
  exact Final.one (.inr rfl) (r := .tmp 4) rfl ⟨rfl, fun vs h => by cases h⟩ (fun vs h => by cases h) (fun vs h => by cases h) (.same _ trivial)

def liveN (xs : List Old) : Nat := (xs.filter (·.live)).length
theorem liveN_take {xs : List Old} {i : Nat} {o : Old} (h : xs[i]? = some o) : liveN (xs.take (i + 1)) = liveN (xs.take i) + (if o.live then 1 else 0) := by
  rw [take_succ h, liveN, liveN, List.filter_append, List.length_append]
  cases hl : o.live <;> simp [hl]
theorem liveN_le (xs : List Old) : liveN xs ≤ xs.length := List.length_filter_le _ _

def liveSt (xs : List Old) (i acc : Nat) : St := ⟨19, [(9, .int .i64 i), (8, .int .i64 xs.length), (7, rowAV xs), (3, .int .i64 acc), (2, .int .i64 0)], [], i + 1⟩

theorem live_spec (lsn : Int) (xs : List Old) (hl : xs.length ≤ 9223372036854775807) : ACall Try.prog 16 [undoAV lsn xs] [] (.int .i64 (liveN xs)) [] := by
  refine ACall.run (Z := Z) (N := 19) mixed hZ Try.func16 rfl rfl (by kernel_rfl) (by simp) args1 0 ?_
  simp -dsimp -implicitDefEqProofs only [↓j0, ↓j1, ↓j7, ↓j12, ↓j14, ↓j15, ↓j16, j17, j18, j20, ↓j25, ↓j27, ↓j29, ↓j30, j33, ↓j38, ↓j39, ↓j42, ↓j43, ↓j45, ↓j58, ↓j63, ↓j66, j120, j126, ↓j129, ↓j130, ↓j137, AV.proj, AV.offOf, AV.size, AV.sizeL, AV.layable, argEnv, j147, j148, j150, j151, j155, j156, ↓reduceIte, Nat.reduceEqDiff, j166, j180, j181, j259, j268, j388]
  refine AWp.loopR (Z := Z) mixed hZ (by kernel_rfl) (fun n s => ∃ i, i + n = xs.length ∧ s = liveSt xs i (liveN (xs.take i))) (n0 := xs.length) (s0 := liveSt xs 0 0) ?_ ⟨0, by omega, rfl⟩ ?_ rfl
  · exact Wk.sub (by simp -dsimp -implicitDefEqProofs only [↓j25, j163, ↓reduceIte, Nat.reduceEqDiff, j166, j167, j168, j180, j186, j187, j188, j193, j207] <;> simp)
  · rintro n s ⟨i, hi, rfl⟩
    refine ⟨rfl, ?_⟩
    simp -dsimp -implicitDefEqProofs only [liveSt, ↓j0, ↓j1, ↓j7, ↓j12, ↓j13, ↓j15, j17, j18, j20, ↓j25, ↓j29, ↓j48, ↓j76, ↓j129, ↓j130, ↓j133, j143, j156, ↓reduceIte, Nat.reduceEqDiff, j169]
    refine ⟨fun hlt => ?_, fun hge => ?_⟩
    · have hlt' : (i : Int) < (xs.length : Int) := of_decide_eq_true hlt
      obtain ⟨o, ho⟩ := list_get (xs := xs) (i := i) (by omega)
      have hsz := sizeL_olds xs i (by omega)
      have hle := liveN_le (xs.take i)
      rw [List.length_take] at hle
      have hw : IntKind.i64.wrap ((i : Int) + 1) = ((i + 1 : Nat) : Int) := by rw [wrap_i64 (by omega) (by omega)]; omega
      have hw2 : IntKind.i64.wrap ((liveN (xs.take i) : Int) + 1) = ((liveN (xs.take i) + 1 : Nat) : Int) := by rw [wrap_i64 (by omega) (by omega)]; omega
      simp -dsimp -implicitDefEqProofs only [↓j0, ↓j1, ↓j7, ↓j9, ↓j12, ↓j13, ↓j14, ↓j15, j17, j18, j19, j20, j21, j22, j23, ↓j25, ↓j27, ↓j29, ↓j41, ↓j43, ↓j44, ↓j45, ↓j46, ↓j63, ↓j64, ↓j65, ↓j66, ↓j79, j116, j118, ↓j129, ↓j130, ↓j133, ↓j137, AV.proj, AV.offOf, AV.upd, AV.size, AV.sizeL, AV.layable, j147, j151, j155, j156, j161, ↓reduceIte, Nat.reduceAdd, Nat.reduceEqDiff, j166, j175, j181, j190, j191, j192, j208, j226, j260, j301, j302, j304, j353, ho, hlt', hsz]
      have hc := liveN_take ho
      cases hl : o.live
      all_goals
        simp only [hl, if_true, Bool.false_eq_true, if_false] at hc
        simp -dsimp -implicitDefEqProofs only [↓j0, ↓j1, ↓j7, ↓j9, ↓j15, j17, j18, j20, ↓j25, ↓j29, ↓j30, j33, ↓j38, ↓j39, ↓j48, ↓j76, ↓j129, ↓j130, ↓j131, ↓j132, j138, j155, ↓reduceIte, Nat.reduceEqDiff, j169]
        refine ⟨n - 1, liveSt xs (i + 1) (liveN (xs.take (i + 1))), by omega, ⟨i + 1, by omega, rfl⟩, Wk.sub ?_⟩
        simp -dsimp -implicitDefEqProofs only [↓j25, ↓reduceIte, Nat.reduceAdd, Nat.reduceEqDiff, j166, j181, j186, j187, j188, j207, j208, hc, hw, hw2]
        try simp
    · have hge : ¬ (i : Int) < (xs.length : Int) := of_decide_eq_false hge
      have : xs.take i = xs := List.take_of_length_le (by omega)
      simp -dsimp -implicitDefEqProofs only [↓j0, ↓j1, ↓j7, ↓j10, ↓j11, ↓j12, ↓j15, j17, j18, j20, ↓j25, ↓j29, ↓j38, ↓j39, ↓j129, j156, ↓reduceIte, Nat.reduceEqDiff]
      rw [this]
      exact Final.one (.inr rfl) (r := .tmp 2) rfl ⟨rfl, fun vs h => by cases h⟩ (fun vs h => by cases h) (fun vs h => by cases h) (.same _ trivial)

def getP (xs : List Old) (k : Int) : Old × Bool := match xs[k.toNat]? with
  | some o => if o.live then (o, true) else (.zero, false)
  | none => (.zero, false)
theorem args5 {lsn k : Int} {xs : List Old} : ∀ x, x ∈ [undoAV lsn xs, .int .u8 k] → AV.on (fun _ => False) x ∧ ∀ vs, x ≠ .tuple vs := args2

theorem get_spec (lsn k : Int) (xs : List Old) (h0 : 0 ≤ k) (h1 : k ≤ 255) : ACall Try.prog 19 [undoAV lsn xs, .int .u8 k] [] (.tuple [(getP xs k).1.av, .bool (getP xs k).2]) [] := by
  refine ACall.run (Z := Z) (N := 27) mixed hZ Try.func19 rfl rfl (by kernel_rfl) (by simp) args5 0 ?_
  have hwk : IntKind.i64.wrap k = k := wrap_i64 (by omega) (by omega)
  have fin : ∀ (a : Old) (b : Bool) (t : Env) (H : Heap) (m : Nat), look t 4 = some (.ptr 1 0 []) → look t 5 = some (.bool b) → Heap.get H 1 = some (.cells a.av) → (a, b) = getP xs k →
      Final Try.prog Try.f19 (.tuple [(getP xs k).1.av, .bool (getP xs k).2]) [] .ret ⟨27, t, H, m⟩ := by
    intro a b t H m h1 h2 h3 h4
    rw [← h4]
    refine Final.many (.inr rfl) (rs := [.cell 4 50, .tmp 5]) (us := [a.av, .bool b]) rfl ⟨⟨1, 0, [], _, h1, h3, rfl, rfl, by simp -dsimp -implicitDefEqProofs only [j116, AV.size, AV.sizeL, Nat.reduceAdd, j166, j181, j301, j302]⟩, ⟨h2, fun vs h => by cases h⟩, trivial⟩ (by simp) ⟨.same _ (by simp [AV.on, AV.onL]), .same _ trivial, trivial⟩
  simp -dsimp -implicitDefEqProofs only [↓j0, ↓j1, ↓j2, ↓j7, ↓j12, ↓j15, j17, j18, j20, ↓j25, ↓j27, ↓j29, ↓j30, j32, ↓j38, ↓j39, ↓j41, ↓j42, ↓j43, ↓j45, ↓j48, ↓j50, ↓j58, ↓j63, ↓j66, ↓j76, j120, j126, ↓j129, ↓j130, ↓j135, ↓j137, j146, AV.proj, AV.offOf, AV.size, AV.sizeL, AV.layable, argEnv, j147, j148, j150, j151, j154, j155, j156, j159, reduceCtorEq, ↓reduceIte, Nat.reduceAdd, Nat.reduceEqDiff, j166, j169, j180, j181, ↓j209, j224, j259, j268, j353, j380, j388, hwk]
  refine ⟨fun h => ?_, fun h => ?_⟩
  · have h' := of_decide_eq_true h
    simp -dsimp -implicitDefEqProofs only [↓j0, ↓j1, ↓j2, ↓j7, ↓j10, ↓j12, ↓j13, ↓j15, j17, j18, j19, j20, j21, j22, j23, ↓j25, ↓j27, ↓j29, ↓j30, j32, ↓j39, ↓j40, ↓j44, ↓j54, ↓j65, j68, ↓j111, j112, j114, ↓j129, ↓j130, ↓j131, ↓j133, ↓j135, ↓j137, partsAV, AV.proj, AV.offOf, AV.upd, AV.size, AV.sizeL, AV.layable, j147, j148, j154, j155, j159, reduceCtorEq, ↓reduceIte, Nat.reduceAdd, Nat.reduceEqDiff, j166, j181, j198, j202, j203, j301, j373, h]
    refine fin .zero false _ _ _ ?_ ?_ ?_ ?_
    · rfl
    · rfl
    · rfl
    · have : xs[k.toNat]? = none := List.getElem?_eq_none (by omega)
      simp [getP, this]
  · have h' := of_decide_eq_false h
    obtain ⟨o, ho⟩ := list_get (xs := xs) (i := k.toNat) (by omega)
    have hsz := sizeL_olds xs k.toNat (by omega)
    have hlt : k < (xs.length : Int) := by omega
    simp -dsimp -implicitDefEqProofs only [↓j0, ↓j1, ↓j2, ↓j13, j17, j18, j20, ↓j25, ↓j27, ↓j29, ↓j30, j32, ↓j38, ↓j40, ↓j43, ↓j45, ↓j46, ↓j55, ↓j63, ↓j64, ↓j66, ↓j67, j70, j71, ↓j79, j118, j120, ↓j129, ↓j130, ↓j132, ↓j133, ↓j135, ↓j137, AV.proj, AV.offOf, AV.size, AV.sizeL, j147, j148, j150, j151, j154, j155, j159, j161, reduceCtorEq, ↓reduceIte, Nat.reduceEqDiff, j166, j179, j180, j181, j190, j226, j259, j260, j268, j304, h, h0, hlt, ho, hsz]
    cases hl : o.live
    · simp -dsimp -implicitDefEqProofs only [↓j0, ↓j1, ↓j7, ↓j10, ↓j12, ↓j15, j17, j18, j19, j20, j21, j22, j23, ↓j25, ↓j27, ↓j29, ↓j30, j32, ↓j39, ↓j44, ↓j54, ↓j65, ↓j111, j112, j114, ↓j129, ↓j130, ↓j131, ↓j137, partsAV, AV.proj, AV.offOf, AV.upd, AV.size, AV.sizeL, AV.layable, j154, j155, reduceCtorEq, ↓reduceIte, Nat.reduceAdd, Nat.reduceEqDiff, j166, j178, j181, j198, j202, j203, j301, j373]
      refine fin .zero false _ _ _ ?_ ?_ ?_ ?_
      · rfl
      · rfl
      · rfl
      · simp [getP, ho, hl]
    · simp -dsimp -implicitDefEqProofs only [↓j0, ↓j1, ↓j7, ↓j9, ↓j10, ↓j12, ↓j15, j17, j18, j19, j20, j21, j22, j23, ↓j25, ↓j27, ↓j29, ↓j30, j32, ↓j38, ↓j39, ↓j43, ↓j44, ↓j45, ↓j46, ↓j63, ↓j64, ↓j65, ↓j66, ↓j79, j116, j120, ↓j129, ↓j130, ↓j132, ↓j137, AV.proj, AV.offOf, AV.upd, AV.size, AV.sizeL, AV.layable, j147, j148, j150, j151, j154, j155, j161, reduceCtorEq, ↓reduceIte, Nat.reduceAdd, Nat.reduceEqDiff, j166, j177, j180, j181, j190, j259, j260, j268, j301, j302, h0, hlt, ho, hsz]
      refine fin o true _ _ _ ?_ ?_ ?_ ?_
      · rfl
      · rfl
      · simp -dsimp -implicitDefEqProofs only [↓j27, ↓reduceIte]
      · simp [getP, ho, hl]

theorem frz_row {H : Heap} {n : Nat} {lsn : Int} {xs : List Old} (h : Heap.get H n = some (.cells (.agg (xs.map Old.av)))) : Frz (fun _ => False) H (.agg [.int .u64 lsn, .sl n 0 [] 0 xs.length xs.length 6]) (undoAV lsn xs) := by
  refine .agg _ _ rfl fun k hk => ?_
  match k, hk with
  | 0, _ => exact .same _ trivial
  | 1, _ =>
    have := Frz.sl (K := fun _ => False) (H := H) n 0 [] 0 xs.length xs.length 6 _ (xs.map Old.av) h (fun h => h) rfl rfl (by simp) (unif_olds xs) (fun x hx => by
      obtain ⟨o, _, rfl⟩ := List.mem_map.1 (List.mem_of_mem_drop (List.mem_of_mem_take hx))
      simp [AV.on, AV.onL])
    rw [List.drop_zero, take_olds] at this
    exact this

theorem kept_spec (lsn : Int) (xs : List Old) (hb : xs.length * 32 ≤ 140737488355328) : ACall Try.prog 9 [undoAV lsn xs] [] (undoAV lsn xs) [] := by
  refine ACall.run (Z := Z) (N := 10) mixed hZ Try.func9 rfl rfl (by kernel_rfl) (by simp) args1 0 ?_
  simp -dsimp -implicitDefEqProofs only [↓j0, ↓j1, ↓j4, ↓j7, ↓j8, ↓j12, ↓j15, j17, j18, j20, j24, ↓j25, ↓j27, ↓j29, ↓j41, ↓j42, ↓j43, ↓j45, ↓j51, ↓j61, ↓j63, ↓j66, j112, j114, j117, j120, ↓j129, ↓j130, ↓j137, partsAV, AV.proj, AV.offOf, AV.size, AV.sizeL, AV.layable, argEnv, j147, j148, j150, j151, j154, j155, j156, j157, j158, reduceCtorEq, ↓reduceIte, Nat.reduceAdd, Nat.reduceEqDiff, j166, j180, j181, j198, j202, j203, j210, Nat.reducePow, List.replicate, j218, j256, j259, j265, j268, j347, j364]
  refine DoAppend_of rfl rfl at31 ?_
  have hu := unif_olds xs
  have hl : xs.length ≤ 9223372036854775807 := by omega
  have hu0 : Unif 6 [] := fun x hx => by simp at hx
  simp -dsimp -implicitDefEqProofs only [↓j3, ↓j4, j17, j18, j19, j20, j21, j22, j23, j24, ↓j25, ↓j27, ↓j29, ↓j44, ↓j54, ↓j65, ↓j88, ↓j89, ↓j91, ↓j111, j112, j113, j114, j115, ↓j129, ↓j130, ↓j137, partsAV, AV.proj, AV.offOf, AV.upd, AV.size, AV.sizeL, AV.layable, j147, j148, j150, j151, j152, j153, j154, j155, j156, j157, j158, j163, j164, reduceCtorEq, ↓reduceIte, Nat.reduceAdd, Nat.reduceEqDiff, j166, j167, j172, j173, j180, j181, j197, j198, j199, j200, j201, j206, j207, j212, j213, j215, j218, j262, j266, j269, j367, hu, hu0, take_olds, hb, hl]
  refine ⟨by kernel_rfl, ?_⟩
  simp -dsimp -implicitDefEqProofs only [↓j10]
  exact Final.one (.inr rfl) (r := .cell 2 33) rfl ⟨1, 0, [], _, rfl, rfl, rfl, rfl, by simp -dsimp -implicitDefEqProofs only [j116, AV.size, AV.sizeL, Nat.reduceAdd, j166, j181, j262, j263]⟩ (fun vs h => by cases h) (fun vs h => by cases h) (frz_row (n := 3) rfl)
end Go.Proofs.Ytlagoaggllhggaa
