/- A log's beginning, that rises. -/
import Derived.Test.YtimdepgenefkmaaQ8
set_option maxRecDepth 8000
set_option linter.unusedVariables false
set_option linter.unusedSimpArgs false
namespace Go.Proofs.Ytimdepgenefkmaa
open Go Go.RowKit

def fewL : Nat → List En → List En
  | _, [] => []
  | i, e :: r => { e with lsn := i + 1 } :: fewL (i + 1) r
theorem fewL_len : ∀ (i : Nat) (l : List En), (fewL i l).length = l.length
  | _, [] => rfl
  | i, e :: r => by rw [fewL, List.length_cons, List.length_cons, fewL_len]
theorem fewL_append : ∀ (i : Nat) (a b : List En), fewL i (a ++ b) = fewL i a ++ fewL (i + a.length) b
  | i, [], b => by simp [fewL]
  | i, e :: a, b => by
    rw [List.cons_append, fewL, fewL, fewL_append (i + 1) a b, List.cons_append, List.length_cons, show i + 1 + a.length = i + (a.length + 1) by omega]
theorem fewL_take {l : List En} {i : Nat} {e : En} (h : l[i]? = some e) : fewL 0 (l.take (i + 1)) = fewL 0 (l.take i) ++ [{ e with lsn := i + 1 }] := by
  have hi : i < l.length := by
    rcases Nat.lt_or_ge i l.length with h1 | h1
    · exact h1
    · rw [List.getElem?_eq_none h1] at h; cases h
  rw [take_succ h, fewL_append, List.length_take, Nat.min_eq_left (by omega)]
  simp [fewL]
theorem fewL_ok : ∀ (i : Nat) (l : List En), i + l.length < 18446744073709551616 → (∀ e, e ∈ l → e.Ok) → ∀ e, e ∈ fewL i l → e.Ok
  | _, [], _, _, e, h => by cases h
  | i, x :: r, hi, hl, e, h => by
    rw [List.length_cons] at hi
    rcases List.mem_cons.1 h with rfl | h
    · exact ⟨by show i + 1 < _; omega, (hl x (List.mem_cons_self ..)).rc⟩
    · exact fewL_ok (i + 1) r (by omega) (fun y hy => hl y (List.mem_cons_of_mem _ hy)) e h
def fewP (l : List En) : List En := fewL 0 (l.take 40)
theorem args_ens {l : List En} : ∀ x, x ∈ [ensAV l] → AV.on (fun _ => False) x ∧ ∀ vs, x ≠ .tuple vs := fun x hx => by
  simp only [List.mem_singleton] at hx; subst hx
  exact ⟨on_ens _ _, fun vs h => by cases h⟩
theorem take_ens (xs : List En) : (xs.map En.av).take xs.length = xs.map En.av := List.take_of_length_le (by simp)
/-- The list that is made: nil, or memory of its own. -/
def eoT (l : List En) (a : Nat) : Bool → AV
  | false => .nilsl
  | true => .sl a 0 [] 0 l.length l.length 239
def eoH (l : List En) (a : Nat) : Bool → Heap
  | false => []
  | true => [(a, .cells (.agg (l.map En.av)))]
def fwSt (log l : List En) (x : Bool) (i a c : Nat) : St := ⟨29, [(4, .int .i64 i), (3, eoT l a x), (0, ensAV log), (2, .nilsl)], eoH l a x, c + 1⟩
theorem few_spec (log : List En) (hl : ∀ e, e ∈ log → e.Ok) (hn : log.length ≤ 9223372036854775807) : ACall Try.prog 13 [ensAV log] [] (ensAV (fewP log)) [] := by
  refine ACall.run (Z := Z) (N := 29) mixed hZ Try.func13 rfl rfl (by kernel_rfl) (by simp) args_ens 0 ?_
  have fin : ∀ (l : List En) (x : Bool) (a : Nat) (t : Env) (H : Heap) (m : Nat), l = fewP log → (∀ e, e ∈ l → e.Ok) → (x = false → l = []) → look t 2 = some (eoT l a x) → (x = true → Heap.get H a = some (.cells (.agg (l.map En.av)))) → Final Try.prog Try.f13 (ensAV (fewP log)) [] .ret ⟨29, t, H, m⟩ := by
    intro l x a t H m hl hok hx h2 ho
    subst hl
    cases x
    · rw [hx rfl]
      exact Final.one (.inr rfl) (r := .tmp 2) rfl ⟨h2, fun vs h => by cases h⟩ (fun vs h => by cases h) (fun vs h => by cases h) .nil
    · refine Final.one (.inr rfl) (r := .tmp 2) rfl ⟨h2, fun vs h => by cases h⟩ (fun vs h => by cases h) (fun vs h => by cases h) ?_
      have := Frz.sl (K := fun _ => False) (H := H) a 0 [] 0 (fewP log).length (fewP log).length 239 _ ((fewP log).map En.av) (ho rfl) (fun h => h) rfl rfl (by simp) (unif_en _ hok) (fun x hx => by
        obtain ⟨o, _, rfl⟩ := List.mem_map.1 (List.mem_of_mem_drop (List.mem_of_mem_take hx)); exact on_en _ _)
      rw [List.drop_zero, take_ens] at this
      exact this
  simp -dsimp -implicitDefEqProofs only [↓j0, ↓j1, ↓j7, ↓j12, ↓j14, ↓j15, ↓j16, j17, j18, j20, ↓j30, j33, j36, ↓j39, ↓j145, argEnv, j172]
  refine AWp.loopR (Z := Z) mixed hZ (by kernel_rfl) (fun n s => ∃ i x a c, i + n = 40 ∧ i ≤ log.length ∧ (x = false → fewL 0 (log.take i) = []) ∧ a ≤ c ∧ s = fwSt log (fewL 0 (log.take i)) x i a c) (n0 := 40) (s0 := fwSt log [] false 0 0 0) ?_ ⟨0, false, 0, 0, by omega, by omega, fun _ => rfl, by omega, rfl⟩ ?_ rfl
  · exact Wk.sub (by simp -dsimp -implicitDefEqProofs only [↓j25, j179, reduceCtorEq, ↓reduceIte, Nat.reduceEqDiff, j182, j183, j184, j196, j202, j203, j204, j209, j226, eoT, eoH] <;> simp)
  rintro n s ⟨i, x, a, c, hi, hil, hx, hac, rfl⟩
  refine ⟨rfl, ?_⟩
  have hok : ∀ e, e ∈ fewL 0 (log.take i) → e.Ok := fewL_ok 0 _ (by rw [List.length_take]; omega) fun e he => hl e (List.mem_of_mem_take he)
  by_cases hin : i < log.length ∧ i < 40
  · have e1 : decide ((i : Int) < (log.length : Int)) = true := decide_eq_true (by omega)
    have e2 : decide ((i : Int) < 40) = true := decide_eq_true (by omega)
    have i1 : (i : Int) < (log.length : Int) := by omega
    obtain ⟨e, he⟩ := list_get (xs := log) (i := i) (by omega)
    have heo := hl e (List.mem_of_getElem? he)
    have hi2 := heo.rc.image
    have hsz : AV.sizeL ((log.map En.av).take i) = i * 239 := (unif_en log hl).sizeL_take (by simp; omega)
    have hw : IntKind.i64.wrap ((i : Int) + 1) = ((i + 1 : Nat) : Int) := by rw [wrap_i64 (by omega) (by omega)]; omega
    have hw2 : IntKind.u64.wrap ((i + 1 : Nat) : Int) = ((i + 1 : Nat) : Int) := by rw [wrap_u64, Nat.mod_eq_of_lt (by omega)]
    have hft := fewL_take he
    have f1 : (a = c + 1) = False := by simp; omega
    have f2 : (a = c + 2) = False := by simp; omega
    have f3 : (a = c + 3) = False := by simp; omega
    have g1 : (c + 1 = a) = False := by simp; omega
    have g2 : (c + 2 = a) = False := by simp; omega
    have g3 : (c + 3 = a) = False := by simp; omega
    obtain ⟨l, hle⟩ : ∃ l, fewL 0 (log.take i) = l := ⟨_, rfl⟩
    have hll : l.length = i := by rw [← hle, fewL_len, List.length_take]; omega
    rw [hle] at hft hok hx ⊢
    have hE : En.Ok { e with lsn := i + 1 } := ⟨by show i + 1 < _; omega, heo.rc⟩
    have hu1 : Unif 239 [En.av { e with lsn := i + 1 }] := unif_en [{ e with lsn := i + 1 }] fun y hy => by rw [List.mem_singleton.1 hy]; exact hE
    have huL := unif_en l hok
    cases x
    all_goals
      simp -dsimp -implicitDefEqProofs only [↓j0, ↓j1, ↓j2, ↓j7, ↓j9, ↓j12, ↓j13, ↓j14, ↓j15, j17, j18, j19, j20, j21, j22, j23, ↓j25, ↓j27, ↓j29, ↓j30, j32, j33, ↓j38, ↓j40, ↓j41, ↓j43, ↓j44, ↓j45, ↓j46, ↓j48, ↓j50, ↓j51, ↓j58, ↓j62, ↓j74, ↓j76, ↓j77, ↓j78, ↓j79, j83, ↓j89, ↓j92, j125, j126, j127, j128, j129, j142, ↓j145, ↓j146, ↓j147, ↓j149, ↓j150, ↓j153, j154, j159, partsAV, AV.proj, AV.offOf, AV.upd, AV.size, AV.sizeL, AV.layable, j163, j164, j167, j169, j170, j171, j172, j175, j177, j179, j180, reduceCtorEq, ↓reduceIte, Nat.reduceAdd, Nat.reduceMul, Nat.reduceEqDiff, Nat.reduceLeDiff, j182, j183, j185, j191, j197, j206, j207, j208, j213, j214, j215, j217, j224, ↓j225, Nat.reducePow, List.replicate, j234, j240, j243, j278, j280, j341, j342, j344, j356, j425, j444, j459, j473, fwSt, eoT, eoH, e2, i1, he, hsz, hi2, hw, hw2, g1]
      refine DoAppend_of rfl rfl at44 ?_
      simp -dsimp -implicitDefEqProofs only [↓j0, ↓j1, ↓j7, ↓j15, j17, j18, j20, ↓j25, ↓j27, ↓j29, ↓j30, j33, ↓j38, ↓j39, ↓j48, ↓j89, ↓j100, ↓j101, ↓j102, ↓j106, j107, ↓j145, ↓j146, ↓j148, ↓j153, j154, AV.proj, AV.offOf, j166, j170, j171, ↓reduceIte, Nat.reduceAdd, Nat.reduceMul, Nat.reduceEqDiff, Nat.reduceLeDiff, j182, j184, j185, j188, j189, j196, j197, j213, j214, j215, j222, j223, j224, j227, j228, j230, j231, Nat.reduceBEq, j234, hu1, huL, f1, f2, f3]
    · have hl0 := hx rfl
      subst hl0
      refine ⟨n - 1, fwSt log (fewL 0 (log.take (i + 1))) true (i + 1) (c + 3) (c + 3), by omega, ⟨i + 1, true, c + 3, c + 3, by omega, by omega, (fun h => by cases h), by omega, rfl⟩, Wk.sub ?_⟩
      rw [hft]
      simp -dsimp -implicitDefEqProofs only [↓j25, ↓j27, j171, j173, j174, reduceCtorEq, ↓reduceIte, Nat.reduceAdd, Nat.reduceEqDiff, j182, j196, j202, j203, j204, j205, j223, j224, j230, j231, eoT, eoH, hw] <;> simp
    · refine ⟨⟨by omega, by omega⟩, ?_⟩
      have hla : (l ++ [({ e with lsn := i + 1 } : En)]).length = l.length + 1 := by simp
      have hma : (l ++ [({ e with lsn := i + 1 } : En)]).map En.av = l.map En.av ++ [En.av { e with lsn := i + 1 }] := by simp
      simp -dsimp -implicitDefEqProofs only [↓j0, ↓j1, ↓j7, ↓j15, j17, j18, j20, j21, j22, j23, ↓j25, ↓j29, ↓j30, j33, ↓j38, ↓j39, ↓j48, ↓j89, ↓j145, ↓j146, j154, j166, j170, j171, ↓reduceIte, Nat.reduceAdd, Nat.reduceEqDiff, j185, j196, j224, j227, j228, j230, j231, take_ens, f1, f2]
      refine ⟨n - 1, fwSt log (fewL 0 (log.take (i + 1))) true (i + 1) (c + 3) (c + 3), by omega, ⟨i + 1, true, c + 3, c + 3, by omega, by omega, (fun h => by cases h), by omega, rfl⟩, Wk.sub ?_⟩
      rw [hft]
      simp -dsimp -implicitDefEqProofs only [↓j25, ↓j27, reduceCtorEq, ↓reduceIte, Nat.reduceAdd, Nat.reduceEqDiff, j182, j202, j203, j204, j205, j223, j224, eoT, eoH, hw, hla, hma] <;> simp
  · have hf : fewL 0 (log.take i) = fewP log := by
      unfold fewP
      rcases Nat.lt_or_ge i log.length with h | h
      · have : i = 40 := by omega
        subst this; rfl
      · rw [List.take_of_length_le h, List.take_of_length_le (by omega)]
    have two : decide ((i : Int) < (log.length : Int)) = false ∨ (decide ((i : Int) < (log.length : Int)) = true ∧ decide ((i : Int) < 40) = false) := by
      by_cases h : i < log.length
      · exact .inr ⟨decide_eq_true (by omega), decide_eq_false (by omega)⟩
      · exact .inl (decide_eq_false (by omega))
    rcases two with e1 | ⟨e1, e2⟩
    · cases x
      · simp -dsimp -implicitDefEqProofs only [↓j0, ↓j1, ↓j2, ↓j7, ↓j10, ↓j11, ↓j12, ↓j13, ↓j15, j17, j18, j20, ↓j25, ↓j29, ↓j30, j32, ↓j38, ↓j39, ↓j40, ↓j48, ↓j58, ↓j62, j82, ↓j89, j142, ↓j145, ↓j146, ↓j148, ↓j149, ↓j150, j159, j163, j164, j172, j175, reduceCtorEq, ↓reduceIte, Nat.reduceEqDiff, j185, j473, fwSt, eoT, eoH, e1]
        exact fin _ false a _ _ _ hf hok hx rfl (fun h => by cases h)
      · simp -dsimp -implicitDefEqProofs only [↓j0, ↓j1, ↓j2, ↓j7, ↓j10, ↓j11, ↓j12, ↓j13, ↓j15, j17, j18, j20, ↓j25, ↓j29, ↓j30, j32, ↓j38, ↓j39, ↓j40, ↓j48, ↓j58, ↓j62, j82, ↓j89, j142, ↓j145, ↓j146, ↓j148, ↓j149, ↓j150, j159, j163, j164, j171, j175, reduceCtorEq, ↓reduceIte, Nat.reduceEqDiff, j185, j473, fwSt, eoT, eoH, e1]
        exact fin _ true a _ _ _ hf hok hx rfl (fun _ => by simp [Heap.get])
    · cases x
      · simp -dsimp -implicitDefEqProofs only [↓j0, ↓j1, ↓j2, ↓j7, ↓j10, ↓j11, ↓j12, ↓j13, ↓j15, j17, j18, j20, ↓j25, ↓j29, ↓j30, j32, j33, ↓j38, ↓j39, ↓j40, ↓j48, ↓j58, ↓j62, j83, ↓j89, j142, ↓j145, ↓j146, ↓j147, ↓j148, ↓j149, ↓j150, j159, j163, j164, j172, j175, reduceCtorEq, ↓reduceIte, Nat.reduceEqDiff, j185, j473, fwSt, eoT, eoH, e1, e2]
        exact fin _ false a _ _ _ hf hok hx rfl (fun h => by cases h)
      · simp -dsimp -implicitDefEqProofs only [↓j0, ↓j1, ↓j2, ↓j7, ↓j10, ↓j11, ↓j12, ↓j13, ↓j15, j17, j18, j20, ↓j25, ↓j29, ↓j30, j32, j33, ↓j38, ↓j39, ↓j40, ↓j48, ↓j58, ↓j62, j83, ↓j89, j142, ↓j145, ↓j146, ↓j147, ↓j148, ↓j149, ↓j150, j159, j163, j164, j171, j175, reduceCtorEq, ↓reduceIte, Nat.reduceEqDiff, j185, j473, fwSt, eoT, eoH, e1, e2]
        exact fin _ true a _ _ _ hf hok hx rfl (fun _ => by simp [Heap.get])
end Go.Proofs.Ytimdepgenefkmaa
