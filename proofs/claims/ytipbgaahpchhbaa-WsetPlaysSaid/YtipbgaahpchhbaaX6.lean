/- The document's Make: which bytes are touched. -/
import Derived.Test.YtipbgaahpchhbaaX5
set_option maxRecDepth 8000
set_option linter.unusedVariables false
set_option linter.unusedSimpArgs false
namespace Go.Proofs.Ytipbgaahpchhbaa
open Go Go.RowKit

abbrev boolAV (b : Bool) : AV := .bool b
abbrev blAV (t : List Bool) : AV := .agg (t.map boolAV)
def fb : List Bool := List.replicate 64 false
theorem fb_len : fb.length = 64 := List.length_replicate
theorem unif_bools (t : List Bool) : Unif 1 (t.map boolAV) := fun x hx => by
  obtain ⟨o, _, rfl⟩ := List.mem_map.1 hx; rfl
theorem sizeL_bools (t : List Bool) : AV.sizeL (t.map boolAV) = t.length := by
  have := (unif_bools t).sizeL; simpa using this
theorem on_bools (S : Nat → Prop) (t : List Bool) : AV.onL S (t.map boolAV) := by
  rw [AV.onL_iff]
  intro x hx
  obtain ⟨o, _, rfl⟩ := List.mem_map.1 hx; trivial
def dfL (a b : Bo) (i : Nat) : List Bool := (List.range 64).map fun k => decide (k < i) && (a.getD k 0 != b.getD k 0)
theorem dfL_len (a b : Bo) (i : Nat) : (dfL a b i).length = 64 := by simp [dfL]
theorem dfL_get (a b : Bo) (i : Nat) {k : Nat} (h : k < 64) : (dfL a b i)[k]? = some (decide (k < i) && (a.getD k 0 != b.getD k 0)) := by
  rw [dfL, List.getElem?_map, List.getElem?_range h]; rfl
theorem dfL_zero (a b : Bo) : dfL a b 0 = fb := by
  apply List.ext_getElem?
  intro k
  rcases Nat.lt_or_ge k 64 with h | h
  · rw [dfL_get a b 0 h, fb, List.getElem?_replicate, if_pos h]; simp
  · rw [List.getElem?_eq_none (by rw [dfL_len]; exact h), List.getElem?_eq_none (by rw [fb_len]; exact h)]
theorem dfL_step (a b : Bo) {i : Nat} (h : i < 64) : (dfL a b i).set i (a.getD i 0 != b.getD i 0) = dfL a b (i + 1) := by
  apply List.ext_getElem?
  intro k
  rw [List.getElem?_set, dfL_len]
  by_cases hk : i = k
  · subst hk
    rw [if_pos rfl, if_pos h, dfL_get a b _ h]; simp
  · rw [if_neg hk]
    rcases Nat.lt_or_ge k 64 with h1 | h1
    · rw [dfL_get a b _ h1, dfL_get a b _ h1]
      have : decide (k < i) = decide (k < i + 1) := by rw [decide_eq_decide]; omega
      rw [this]
    · rw [List.getElem?_eq_none (by rw [dfL_len]; exact h1), List.getElem?_eq_none (by rw [dfL_len]; exact h1)]
/-- [i, k) is touched. -/
def setR (T : List Bool) (i k : Nat) : List Bool := (List.range 64).map fun j => (decide (i ≤ j) && decide (j < k)) || T.getD j false
theorem setR_len (T : List Bool) (i k : Nat) : (setR T i k).length = 64 := by simp [setR]
theorem setR_get (T : List Bool) (i k : Nat) {j : Nat} (h : j < 64) : (setR T i k)[j]? = some ((decide (i ≤ j) && decide (j < k)) || T.getD j false) := by
  rw [setR, List.getElem?_map, List.getElem?_range h]; rfl
theorem setR_zero {T : List Bool} (hT : T.length = 64) (i : Nat) : setR T i i = T := by
  apply List.ext_getElem?
  intro k
  rcases Nat.lt_or_ge k 64 with h | h
  · rw [setR_get T i i h]
    have : (decide (i ≤ k) && decide (k < i)) = false := by
      rw [Bool.and_eq_false_iff, decide_eq_false_iff_not, decide_eq_false_iff_not]; omega
    rw [this, Bool.false_or, List.getD_eq_getElem?_getD, List.getElem?_eq_getElem (by omega)]; rfl
  · rw [List.getElem?_eq_none (by rw [setR_len]; exact h), List.getElem?_eq_none (by omega)]
theorem setR_step {T : List Bool} {i j : Nat} (hij : i ≤ j) (h : j < 64) : (setR T i j).set j true = setR T i (j + 1) := by
  apply List.ext_getElem?
  intro k
  rw [List.getElem?_set, setR_len]
  by_cases hk : j = k
  · subst hk
    rw [if_pos rfl, if_pos h, setR_get T _ _ h]; simp; omega
  · rw [if_neg hk]
    rcases Nat.lt_or_ge k 64 with h1 | h1
    · rw [setR_get T _ _ h1, setR_get T _ _ h1]
      have : decide (k < j) = decide (k < j + 1) := by rw [decide_eq_decide]; omega
      rw [this]
    · rw [List.getElem?_eq_none (by rw [setR_len]; exact h1), List.getElem?_eq_none (by rw [setR_len]; exact h1)]
def step2 (D T : List Bool) (i k : Nat) : List Bool := if D.getD i false = true ∧ D.getD k false = true then setR T i k else T
def innerL (D : List Bool) (i : Nat) : Nat → Nat → List Bool → List Bool
  | 0, _, T => T
  | n + 1, k, T => if k ≤ i + 3 ∧ k < 64 then innerL D i n (k + 1) (step2 D T i k) else T
def outerL (D : List Bool) : Nat → Nat → List Bool → List Bool
  | 0, _, T => T
  | n + 1, i, T => if i < 64 then outerL D n (i + 1) (innerL D i 2 (i + 2) T) else T
def touchL (a b : Bo) : List Bool := outerL (dfL a b 64) 64 0 (dfL a b 64)
theorem step2_len {D T : List Bool} {i k : Nat} (h : T.length = 64) : (step2 D T i k).length = 64 := by
  unfold step2; split
  · exact setR_len _ _ _
  · exact h
theorem innerL_len {D : List Bool} {i : Nat} : ∀ (n k : Nat) (T : List Bool), T.length = 64 → (innerL D i n k T).length = 64
  | 0, _, T, h => h
  | n + 1, k, T, h => by
    unfold innerL; split
    · exact innerL_len n _ _ (step2_len h)
    · exact h
theorem outerL_len {D : List Bool} : ∀ (n i : Nat) (T : List Bool), T.length = 64 → (outerL D n i T).length = 64
  | 0, _, T, h => h
  | n + 1, i, T, h => by
    unfold outerL; split
    · exact outerL_len n _ _ (innerL_len _ _ _ h)
    · exact h
theorem touchL_len (a b : Bo) : (touchL a b).length = 64 := outerL_len _ _ _ (dfL_len _ _ _)
def mqH (a b : Bo) (D T : List Bool) : Heap := [(98, .cells (blAV D)), (99, .cells (blAV T)), (96, .cells (arrAV a)), (97, .cells (arrAV b))]
def mqT (t : Env) : Env := t ++ [(5, .ptr 98 0 []), (6, .ptr 99 0 []), (2, .ptr 96 0 []), (3, .ptr 97 0 []), (4, .str ⟨#[]⟩)]
def m1St (a b : Bo) (i : Nat) : St := ⟨64, [(7, .int .i64 i), (5, .ptr 98 0 []), (6, .ptr 99 0 []), (2, .ptr 96 0 []), (3, .ptr 97 0 []), (4, .str ⟨#[]⟩)], mqH a b (dfL a b i) (dfL a b i), 100⟩
def m2St (a b : Bo) (D T : List Bool) (i : Nat) : St := ⟨64, [(8, .int .i64 i), (5, .ptr 98 0 []), (6, .ptr 99 0 []), (2, .ptr 96 0 []), (3, .ptr 97 0 []), (4, .str ⟨#[]⟩)], mqH a b D T, 100⟩
def m3St (a b : Bo) (D T : List Bool) (i k : Nat) : St := ⟨64, [(9, .int .i64 k), (8, .int .i64 i), (5, .ptr 98 0 []), (6, .ptr 99 0 []), (2, .ptr 96 0 []), (3, .ptr 97 0 []), (4, .str ⟨#[]⟩)], mqH a b D T, 100⟩
def m4St (a b : Bo) (D T : List Bool) (i k j : Nat) : St := ⟨64, [(10, .int .i64 j), (9, .int .i64 k), (8, .int .i64 i), (5, .ptr 98 0 []), (6, .ptr 99 0 []), (2, .ptr 96 0 []), (3, .ptr 97 0 []), (4, .str ⟨#[]⟩)], mqH a b D (setR T i j), 100⟩
theorem fok21 : fnOk Try.prog 21 = true := by kernel_rfl
theorem args_pc {b : Bo} {T : List Bool} : ∀ x, x ∈ [arrAV b, blAV T] → AV.on (fun _ => False) x ∧ ∀ vs, x ≠ .tuple vs := fun x hx => by
  simp only [List.mem_cons, List.not_mem_nil, or_false] at hx
  rcases hx with rfl | rfl
  · exact ⟨on_bytes _ _, fun vs h => by cases h⟩
  · exact ⟨on_bools _ _, fun vs h => by cases h⟩
set_option maxHeartbeats 6400000 in
theorem rmake_spec (a b : Bo) (ha : a.length = 64) (hb : b.length = 64) (R : Bo) (hpc : ACall Try.prog 21 [arrAV b, blAV (touchL a b)] [] (.str ⟨R.toArray⟩) []) : ACall Try.prog 15 [arrAV a, arrAV b] [] (.str ⟨R.toArray⟩) [] := by
  refine ACall.run (Z := Z) (N := 64) mixed hZ Try.func15 rfl rfl (by kernel_rfl) (by simp) args_mk 96 ?_
  have hf := fb_len
  simp -dsimp -implicitDefEqProofs only [↓j0, ↓j1, ↓j7, ↓j12, ↓j14, ↓j15, ↓j16, j17, j18, j20, ↓j25, ↓j29, ↓j30, j33, j34, ↓j39, ↓j41, ↓j42, ↓j145, ↓j146, AV.layable, argEnv, j170, j171, j172, reduceCtorEq, ↓reduceIte, Nat.reduceAdd, Nat.reduceEqDiff, j196, List.replicate, j390]
  refine AWp.loopR (Z := Z) mixed hZ (by kernel_rfl) (fun n s => ∃ i, i + n = 64 ∧ s = m1St a b i) (n0 := 64) (s0 := m1St a b 0) ?_ ⟨0, by omega, rfl⟩ ?_ rfl
  · refine Wk.sub ?_
    simp -dsimp -implicitDefEqProofs only [↓j25, ↓j27, j179, ↓reduceIte, Nat.reduceEqDiff, j182, j183, j184, j202, j203, j204, j205, j209, j223, mqH, dfL_zero]
    exact ⟨rfl, rfl⟩
  rintro n s ⟨i, hi, rfl⟩
  refine ⟨rfl, ?_⟩
  have hdl := dfL_len a b i
  rcases Nat.lt_or_ge i 64 with hlt | hge
  · have e1 : decide ((i : Int) < 64) = true := decide_eq_true (by omega)
    obtain ⟨x, hx⟩ := list_get (xs := a) (i := i) (by omega)
    obtain ⟨y, hy⟩ := list_get (xs := b) (i := i) (by omega)
    have gx := getD_of hx
    have gy := getD_of hy
    have i1 : (i : Int) < ((64 : Nat) : Int) := by omega
    have z1 : AV.sizeL ((a.map byteAV).take i) = i * 1 := (unif_bytes a).sizeL_take (by simp; omega)
    have z2 : AV.sizeL ((b.map byteAV).take i) = i * 1 := (unif_bytes b).sizeL_take (by simp; omega)
    have w1 : IntKind.i64.wrap ((i : Int) + 1) = ((i + 1 : Nat) : Int) := by rw [wrap_i64 (by omega) (by omega)]; omega
    have hst := dfL_step a b hlt
    rw [gx, gy] at hst
    have hxy : (((x.toNat : Nat) : Int) != ((y.toNat : Nat) : Int)) = (x != y) := by
      by_cases h : x = y
      · subst h; simp
      · have h2 : ¬ ((x.toNat : Int) = (y.toNat : Int)) := fun h2 => h (UInt8.toNat_inj.1 (by omega))
        rw [bne_iff_ne.2 h, bne_iff_ne.2 h2]
    obtain ⟨D, hD⟩ : ∃ D, dfL a b i = D := ⟨_, rfl⟩
    rw [hD] at hst hdl
    obtain ⟨u, hu⟩ := list_get (xs := D) (i := i) (by omega)
    have z3 : AV.sizeL ((D.map boolAV).take i) = i * 1 := (unif_bools D).sizeL_take (by simp; omega)
    obtain ⟨v, hv⟩ : ∃ v, (x != y) = v := ⟨_, rfl⟩
    rw [hv] at hst hxy
    have q1 : (D.map boolAV).set i (AV.bool v) = (dfL a b (i + 1)).map boolAV := by rw [← hst, List.map_set]
    obtain ⟨D1, hD1⟩ : ∃ D1, dfL a b (i + 1) = D1 := ⟨_, rfl⟩
    have hd1 := dfL_len a b (i + 1)
    rw [hD1] at q1 hst hd1
    have hu1 : D1[i]? = some v := by rw [← hst, List.getElem?_set, if_pos rfl, if_pos (by omega)]
    have z4 : AV.sizeL ((D1.map boolAV).take i) = i * 1 := (unif_bools D1).sizeL_take (by simp; omega)
    simp -dsimp -implicitDefEqProofs only [↓j0, ↓j1, ↓j3, ↓j4, ↓j7, ↓j8, ↓j9, ↓j12, ↓j13, ↓j14, ↓j15, j17, j18, j19, j20, j21, j22, j23, j24, ↓j25, ↓j27, ↓j29, ↓j30, j33, ↓j38, ↓j43, ↓j44, ↓j46, ↓j48, ↓j76, ↓j78, ↓j89, ↓j94, j130, ↓j145, ↓j146, ↓j147, ↓j149, ↓j153, j158, j159, AV.proj, AV.offOf, AV.upd, AV.size, AV.layable, j170, j171, j172, j173, j174, j177, ↓reduceIte, Nat.reduceEqDiff, j182, j185, j196, j197, j206, j207, j208, j252, j255, j271, j361, m1St, mqH, hD, e1, hx, hy, i1, z1, z2, z3, hu, byteAV, boolAV, hxy]
    refine ⟨by kernel_rfl, ?_⟩
    simp -dsimp -implicitDefEqProofs only [↓j0, ↓j1, ↓j7, ↓j15, j17, j18, j19, j20, j21, j22, j23, ↓j25, ↓j27, ↓j29, ↓j30, j33, ↓j38, ↓j39, ↓j43, ↓j44, ↓j46, ↓j48, ↓j76, ↓j78, ↓j89, ↓j94, j131, ↓j145, ↓j146, ↓j153, j154, AV.proj, AV.offOf, AV.upd, AV.size, AV.layable, j170, j171, j177, ↓reduceIte, Nat.reduceEqDiff, j182, j185, j196, j197, j206, j207, j208, j252, j253, j361, q1, hu1, z4, i1, hu, z3, boolAV]
    exact ⟨n - 1, m1St a b (i + 1), by omega, ⟨i + 1, by omega, by simp only [m1St, mqH, hD1]⟩, Wk.sub (by simp -dsimp -implicitDefEqProofs only [↓j25, ↓j27, ↓reduceIte, Nat.reduceEqDiff, j182, j202, j203, j204, j205, j223, mqH, hD1, w1] <;> simp)⟩
  have hi2 : i = 64 := by omega
  subst hi2
  have e1 : decide (((64 : Nat) : Int) < 64) = false := rfl
  have hT : touchL a b = outerL (dfL a b 64) 64 0 (dfL a b 64) := rfl
  obtain ⟨D, hD⟩ : ∃ D, dfL a b 64 = D := ⟨_, rfl⟩
  rw [hD] at hdl hT
  have ud := unif_bools D
  have htl := touchL_len a b
  obtain ⟨TT, hTT⟩ : ∃ TT, touchL a b = TT := ⟨_, rfl⟩
  rw [hTT] at hT hpc htl
  simp -dsimp -implicitDefEqProofs only [↓j0, ↓j1, ↓j7, ↓j11, ↓j12, ↓j13, ↓j14, ↓j15, ↓j16, j17, j18, j20, ↓j25, ↓j29, ↓j30, j33, ↓j38, ↓j39, ↓j48, ↓j89, ↓j145, ↓j146, ↓j148, ↓j149, j159, j171, ↓reduceIte, j185, m1St, mqH, hD, e1]
  refine AWp.loopR (Z := Z) mixed hZ (by kernel_rfl) (fun n s => ∃ i T, i + n = 64 ∧ T.length = 64 ∧ outerL D n i T = TT ∧ s = m2St a b D T i) (n0 := 64) (s0 := m2St a b D D 0) ?_ ⟨0, D, by omega, hdl, hT.symm, rfl⟩ ?_ rfl
  · exact Wk.sub (by simp -dsimp -implicitDefEqProofs only [↓j25, ↓j27, j179, ↓reduceIte, Nat.reduceEqDiff, j182, j183, j184, j202, j203, j204, j205, j209, j223, mqH] <;> simp)
  rintro n s ⟨i, T, hi, hTl, hR, rfl⟩
  refine ⟨rfl, ?_⟩
  rcases Nat.lt_or_ge i 64 with hlt | hge
  · have e1 : decide ((i : Int) < 64) = true := decide_eq_true (by omega)
    obtain ⟨n, rfl⟩ : ∃ k, n = k + 1 := ⟨n - 1, by omega⟩
    have w1 : IntKind.i64.wrap ((i : Int) + 1) = ((i + 1 : Nat) : Int) := by rw [wrap_i64 (by omega) (by omega)]; omega
    have w2 : IntKind.i64.wrap ((i : Int) + 2) = ((i + 2 : Nat) : Int) := by rw [wrap_i64 (by omega) (by omega)]; omega
    have w3 : IntKind.i64.wrap ((i : Int) + 3) = ((i + 3 : Nat) : Int) := by rw [wrap_i64 (by omega) (by omega)]; omega
    unfold outerL at hR
    rw [if_pos hlt] at hR
    obtain ⟨U, hU⟩ : ∃ U, innerL D i 2 (i + 2) T = U := ⟨_, rfl⟩
    have hUl : U.length = 64 := by rw [← hU]; exact innerL_len _ _ _ hTl
    rw [hU] at hR
    obtain ⟨di, hdi⟩ := list_get (xs := D) (i := i) (by omega)
    have gdi : D.getD i false = di := by rw [List.getD_eq_getElem?_getD, hdi]; rfl
    have zi : AV.sizeL ((D.map boolAV).take i) = i * 1 := ud.sizeL_take (by simp; omega)
    have i1 : (i : Int) < ((64 : Nat) : Int) := by omega
    simp -dsimp -implicitDefEqProofs only [↓j0, ↓j1, ↓j7, ↓j9, ↓j12, ↓j13, ↓j14, ↓j15, ↓j16, j17, j18, j20, ↓j25, ↓j29, ↓j30, j33, ↓j38, ↓j39, ↓j48, ↓j89, ↓j145, ↓j146, ↓j147, ↓j149, j154, j159, j171, ↓reduceIte, Nat.reduceEqDiff, j185, m2St, mqH, e1, w2]
    refine AWp.loopR (Z := Z) mixed hZ (by kernel_rfl) (fun m s => ∃ k T, i + 4 ≤ k + m ∧ i + 2 ≤ k ∧ T.length = 64 ∧ innerL D i m k T = U ∧ s = m3St a b D T i k) (n0 := 2) (s0 := m3St a b D T i (i + 2)) ?_ ⟨i + 2, T, by omega, by omega, hTl, hU, rfl⟩ ?_ rfl
    · exact Wk.sub (by simp -dsimp -implicitDefEqProofs only [↓j25, ↓j27, ↓reduceIte, Nat.reduceEqDiff, j182, j202, j203, j204, j205, j223, mqH] <;> simp)
    rintro m s ⟨k, T, hk, hk2, hTl, hU, rfl⟩
    refine ⟨rfl, ?_⟩
    by_cases hkc : k ≤ i + 3 ∧ k < 64
    · obtain ⟨hk3, hk64⟩ := hkc
      obtain ⟨m, rfl⟩ : ∃ q, m = q + 1 := ⟨m - 1, by omega⟩
      unfold innerL at hU
      rw [if_pos ⟨hk3, hk64⟩] at hU
      have g1 : decide ((k : Int) ≤ ((i + 3 : Nat) : Int)) = true := decide_eq_true (by omega)
      have g2 : decide ((k : Int) < 64) = true := decide_eq_true (by omega)
      have w4 : IntKind.i64.wrap ((k : Int) + 1) = ((k + 1 : Nat) : Int) := by rw [wrap_i64 (by omega) (by omega)]; omega
      obtain ⟨dk, hdk⟩ := list_get (xs := D) (i := k) (by omega)
      have gdk : D.getD k false = dk := by rw [List.getD_eq_getElem?_getD, hdk]; rfl
      have zk : AV.sizeL ((D.map boolAV).take k) = k * 1 := ud.sizeL_take (by simp; omega)
      have k1 : (k : Int) < ((64 : Nat) : Int) := by omega
      unfold step2 at hU
      rw [gdi, gdk] at hU
      cases hdv : di
      · rw [hdv] at hdi hU
        rw [if_neg (fun h => Bool.false_ne_true h.1)] at hU
        simp -dsimp -implicitDefEqProofs only [↓j0, ↓j1, ↓j2, ↓j7, ↓j9, ↓j12, ↓j13, ↓j14, ↓j15, j17, j18, j20, ↓j25, ↓j27, ↓j29, ↓j30, j32, j33, ↓j38, ↓j39, ↓j40, ↓j43, ↓j46, ↓j48, ↓j76, j82, j83, ↓j89, ↓j94, j131, ↓j145, ↓j146, ↓j147, ↓j148, ↓j149, ↓j150, ↓j153, j154, j159, j160, AV.proj, AV.offOf, j163, j164, j171, j175, j177, ↓reduceIte, Nat.reduceEqDiff, j182, j185, j196, j197, j206, j207, j208, j253, j361, m3St, mqH, w3, g1, g2, hdi, zi, i1, boolAV]
        exact ⟨m, m3St a b D T i (k + 1), by omega, ⟨k + 1, T, by omega, by omega, hTl, hU, rfl⟩, Wk.sub (by simp -dsimp -implicitDefEqProofs only [↓j25, ↓j27, ↓reduceIte, Nat.reduceEqDiff, j182, j202, j203, j204, j205, j223, mqH, w4] <;> simp)⟩
      · rw [hdv] at hdi hU
        cases hkv : dk
        · rw [hkv] at hdk hU
          rw [if_neg (fun h => Bool.false_ne_true h.2)] at hU
          simp -dsimp -implicitDefEqProofs only [↓j0, ↓j1, ↓j2, ↓j7, ↓j9, ↓j12, ↓j13, ↓j14, ↓j15, j17, j18, j20, ↓j25, ↓j27, ↓j29, ↓j30, j32, j33, ↓j38, ↓j39, ↓j40, ↓j43, ↓j46, ↓j48, ↓j76, j83, ↓j89, ↓j94, j131, ↓j145, ↓j146, ↓j147, ↓j148, ↓j149, ↓j150, ↓j153, j154, j159, j160, AV.proj, AV.offOf, j163, j164, j171, j175, j177, ↓reduceIte, Nat.reduceEqDiff, j182, j185, j196, j197, j206, j207, j208, j253, j361, m3St, mqH, w3, g1, g2, hdi, zi, i1, hdk, zk, k1, boolAV]
          exact ⟨m, m3St a b D T i (k + 1), by omega, ⟨k + 1, T, by omega, by omega, hTl, hU, rfl⟩, Wk.sub (by simp -dsimp -implicitDefEqProofs only [↓j25, ↓j27, ↓reduceIte, Nat.reduceEqDiff, j182, j202, j203, j204, j205, j223, mqH, w4] <;> simp)⟩
        · rw [hkv] at hdk hU
          rw [if_pos ⟨rfl, rfl⟩] at hU
          simp -dsimp -implicitDefEqProofs only [↓j0, ↓j1, ↓j2, ↓j7, ↓j9, ↓j12, ↓j13, ↓j14, ↓j15, ↓j16, j17, j18, j20, ↓j25, ↓j27, ↓j29, ↓j30, j32, j33, ↓j38, ↓j39, ↓j40, ↓j43, ↓j46, ↓j48, ↓j76, j83, ↓j89, ↓j94, j131, ↓j145, ↓j146, ↓j147, ↓j149, ↓j150, ↓j153, j154, j159, j160, AV.proj, AV.offOf, j163, j164, j171, j175, j177, ↓reduceIte, Nat.reduceEqDiff, j182, j185, j196, j197, j206, j207, j208, j253, j361, m3St, mqH, w3, g1, g2, hdi, zi, i1, hdk, zk, k1, boolAV]
          refine AWp.loopR (Z := Z) mixed hZ (by kernel_rfl) (fun q s => ∃ j, i ≤ j ∧ j + q = k ∧ s = m4St a b D T i k j) (n0 := k - i) (s0 := m4St a b D T i k i) ?_ ⟨i, by omega, by omega, rfl⟩ ?_ rfl
          · exact Wk.sub (by simp -dsimp -implicitDefEqProofs only [↓j25, ↓j27, ↓reduceIte, Nat.reduceEqDiff, j182, j202, j203, j204, j205, j223, mqH, setR_zero hTl] <;> simp)
          rintro q s ⟨j, hij, hjq, rfl⟩
          refine ⟨rfl, ?_⟩
          rcases Nat.lt_or_ge j k with hjk | hjk
          · have g3 : decide ((j : Int) < (k : Int)) = true := decide_eq_true (by omega)
            have w5 : IntKind.i64.wrap ((j : Int) + 1) = ((j + 1 : Nat) : Int) := by rw [wrap_i64 (by omega) (by omega)]; omega
            have jq1 : (j : Int) < ((64 : Nat) : Int) := by omega
            have hst := setR_step (T := T) hij (show j < 64 by omega)
            have hsl := setR_len T i j
            obtain ⟨S, hS⟩ : ∃ S, setR T i j = S := ⟨_, rfl⟩
            rw [hS] at hst hsl
            obtain ⟨u, hu⟩ := list_get (xs := S) (i := j) (by omega)
            have zj : AV.sizeL ((S.map boolAV).take j) = j * 1 := (unif_bools S).sizeL_take (by simp; omega)
            have q1 : (S.map boolAV).set j (AV.bool true) = (setR T i (j + 1)).map boolAV := by rw [← hst, List.map_set]
            simp -dsimp -implicitDefEqProofs only [↓j0, ↓j1, ↓j7, ↓j9, ↓j12, ↓j13, ↓j14, ↓j15, j17, j18, j19, j20, j21, j22, j23, ↓j25, ↓j27, ↓j29, ↓j30, j32, j33, ↓j38, ↓j39, ↓j44, ↓j46, ↓j48, ↓j78, ↓j89, ↓j94, ↓j145, ↓j146, ↓j147, ↓j149, ↓j153, j154, j159, AV.proj, AV.offOf, AV.upd, AV.size, AV.layable, j170, j171, j177, ↓reduceIte, Nat.reduceEqDiff, j182, j185, j196, j197, j206, j207, j208, j252, j361, m4St, mqH, hS, g3, hu, zj, jq1, boolAV]

            exact ⟨q - 1, m4St a b D T i k (j + 1), by omega, ⟨j + 1, by omega, by omega, rfl⟩, Wk.sub (by simp -dsimp -implicitDefEqProofs only [↓j25, ↓j27, ↓reduceIte, Nat.reduceEqDiff, j182, j202, j203, j204, j205, j223, mqH, q1, w5] <;> simp)⟩
          · have hj2 : j = k := by omega
            subst hj2
            have g3 : decide ((j : Int) < (j : Int)) = false := decide_eq_false (by omega)
            simp -dsimp -implicitDefEqProofs only [↓j0, ↓j1, ↓j7, ↓j11, ↓j12, ↓j13, ↓j15, j17, j18, j20, ↓j25, ↓j29, ↓j30, j33, ↓j38, ↓j39, ↓j48, ↓j89, ↓j145, ↓j146, ↓j148, ↓j149, j154, j159, j171, ↓reduceIte, Nat.reduceEqDiff, j185, m4St, mqH, g3]
            exact ⟨m, m3St a b D (setR T i j) i (j + 1), by omega, ⟨j + 1, _, by omega, by omega, setR_len _ _ _, hU, rfl⟩, Wk.sub (by simp -dsimp -implicitDefEqProofs only [↓j25, ↓j27, ↓reduceIte, Nat.reduceEqDiff, j182, j202, j203, j204, j205, j223, mqH, w4] <;> simp)⟩
    · have hUT : T = U := by
        rw [← hU]
        cases m with
        | zero => rfl
        | succ m => unfold innerL; rw [if_neg hkc]
      subst hUT
      by_cases hk3 : k ≤ i + 3
      · have g1 : decide ((k : Int) ≤ ((i + 3 : Nat) : Int)) = true := decide_eq_true (by omega)
        have g2 : decide ((k : Int) < 64) = false := decide_eq_false (by omega)
        simp -dsimp -implicitDefEqProofs only [↓j0, ↓j1, ↓j2, ↓j7, ↓j11, ↓j12, ↓j13, ↓j15, j17, j18, j20, ↓j25, ↓j29, ↓j30, j32, j33, ↓j38, ↓j39, ↓j40, ↓j48, j83, ↓j89, ↓j145, ↓j146, ↓j147, ↓j148, ↓j149, ↓j150, j154, j159, j160, j163, j164, j171, j175, ↓reduceIte, Nat.reduceEqDiff, j185, m3St, mqH, w3, g1, g2]
        exact ⟨n, m2St a b D T (i + 1), by omega, ⟨i + 1, T, by omega, hTl, hR, rfl⟩, Wk.sub (by simp -dsimp -implicitDefEqProofs only [↓j25, ↓j27, ↓reduceIte, Nat.reduceEqDiff, j182, j202, j203, j204, j205, j223, mqH, w1] <;> simp)⟩
      · have g1 : decide ((k : Int) ≤ ((i + 3 : Nat) : Int)) = false := decide_eq_false (by omega)
        simp -dsimp -implicitDefEqProofs only [↓j0, ↓j1, ↓j2, ↓j7, ↓j11, ↓j12, ↓j13, ↓j15, j17, j18, j20, ↓j25, ↓j29, ↓j30, j32, j33, ↓j38, ↓j39, ↓j40, ↓j48, j82, ↓j89, ↓j145, ↓j146, ↓j148, ↓j149, ↓j150, j154, j160, j163, j164, j171, j175, ↓reduceIte, Nat.reduceEqDiff, j185, m3St, mqH, w3, g1]
        exact ⟨n, m2St a b D T (i + 1), by omega, ⟨i + 1, T, by omega, hTl, hR, rfl⟩, Wk.sub (by simp -dsimp -implicitDefEqProofs only [↓j25, ↓j27, ↓reduceIte, Nat.reduceEqDiff, j182, j202, j203, j204, j205, j223, mqH, w1] <;> simp)⟩
  · have hi2 : i = 64 := by omega
    subst hi2
    have e1 : decide (((64 : Nat) : Int) < 64) = false := rfl
    have hTT2 : T = TT := by
      rw [← hR]
      cases n <;> simp [outerL]
    subst hTT2
    simp -dsimp -implicitDefEqProofs only [↓j0, ↓j1, ↓j7, ↓j11, ↓j12, ↓j13, ↓j15, j17, j18, j20, ↓j25, ↓j27, ↓j29, ↓j30, j33, ↓j38, ↓j43, ↓j48, ↓j53, ↓j76, ↓j89, j129, ↓j145, ↓j146, ↓j148, ↓j149, ↓j153, j159, AV.proj, AV.offOf, j171, ↓reduceIte, Nat.reduceEqDiff, j182, j185, j240, j269, j270, j359, j360, m2St, mqH, e1, hb, hTl, sizeL_bools]
    refine CallTo.pure (args := [arrAV b, blAV T]) rfl fok21 (by simp -dsimp -implicitDefEqProofs only [↓j25, ↓j29, j173, j174, ↓reduceIte, Nat.reduceEqDiff]) (fun x hx => (args_pc x hx).2) hpc ?_
    simp -dsimp -implicitDefEqProofs only [↓j0, ↓j1, ↓j10, j17, j18, j20, ↓j25, ↓j29, ↓j39, ↓j145, j171, ↓reduceIte]
    exact Final.one (.inr rfl) (r := .tmp 4) rfl ⟨rfl, fun vs h => by cases h⟩ (fun vs h => by cases h) (fun vs h => by cases h) (.same _ trivial)
end Go.Proofs.Ytipbgaahpchhbaa
