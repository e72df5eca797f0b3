/- The document's oracle: live, At, Horizon, lives. -/
import Derived.Test.YtiolhncfnoafeaaO11
set_option maxRecDepth 8000
set_option linter.unusedVariables false
set_option linter.unusedSimpArgs false
namespace Go.Proofs.Ytiolhncfnoafeaa
open Go Go.RowKit

def liveL (l : List Tx) : List Tx := l.filter (·.live)
theorem liveL_snoc {l : List Tx} {i : Nat} {t : Tx} (h : l[i]? = some t) : liveL (l.take (i + 1)) = if t.live then liveL (l.take i) ++ [t] else liveL (l.take i) := by
  rw [take_succ h, liveL, List.filter_append]
  cases hb : t.live <;> simp [liveL, List.filter_cons, List.filter_nil, hb]
theorem liveL_le (l : List Tx) : (liveL l).length ≤ l.length := List.length_filter_le _ _
def lvH (last max : Nat) (l : List Tx) (m : Nat) : Heap := [(99, .cells (.agg [.int .u32 last, .int .u32 max, .sl m 0 [] 0 l.length l.length 3])), (m, .cells (.agg (l.map Tx.av)))]
theorem lvH_onH {last max : Nat} {l : List Tx} {m : Nat} (hm : m < 100) : onH (fun m => m < 100) (lvH last max l m) :=
  (onHL_cons (show (99 : Nat) < 100 by decide) ⟨trivial, trivial, hm, trivial⟩ (onHL_cons hm (on_txs _ _) onHL_nil) : onHL (fun m => m < 100) (lvH last max l m)).onH
theorem ro_lv {last max : Nat} {l : List Tx} {m : Nat} (h : 0 < l.length) : roH last max l m = lvH last max l m := by
  rw [roH, lvH, roC, (txV_ne h m).1, (txV_ne h m).2]
theorem lv_keep {last max : Nat} {l : List Tx} {m : Nat} {H : Heap} (hp : 0 < l.length) (h2 : Heap.get H 99 = some (.cells (.agg [.int .u32 last, .int .u32 max, .sl m 0 [] 0 l.length l.length 3]))) (h3 : Heap.get H m = some (.cells (.agg (l.map Tx.av)))) : ∀ n b, Heap.get (lvH last max l m) n = some b → ∃ b0, Heap.get H n = some b0 ∧ BFrz (fun n => Heap.get (lvH last max l m) n ≠ none) H b0 b := by
  rw [← ro_lv hp]
  refine ro_keep ?_ fun _ => h3
  rw [roC, (txV_ne hp m).1]; exact h2
def lvT  (l : List Tx) (m i : Nat) : Env := [(3, .int .i64 ((liveL (l.take i)).length : Nat)), (11, .int .i64 i), (10, .int .i64 l.length), (9, .sl m 0 [] 0 l.length l.length 3), (0, .ptr 99 0 []), (2, .int .i64 0)]
def lvSt  (last max : Nat) (l : List Tx) (m i : Nat) : St := ⟨21, lvT  l m i, lvH last max l m, 100⟩
theorem lv_onT  {l : List Tx} {m i : Nat} (hm : m < 100) : onT (fun m => m < 100) (lvT  l m i) :=
  ((onTL_cons trivial (onTL_cons trivial (onTL_cons trivial (onTL_cons hm (onTL_cons (show (99 : Nat) < 100 by decide) (onTL_cons trivial onTL_nil)))))) : onTL (fun m => m < 100) (lvT  l m i)).onT
set_option maxHeartbeats 3200000 in
theorem rlv_spec  (last max : Nat) (l : List Tx) (hl : l.length ≤ 1000) (m : Nat) (hm : m = 4) : ACall Try.prog 23 [.ptr 99 0 []] (roH last max l m) (.int .i64 ((liveL l).length : Nat)) (roH last max l m) := by
  refine ACall.runH (Z := Z) (N := 21) mixed hZ Try.func23 rfl rfl (by kernel_rfl) (by simp) (ro_args no_args) ro_on' 100 (ro_lt (by omega)) ?_
  cases hl0 : l with
  | nil =>
    have hv : txV [] m = .nilsl := rfl
    have hb : txB [] m = [] := rfl
    rw [roH, roC, hv, hb]
    simp -dsimp -implicitDefEqProofs only [↓j0, ↓j1, ↓j7, ↓j12, ↓j14, ↓j15, ↓j16, j17, j18, j20, ↓j25, ↓j27, ↓j29, ↓j30, j33, ↓j38, ↓j39, ↓j43, ↓j45, ↓j56, ↓j58, ↓j60, ↓j76, ↓j79, j134, j144, ↓j145, ↓j146, ↓j153, AV.proj, AV.offOf, AV.size, AV.sizeL, argEnv, j163, j164, j166, j167, j171, reduceCtorEq, ↓reduceIte, Nat.reduceAdd, j182, j196, j197, j276, j288, j378]
    refine AWp.loopR (Z := Z) mixed hZ (by kernel_rfl) (fun n s => s = ⟨21, [(3, .int .i64 0), (11, .int .i64 0), (10, .int .i64 0), (9, .nilsl), (0, .ptr 99 0 []), (2, .int .i64 0)], [(99, .cells (.agg [.int .u32 last, .int .u32 max, .nilsl]))], 100⟩) (n0 := 0) (s0 := ⟨21, [(3, .int .i64 0), (11, .int .i64 0), (10, .int .i64 0), (9, .nilsl), (0, .ptr 99 0 []), (2, .int .i64 0)], [(99, .cells (.agg [.int .u32 last, .int .u32 max, .nilsl]))], 100⟩) ?_ rfl ?_ rfl
    · exact Wk.sub (by simp -dsimp -implicitDefEqProofs only [↓j25, ↓j27, j179, reduceCtorEq, ↓reduceIte, Nat.reduceEqDiff, j182, j183, j184, j202, j203, j204, j205, j209, j223] <;> simp)
    rintro n s rfl
    refine ⟨rfl, ?_⟩
    have e1 : decide ((0 : Int) < 0) = false := rfl
    simp -dsimp -implicitDefEqProofs only [↓j0, ↓j1, ↓j7, ↓j10, ↓j11, ↓j12, ↓j13, ↓j15, j17, j18, j20, ↓j25, ↓j29, ↓j38, ↓j39, ↓j48, ↓j89, ↓j145, ↓j146, ↓j148, ↓j149, j159, j171, ↓reduceIte, Nat.reduceEqDiff, Int.reduceLT, j185, j192]
    exact Final.oneH (.inr rfl) (r := .tmp 2) rfl ⟨rfl, fun vs h => by cases h⟩ (fun vs h => by cases h) (fun vs h => by cases h) (.same _ trivial) (ro_keep (last := last) (max := max) (l := []) (m := m) rfl (fun h => by simp at h))
  | cons t0 r0 =>
    rw [← hl0]
    have hp : 0 < l.length := by rw [hl0]; simp
    clear hl0
    rw [ro_lv hp]
    subst hm
    · simp -dsimp -implicitDefEqProofs only [↓j0, ↓j1, ↓j7, ↓j12, ↓j14, ↓j15, ↓j16, j17, j18, j20, ↓j25, ↓j27, ↓j29, ↓j30, j33, ↓j38, ↓j39, ↓j43, ↓j45, ↓j56, ↓j58, ↓j61, ↓j76, ↓j79, j135, j143, ↓j145, ↓j146, ↓j153, AV.proj, AV.offOf, AV.size, AV.sizeL, argEnv, j163, j164, j166, j167, j171, reduceCtorEq, ↓reduceIte, Nat.reduceAdd, j182, j196, j197, j276, j288, j378, lvH]
      refine AWp.loopR (Z := Z) mixed hZ (by kernel_rfl) (fun n s => ∃ i, i + n = l.length ∧ s = lvSt  last max l 4 i) (n0 := l.length) (s0 := lvSt  last max l 4 0) ?_ ⟨0, by omega, rfl⟩ ?_ rfl
      · exact Wk.sub (by simp -dsimp -implicitDefEqProofs only [↓j25, ↓j27, j167, j179, reduceCtorEq, ↓reduceIte, Nat.reduceEqDiff, j182, j183, j184, j202, j203, j204, j205, j209, j223, lvT, lvH] <;> simp [liveL])
      rintro n s ⟨i, hi, rfl⟩
      refine ⟨rfl, ?_⟩
      rcases Nat.lt_or_ge i l.length with hlt | hge
      · have e1 : decide ((i : Int) < (l.length : Int)) = true := decide_eq_true (by omega)
        obtain ⟨t, ht⟩ := list_get (xs := l) (i := i) hlt
        have hsz := (unif_tx l).sizeL_take (k := i) (by simp; omega)
        have hlt2 : (i : Int) < (l.length : Int) := by omega
        have hw : IntKind.i64.wrap ((i : Int) + 1) = ((i + 1 : Nat) : Int) := by rw [wrap_i64 (by omega) (by omega)]; omega
        have hsn := liveL_snoc ht
        have hle := liveL_le (l.take i)
        rw [List.length_take] at hle
        obtain ⟨c, hc⟩ : ∃ c, (liveL (l.take i)).length = c := ⟨_, rfl⟩
        rw [hc] at hle
        have hw2 : IntKind.i64.wrap ((c : Int) + 1) = ((c + 1 : Nat) : Int) := by rw [wrap_i64 (by omega) (by omega)]; omega
        cases hb : t.live
        · rw [hb] at hsn
          have hn : (liveL (l.take (i + 1))).length = c := by rw [hsn, if_neg Bool.false_ne_true, hc]
          simp -dsimp -implicitDefEqProofs only [↓j0, ↓j1, ↓j7, ↓j9, ↓j12, ↓j13, ↓j14, ↓j15, j17, j18, j19, j20, j21, j22, j23, ↓j25, ↓j27, ↓j29, ↓j30, j33, ↓j38, ↓j41, ↓j43, ↓j44, ↓j45, ↓j46, ↓j48, ↓j76, ↓j78, ↓j79, ↓j89, ↓j93, j129, j131, ↓j145, ↓j146, ↓j147, ↓j148, ↓j149, ↓j153, j154, j159, AV.proj, AV.offOf, AV.upd, AV.size, AV.sizeL, AV.layable, j163, j164, j166, j167, j170, j171, j177, ↓reduceIte, Nat.reduceAdd, Nat.reduceEqDiff, j182, j185, j191, j196, j197, j206, j207, j208, j253, j277, j303, j304, j312, j351, lvSt, lvT, lvH, hc, ht, hsz, hlt2, hb]
          exact ⟨n - 1, lvSt  last max l 4 (i + 1), by omega, ⟨i + 1, by omega, rfl⟩, Wk.trans (Wk.mk (s' := ⟨21, lvT  l 4 (i + 1), lvH last max l 4, 101⟩) (SubT.spec (by simp -dsimp -implicitDefEqProofs only [↓j25, reduceCtorEq, ↓reduceIte, Nat.reduceEqDiff, j182, j202, j203, lvT, hw, hn] <;> simp)) (SubH.spec (by simp -dsimp -implicitDefEqProofs only [↓j27, ↓reduceIte, Nat.reduceEqDiff, j182, j204, j205, lvH] <;> simp)) (Nat.le_refl _) rfl) (Wk.gc (by decide) (lv_onT  (m := 4) (by decide)) (lvH_onH (m := 4) (by decide)))⟩
        · rw [hb] at hsn
          have hn : (liveL (l.take (i + 1))).length = c + 1 := by rw [hsn, if_pos rfl, List.length_append, hc]; rfl
          simp -dsimp -implicitDefEqProofs only [↓j0, ↓j1, ↓j7, ↓j9, ↓j12, ↓j13, ↓j14, ↓j15, j17, j18, j19, j20, j21, j22, j23, ↓j25, ↓j27, ↓j29, ↓j30, j33, ↓j38, ↓j39, ↓j41, ↓j43, ↓j44, ↓j45, ↓j46, ↓j48, ↓j76, ↓j78, ↓j79, ↓j89, ↓j93, j129, j131, ↓j145, ↓j146, ↓j147, ↓j149, ↓j153, j154, j159, AV.proj, AV.offOf, AV.upd, AV.size, AV.sizeL, AV.layable, j163, j164, j166, j167, j170, j171, j177, ↓reduceIte, Nat.reduceAdd, Nat.reduceEqDiff, j182, j185, j191, j196, j197, j206, j207, j208, j253, j277, j303, j304, j312, j351, lvSt, lvT, lvH, hc, ht, hsz, hlt2, hb]
          exact ⟨n - 1, lvSt  last max l 4 (i + 1), by omega, ⟨i + 1, by omega, rfl⟩, Wk.trans (Wk.mk (s' := ⟨21, lvT  l 4 (i + 1), lvH last max l 4, 101⟩) (SubT.spec (by simp -dsimp -implicitDefEqProofs only [↓j25, reduceCtorEq, ↓reduceIte, Nat.reduceEqDiff, j182, j202, j203, lvT, hw, hn, hw2] <;> simp)) (SubH.spec (by simp -dsimp -implicitDefEqProofs only [↓j27, ↓reduceIte, Nat.reduceEqDiff, j182, j204, j205, lvH] <;> simp)) (Nat.le_refl _) rfl) (Wk.gc (by decide) (lv_onT  (m := 4) (by decide)) (lvH_onH (m := 4) (by decide)))⟩
      · have hi2 : i = l.length := by omega
        subst hi2
        have e1 : decide ((l.length : Int) < (l.length : Int)) = false := decide_eq_false (by omega)
        have htk : l.take l.length = l := List.take_of_length_le (Nat.le_refl _)
        simp -dsimp -implicitDefEqProofs only [↓j0, ↓j1, ↓j7, ↓j10, ↓j11, ↓j12, ↓j13, ↓j15, j17, j18, j20, ↓j25, ↓j29, ↓j38, ↓j39, ↓j48, ↓j89, ↓j145, ↓j146, ↓j148, ↓j149, j159, j171, ↓reduceIte, Nat.reduceEqDiff, j185, lvSt, lvT, lvH, e1, htk]
        exact Final.oneH (.inr rfl) (r := .tmp 2) rfl ⟨rfl, fun vs h => by cases h⟩ (fun vs h => by cases h) (fun vs h => by cases h) (.same _ trivial) (lv_keep hp rfl rfl)
/-- At: the place of a live one. -/
def atL : List Tx → Nat → Nat → Int
  | [], _, _ => -1
  | t :: r, n, i => if t.n = n ∧ t.live = true then (i : Int) else atL r n (i + 1)
def atP (l : List Tx) (n : Nat) : Int := atL l n 0
theorem arg_u64 {n : Nat} : ∀ x, x ∈ [AV.int .u64 (n : Int)] → AV.on (fun _ => False) x ∧ ∀ vs, x ≠ .tuple vs := arg_int
def atT (x : Nat) (l : List Tx) (m i : Nat) : Env := [(11, .int .i64 i), (10, .int .i64 l.length), (9, .sl m 0 [] 0 l.length l.length 3), (0, .ptr 99 0 []), (1, .int .u64 x), (4, .int .i64 0)]
def atSt (x : Nat) (last max : Nat) (l : List Tx) (m i : Nat) : St := ⟨36, atT x l m i, lvH last max l m, 100⟩
theorem at_onT (x : Nat) {l : List Tx} {m i : Nat} (hm : m < 100) : onT (fun m => m < 100) (atT x l m i) :=
  ((onTL_cons trivial (onTL_cons trivial (onTL_cons hm (onTL_cons (show (99 : Nat) < 100 by decide) (onTL_cons trivial (onTL_cons trivial onTL_nil)))))) : onTL (fun m => m < 100) (atT x l m i)).onT
set_option maxHeartbeats 3200000 in
theorem rat_spec (x : Nat) (last max : Nat) (l : List Tx) (hl : l.length ≤ 1000) (m : Nat) (hm : m = 4) : ACall Try.prog 13 [.ptr 99 0 [], .int .u64 x] (roH last max l m) (.int .i64 (atP l x)) (roH last max l m) := by
  refine ACall.runH (Z := Z) (N := 36) mixed hZ Try.func13 rfl rfl (by kernel_rfl) (by simp) (ro_args arg_u64) ro_on' 100 (ro_lt (by omega)) ?_
  cases hl0 : l with
  | nil =>
    have hv : txV [] m = .nilsl := rfl
    have hb : txB [] m = [] := rfl
    rw [roH, roC, hv, hb]
    simp -dsimp -implicitDefEqProofs only [↓j0, ↓j1, ↓j7, ↓j12, ↓j14, ↓j15, ↓j16, j17, j18, j20, ↓j25, ↓j27, ↓j29, ↓j30, j33, ↓j38, ↓j39, ↓j43, ↓j45, ↓j56, ↓j58, ↓j60, ↓j76, ↓j79, j134, j144, ↓j145, ↓j146, ↓j153, AV.proj, AV.offOf, AV.size, AV.sizeL, argEnv, j163, j164, j166, j167, j171, reduceCtorEq, ↓reduceIte, Nat.reduceAdd, j182, j196, j197, Int.reduceNeg, j276, j288, j378]
    refine AWp.loopR (Z := Z) mixed hZ (by kernel_rfl) (fun n s => s = ⟨36, [(11, .int .i64 0), (10, .int .i64 0), (9, .nilsl), (0, .ptr 99 0 []), (1, .int .u64 x), (4, .int .i64 0)], [(99, .cells (.agg [.int .u32 last, .int .u32 max, .nilsl]))], 100⟩) (n0 := 0) (s0 := ⟨36, [(11, .int .i64 0), (10, .int .i64 0), (9, .nilsl), (0, .ptr 99 0 []), (1, .int .u64 x), (4, .int .i64 0)], [(99, .cells (.agg [.int .u32 last, .int .u32 max, .nilsl]))], 100⟩) ?_ rfl ?_ rfl
    · exact Wk.sub (by simp -dsimp -implicitDefEqProofs only [↓j25, ↓j27, j179, reduceCtorEq, ↓reduceIte, Nat.reduceEqDiff, j182, j183, j184, j202, j203, j204, j205, j209, j223] <;> simp)
    rintro n s rfl
    refine ⟨rfl, ?_⟩
    have e1 : decide ((0 : Int) < 0) = false := rfl
    simp -dsimp -implicitDefEqProofs only [↓j0, ↓j1, ↓j7, ↓j10, ↓j11, ↓j12, ↓j13, ↓j15, j17, j18, j20, ↓j25, ↓j29, ↓j30, j33, ↓j39, ↓j48, ↓j89, ↓j145, ↓j146, ↓j148, ↓j149, j159, j171, ↓reduceIte, Nat.reduceEqDiff, Int.reduceLT, j185, j192, Int.reduceNeg]
    exact Final.oneH (.inr rfl) (r := .tmp 4) rfl ⟨rfl, fun vs h => by cases h⟩ (fun vs h => by cases h) (fun vs h => by cases h) (.same _ trivial) (ro_keep (last := last) (max := max) (l := []) (m := m) rfl (fun h => by simp at h))
  | cons t0 r0 =>
    rw [← hl0]
    have hp : 0 < l.length := by rw [hl0]; simp
    clear hl0
    rw [ro_lv hp]
    subst hm
    · simp -dsimp -implicitDefEqProofs only [↓j0, ↓j1, ↓j7, ↓j12, ↓j14, ↓j15, ↓j16, j17, j18, j20, ↓j25, ↓j27, ↓j29, ↓j30, j33, ↓j38, ↓j39, ↓j43, ↓j45, ↓j56, ↓j58, ↓j61, ↓j76, ↓j79, j135, j143, ↓j145, ↓j146, ↓j153, AV.proj, AV.offOf, AV.size, AV.sizeL, argEnv, j163, j164, j166, j167, j171, reduceCtorEq, ↓reduceIte, Nat.reduceAdd, j182, j196, j197, Int.reduceNeg, j276, j288, j378, lvH]
      refine AWp.loopR (Z := Z) mixed hZ (by kernel_rfl) (fun n s => ∃ i, i + n = l.length ∧ atL (l.drop i) x i = atP l x ∧ s = atSt x last max l 4 i) (n0 := l.length) (s0 := atSt x last max l 4 0) ?_ ⟨0, by omega, rfl, rfl⟩ ?_ rfl
      · exact Wk.sub (by simp -dsimp -implicitDefEqProofs only [↓j25, ↓j27, j179, reduceCtorEq, ↓reduceIte, Nat.reduceEqDiff, j182, j183, j184, j202, j203, j204, j205, j209, j223, atT, lvH] <;> simp [liveL])
      rintro n s ⟨i, hi, hA, rfl⟩
      refine ⟨rfl, ?_⟩
      rcases Nat.lt_or_ge i l.length with hlt | hge
      · have e1 : decide ((i : Int) < (l.length : Int)) = true := decide_eq_true (by omega)
        obtain ⟨t, ht⟩ := list_get (xs := l) (i := i) hlt
        have hsz := (unif_tx l).sizeL_take (k := i) (by simp; omega)
        have hlt2 : (i : Int) < (l.length : Int) := by omega
        have hw : IntKind.i64.wrap ((i : Int) + 1) = ((i + 1 : Nat) : Int) := by rw [wrap_i64 (by omega) (by omega)]; omega
        have hdr : l.drop i = t :: l.drop (i + 1) := by
          rw [List.drop_eq_getElem_cons hlt]
          congr 1
          rw [List.getElem?_eq_getElem hlt] at ht
          exact Option.some.inj ht
        rw [hdr, atL] at hA
        by_cases hn : t.n = x
        · have e2 : ((t.n : Int) == (x : Int)) = true := by rw [beq_iff_eq]; omega
          cases hb : t.live
          · rw [if_neg (by rw [hb]; simp)] at hA
            simp -dsimp -implicitDefEqProofs only [↓j0, ↓j1, ↓j2, ↓j7, ↓j9, ↓j12, ↓j13, ↓j14, ↓j15, j17, j18, j20, ↓j25, ↓j27, ↓j29, ↓j30, j32, j33, ↓j38, ↓j39, ↓j40, ↓j43, ↓j45, ↓j46, ↓j48, ↓j56, ↓j76, ↓j79, j83, ↓j89, ↓j93, j130, j131, j135, ↓j145, ↓j146, ↓j147, ↓j148, ↓j149, ↓j150, ↓j153, j154, j157, j159, AV.proj, AV.offOf, AV.size, AV.sizeL, j163, j164, j166, j167, j170, j171, j175, j177, reduceCtorEq, ↓reduceIte, Nat.reduceAdd, Nat.reduceEqDiff, j182, j185, j191, j196, j197, Int.reduceNeg, j206, j207, j208, j253, j276, j277, j288, j291, j306, j312, atSt, atT, lvH, ht, hsz, hlt2, hb, e2]
            exact ⟨n - 1, atSt x last max l 4 (i + 1), by omega, ⟨i + 1, by omega, hA, rfl⟩, Wk.trans (Wk.mk (s' := ⟨36, atT x l 4 (i + 1), lvH last max l 4, 100⟩) (SubT.spec (by simp -dsimp -implicitDefEqProofs only [↓j25, reduceCtorEq, ↓reduceIte, Nat.reduceEqDiff, j182, j202, j203, atT, hw] <;> simp)) (SubH.spec (by simp -dsimp -implicitDefEqProofs only [↓j27, ↓reduceIte, Nat.reduceEqDiff, j182, j204, j205, lvH] <;> simp)) (Nat.le_refl _) rfl) (Wk.gc (by decide) (at_onT x (m := 4) (by decide)) (lvH_onH (m := 4) (by decide)))⟩
          · rw [if_pos ⟨hn, hb⟩] at hA
            simp -dsimp -implicitDefEqProofs only [↓j0, ↓j1, ↓j2, ↓j7, ↓j9, ↓j10, ↓j12, ↓j13, ↓j14, ↓j15, j17, j18, j20, ↓j25, ↓j27, ↓j29, ↓j30, j32, ↓j38, ↓j39, ↓j40, ↓j43, ↓j45, ↓j46, ↓j48, ↓j56, ↓j76, ↓j79, j83, ↓j89, ↓j93, j130, j131, j135, ↓j145, ↓j146, ↓j147, ↓j149, ↓j150, ↓j153, j157, j159, AV.proj, AV.offOf, AV.size, AV.sizeL, j163, j164, j166, j167, j170, j171, j175, j177, reduceCtorEq, ↓reduceIte, Nat.reduceAdd, Nat.reduceEqDiff, j182, j185, j191, j196, j197, Int.reduceNeg, j206, j207, j208, j253, j276, j277, j288, j291, j306, j312, atSt, atT, lvH, ht, hsz, hlt2, hb, e2]
            rw [← hA]
            exact Final.oneH (.inr rfl) (r := .tmp 4) rfl ⟨rfl, fun vs h => by cases h⟩ (fun vs h => by cases h) (fun vs h => by cases h) (.same _ trivial) (lv_keep hp rfl rfl)
        · have e2 : ((t.n : Int) == (x : Int)) = false := by rw [beq_eq_false_iff_ne]; omega
          rw [if_neg (fun h => hn h.1)] at hA
          simp -dsimp -implicitDefEqProofs only [↓j0, ↓j1, ↓j2, ↓j7, ↓j9, ↓j12, ↓j13, ↓j14, ↓j15, j17, j18, j20, ↓j25, ↓j27, ↓j29, ↓j30, j32, j33, ↓j38, ↓j39, ↓j40, ↓j43, ↓j45, ↓j46, ↓j48, ↓j56, ↓j76, ↓j79, j82, ↓j89, ↓j93, j130, j135, ↓j145, ↓j146, ↓j147, ↓j148, ↓j149, ↓j150, ↓j153, j154, j157, j159, AV.proj, AV.offOf, AV.size, AV.sizeL, j163, j164, j166, j167, j170, j171, j175, j177, reduceCtorEq, ↓reduceIte, Nat.reduceAdd, Nat.reduceEqDiff, j182, j185, j191, j196, j197, Int.reduceNeg, j206, j207, j208, j276, j277, j288, j291, j306, atSt, atT, lvH, ht, hsz, hlt2, e2]
          exact ⟨n - 1, atSt x last max l 4 (i + 1), by omega, ⟨i + 1, by omega, hA, rfl⟩, Wk.trans (Wk.mk (s' := ⟨36, atT x l 4 (i + 1), lvH last max l 4, 100⟩) (SubT.spec (by simp -dsimp -implicitDefEqProofs only [↓j25, reduceCtorEq, ↓reduceIte, Nat.reduceEqDiff, j182, j202, j203, atT, hw] <;> simp)) (SubH.spec (by simp -dsimp -implicitDefEqProofs only [↓j27, ↓reduceIte, Nat.reduceEqDiff, j182, j204, j205, lvH] <;> simp)) (Nat.le_refl _) rfl) (Wk.gc (by decide) (at_onT x (m := 4) (by decide)) (lvH_onH (m := 4) (by decide)))⟩
      · have hi2 : i = l.length := by omega
        subst hi2
        have e1 : decide ((l.length : Int) < (l.length : Int)) = false := decide_eq_false (by omega)
        have htk : l.take l.length = l := List.take_of_length_le (Nat.le_refl _)
        rw [List.drop_of_length_le (Nat.le_refl _)] at hA
        simp -dsimp -implicitDefEqProofs only [↓j0, ↓j1, ↓j7, ↓j10, ↓j11, ↓j12, ↓j13, ↓j15, j17, j18, j20, ↓j25, ↓j29, ↓j30, j33, ↓j39, ↓j48, ↓j89, ↓j145, ↓j146, ↓j148, ↓j149, j159, j171, ↓reduceIte, Nat.reduceEqDiff, j185, Int.reduceNeg, atSt, atT, lvH, e1]
        rw [← hA]
        exact Final.oneH (.inr rfl) (r := .tmp 4) rfl ⟨rfl, fun vs h => by cases h⟩ (fun vs h => by cases h) (fun vs h => by cases h) (.same _ trivial) (lv_keep hp rfl rfl)
def hzT1 (h : Nat) (t : Tx) : Nat := if t.live = true ∧ t.s < h then t.s else h
def rhz (last : Nat) (l : List Tx) : Nat := l.foldl hzT1 last
theorem rhz_snoc {last : Nat} {l : List Tx} {i : Nat} {t : Tx} (h : l[i]? = some t) : rhz last (l.take (i + 1)) = hzT1 (rhz last (l.take i)) t := by
  rw [take_succ h, rhz, List.foldl_append]; rfl
def hzzT (la : Nat) (l : List Tx) (m i : Nat) : Env := [(3, .int .u32 (rhz la (l.take i) : Nat)), (15, .int .i64 i), (14, .int .i64 l.length), (13, .sl m 0 [] 0 l.length l.length 3), (0, .ptr 99 0 []), (2, .int .u32 0)]
def hzzSt (la : Nat) (last max : Nat) (l : List Tx) (m i : Nat) : St := ⟨31, hzzT la l m i, lvH last max l m, 100⟩
theorem hzz_onT (la : Nat) {l : List Tx} {m i : Nat} (hm : m < 100) : onT (fun m => m < 100) (hzzT la l m i) :=
  ((onTL_cons trivial (onTL_cons trivial (onTL_cons trivial (onTL_cons hm (onTL_cons (show (99 : Nat) < 100 by decide) (onTL_cons trivial onTL_nil)))))) : onTL (fun m => m < 100) (hzzT la l m i)).onT
set_option maxHeartbeats 3200000 in
theorem rhzz_spec (last max : Nat) (l : List Tx) (hl : l.length ≤ 1000) (m : Nat) (hm : m = 4) : ACall Try.prog 19 [.ptr 99 0 []] (roH last max l m) (.int .u32 (rhz last l : Nat)) (roH last max l m) := by
  refine ACall.runH (Z := Z) (N := 31) mixed hZ Try.func19 rfl rfl (by kernel_rfl) (by simp) (ro_args no_args) ro_on' 100 (ro_lt (by omega)) ?_
  cases hl0 : l with
  | nil =>
    have hv : txV [] m = .nilsl := rfl
    have hb : txB [] m = [] := rfl
    rw [roH, roC, hv, hb]
    simp -dsimp -implicitDefEqProofs only [↓j0, ↓j1, ↓j7, ↓j12, ↓j14, ↓j15, ↓j16, j17, j18, j20, ↓j25, ↓j27, ↓j29, ↓j30, j33, ↓j38, ↓j39, ↓j43, ↓j45, ↓j56, ↓j58, ↓j60, ↓j76, ↓j79, j130, j134, j144, ↓j145, ↓j146, ↓j153, AV.proj, AV.offOf, AV.size, AV.sizeL, argEnv, j163, j164, j166, j167, j171, reduceCtorEq, ↓reduceIte, Nat.reduceAdd, j182, j196, j197, j260, j276, j282, j288, j378]
    refine AWp.loopR (Z := Z) mixed hZ (by kernel_rfl) (fun n s => s = ⟨31, [(3, .int .u32 last), (15, .int .i64 0), (14, .int .i64 0), (13, .nilsl), (0, .ptr 99 0 []), (2, .int .u32 0)], [(99, .cells (.agg [.int .u32 last, .int .u32 max, .nilsl]))], 100⟩) (n0 := 0) (s0 := ⟨31, [(3, .int .u32 last), (15, .int .i64 0), (14, .int .i64 0), (13, .nilsl), (0, .ptr 99 0 []), (2, .int .u32 0)], [(99, .cells (.agg [.int .u32 last, .int .u32 max, .nilsl]))], 100⟩) ?_ rfl ?_ rfl
    · exact Wk.sub (by simp -dsimp -implicitDefEqProofs only [↓j25, ↓j27, j179, reduceCtorEq, ↓reduceIte, Nat.reduceEqDiff, j182, j183, j184, j202, j203, j204, j205, j209, j223] <;> simp)
    rintro n s rfl
    refine ⟨rfl, ?_⟩
    have e1 : decide ((0 : Int) < 0) = false := rfl
    simp -dsimp -implicitDefEqProofs only [↓j0, ↓j1, ↓j7, ↓j10, ↓j11, ↓j12, ↓j13, ↓j15, j17, j18, j20, ↓j25, ↓j29, ↓j38, ↓j39, ↓j48, ↓j89, ↓j145, ↓j146, ↓j148, ↓j149, j159, j171, ↓reduceIte, Nat.reduceEqDiff, Int.reduceLT, j185, j192]
    exact Final.oneH (.inr rfl) (r := .tmp 2) rfl ⟨rfl, fun vs h => by cases h⟩ (fun vs h => by cases h) (fun vs h => by cases h) (.same _ trivial) (ro_keep (last := last) (max := max) (l := []) (m := m) rfl (fun h => by simp at h))
  | cons t0 r0 =>
    rw [← hl0]
    have hp : 0 < l.length := by rw [hl0]; simp
    clear hl0
    rw [ro_lv hp]
    subst hm
    · simp -dsimp -implicitDefEqProofs only [↓j0, ↓j1, ↓j7, ↓j12, ↓j14, ↓j15, ↓j16, j17, j18, j20, ↓j25, ↓j27, ↓j29, ↓j30, j33, ↓j38, ↓j39, ↓j43, ↓j45, ↓j56, ↓j58, ↓j61, ↓j76, ↓j79, j130, j135, j143, ↓j145, ↓j146, ↓j153, AV.proj, AV.offOf, AV.size, AV.sizeL, argEnv, j163, j164, j166, j167, j171, reduceCtorEq, ↓reduceIte, Nat.reduceAdd, j182, j196, j197, j260, j276, j282, j288, j378, lvH]
      refine AWp.loopR (Z := Z) mixed hZ (by kernel_rfl) (fun n s => ∃ i, i + n = l.length ∧ s = hzzSt last last max l 4 i) (n0 := l.length) (s0 := hzzSt last last max l 4 0) ?_ ⟨0, by omega, rfl⟩ ?_ rfl
      · exact Wk.sub (by simp -dsimp -implicitDefEqProofs only [↓j25, ↓j27, j167, j179, reduceCtorEq, ↓reduceIte, Nat.reduceEqDiff, j182, j183, j184, j202, j203, j204, j205, j209, j223, hzzT, lvH] <;> simp [rhz])
      rintro n s ⟨i, hi, rfl⟩
      refine ⟨rfl, ?_⟩
      rcases Nat.lt_or_ge i l.length with hlt | hge
      · have e1 : decide ((i : Int) < (l.length : Int)) = true := decide_eq_true (by omega)
        obtain ⟨t, ht⟩ := list_get (xs := l) (i := i) hlt
        have hsz := (unif_tx l).sizeL_take (k := i) (by simp; omega)
        have hlt2 : (i : Int) < (l.length : Int) := by omega
        have hw : IntKind.i64.wrap ((i : Int) + 1) = ((i + 1 : Nat) : Int) := by rw [wrap_i64 (by omega) (by omega)]; omega
        have hsn := rhz_snoc (last := last) ht
        obtain ⟨c, hc⟩ : ∃ c, rhz last (l.take i) = c := ⟨_, rfl⟩
        rw [hc] at hsn
        cases hb : t.live
        · have hn : rhz last (l.take (i + 1)) = c := by rw [hsn, hzT1, if_neg (by rw [hb]; simp)]
          simp -dsimp -implicitDefEqProofs only [↓j0, ↓j1, ↓j2, ↓j7, ↓j9, ↓j12, ↓j13, ↓j14, ↓j15, j17, j18, j19, j20, j21, j22, j23, ↓j25, ↓j27, ↓j29, ↓j30, j32, j33, ↓j38, ↓j40, ↓j41, ↓j43, ↓j44, ↓j45, ↓j46, ↓j48, ↓j76, ↓j78, ↓j79, j82, ↓j89, ↓j93, j129, j131, ↓j145, ↓j146, ↓j147, ↓j148, ↓j149, ↓j150, ↓j153, j154, j159, AV.proj, AV.offOf, AV.upd, AV.size, AV.sizeL, AV.layable, j163, j164, j166, j167, j170, j171, j175, j177, ↓reduceIte, Nat.reduceAdd, Nat.reduceEqDiff, j182, j185, j191, j196, j197, j206, j207, j208, j253, j277, j303, j304, j312, j351, hzzSt, hzzT, lvH, hc, ht, hsz, hlt2, hb]
          exact ⟨n - 1, hzzSt last last max l 4 (i + 1), by omega, ⟨i + 1, by omega, rfl⟩, Wk.trans (Wk.mk (s' := ⟨31, hzzT last l 4 (i + 1), lvH last max l 4, 101⟩) (SubT.spec (by simp -dsimp -implicitDefEqProofs only [↓j25, reduceCtorEq, ↓reduceIte, Nat.reduceEqDiff, j182, j202, j203, hzzT, hw, hn] <;> simp)) (SubH.spec (by simp -dsimp -implicitDefEqProofs only [↓j27, ↓reduceIte, Nat.reduceEqDiff, j182, j204, j205, lvH] <;> simp)) (Nat.le_refl _) rfl) (Wk.gc (by decide) (hzz_onT last (m := 4) (by decide)) (lvH_onH (m := 4) (by decide)))⟩
        · by_cases hlt3 : t.s < c
          · have hn : rhz last (l.take (i + 1)) = t.s := by rw [hsn, hzT1, if_pos ⟨hb, hlt3⟩]
            have e3 : decide ((t.s : Int) < (c : Int)) = true := decide_eq_true (by omega)
            simp -dsimp -implicitDefEqProofs only [↓j0, ↓j1, ↓j2, ↓j7, ↓j9, ↓j12, ↓j13, ↓j14, ↓j15, j17, j18, j19, j20, j21, j22, j23, ↓j25, ↓j27, ↓j29, ↓j30, j32, j33, ↓j38, ↓j39, ↓j40, ↓j41, ↓j43, ↓j44, ↓j45, ↓j46, ↓j48, ↓j76, ↓j78, ↓j79, j83, ↓j89, ↓j93, j129, j130, j131, ↓j145, ↓j146, ↓j147, ↓j149, ↓j150, ↓j153, j154, j159, AV.proj, AV.offOf, AV.upd, AV.size, AV.sizeL, AV.layable, j163, j164, j166, j167, j170, j171, j175, j177, ↓reduceIte, Nat.reduceAdd, Nat.reduceEqDiff, j182, j185, j191, j196, j197, j206, j207, j208, j253, j260, j277, j303, j304, j309, j312, j351, hzzSt, hzzT, lvH, hc, ht, hsz, hlt2, hb, e3]
            exact ⟨n - 1, hzzSt last last max l 4 (i + 1), by omega, ⟨i + 1, by omega, rfl⟩, Wk.trans (Wk.mk (s' := ⟨31, hzzT last l 4 (i + 1), lvH last max l 4, 101⟩) (SubT.spec (by simp -dsimp -implicitDefEqProofs only [↓j25, reduceCtorEq, ↓reduceIte, Nat.reduceEqDiff, j182, j202, j203, hzzT, hw, hn] <;> simp)) (SubH.spec (by simp -dsimp -implicitDefEqProofs only [↓j27, ↓reduceIte, Nat.reduceEqDiff, j182, j204, j205, lvH] <;> simp)) (Nat.le_refl _) rfl) (Wk.gc (by decide) (hzz_onT last (m := 4) (by decide)) (lvH_onH (m := 4) (by decide)))⟩
          · have hn : rhz last (l.take (i + 1)) = c := by rw [hsn, hzT1, if_neg (fun h => hlt3 h.2)]
            have e3 : decide ((t.s : Int) < (c : Int)) = false := decide_eq_false (by omega)
            simp -dsimp -implicitDefEqProofs only [↓j0, ↓j1, ↓j2, ↓j7, ↓j9, ↓j12, ↓j13, ↓j14, ↓j15, j17, j18, j19, j20, j21, j22, j23, ↓j25, ↓j27, ↓j29, ↓j30, j32, j33, ↓j38, ↓j40, ↓j41, ↓j43, ↓j44, ↓j45, ↓j46, ↓j48, ↓j76, ↓j78, ↓j79, j83, ↓j89, ↓j93, j129, j130, j131, ↓j145, ↓j146, ↓j147, ↓j148, ↓j149, ↓j150, ↓j153, j154, j159, AV.proj, AV.offOf, AV.upd, AV.size, AV.sizeL, AV.layable, j163, j164, j166, j167, j170, j171, j175, j177, ↓reduceIte, Nat.reduceAdd, Nat.reduceEqDiff, j182, j185, j191, j196, j197, j206, j207, j208, j253, j260, j277, j303, j304, j309, j312, j351, hzzSt, hzzT, lvH, hc, ht, hsz, hlt2, hb, e3]
            exact ⟨n - 1, hzzSt last last max l 4 (i + 1), by omega, ⟨i + 1, by omega, rfl⟩, Wk.trans (Wk.mk (s' := ⟨31, hzzT last l 4 (i + 1), lvH last max l 4, 101⟩) (SubT.spec (by simp -dsimp -implicitDefEqProofs only [↓j25, reduceCtorEq, ↓reduceIte, Nat.reduceEqDiff, j182, j202, j203, hzzT, hw, hn] <;> simp)) (SubH.spec (by simp -dsimp -implicitDefEqProofs only [↓j27, ↓reduceIte, Nat.reduceEqDiff, j182, j204, j205, lvH] <;> simp)) (Nat.le_refl _) rfl) (Wk.gc (by decide) (hzz_onT last (m := 4) (by decide)) (lvH_onH (m := 4) (by decide)))⟩
      · have hi2 : i = l.length := by omega
        subst hi2
        have e1 : decide ((l.length : Int) < (l.length : Int)) = false := decide_eq_false (by omega)
        have htk : l.take l.length = l := List.take_of_length_le (Nat.le_refl _)
        simp -dsimp -implicitDefEqProofs only [↓j0, ↓j1, ↓j7, ↓j10, ↓j11, ↓j12, ↓j13, ↓j15, j17, j18, j20, ↓j25, ↓j29, ↓j38, ↓j39, ↓j48, ↓j89, ↓j145, ↓j146, ↓j148, ↓j149, j159, j171, ↓reduceIte, Nat.reduceEqDiff, j185, hzzSt, hzzT, lvH, e1, htk]
        exact Final.oneH (.inr rfl) (r := .tmp 2) rfl ⟨rfl, fun vs h => by cases h⟩ (fun vs h => by cases h) (fun vs h => by cases h) (.same _ trivial) (lv_keep hp rfl rfl)
theorem live_at {l : List Tx} {i : Nat} {t : Tx} (h : l[i]? = some t) (hb : t.live = true) : ((liveL l).map (·.n))[(liveL (l.take i)).length]? = some t.n := by
  have e : liveL l = liveL (l.take i) ++ t :: liveL (l.drop (i + 1)) := by
    have h1 : l = l.take (i + 1) ++ l.drop (i + 1) := (List.take_append_drop _ _).symm
    have h2 := liveL_snoc h
    rw [if_pos hb] at h2
    have h3 : liveL l = liveL (l.take (i + 1)) ++ liveL (l.drop (i + 1)) := by
      unfold liveL; rw [← List.filter_append, List.take_append_drop]
    rw [h3, h2, List.append_assoc]; rfl
  rw [e, List.map_append, List.getElem?_append_right (by simp), List.length_map, Nat.sub_self]; rfl
theorem arg_lives {ks : List Nat} {last max : Nat} {l : List Tx} {m : Nat} : ∀ x, x ∈ [keysAV ks, .ptr 99 0 []] → AV.on (fun n => n ∈ (roH last max l m).map (·.1)) x ∧ ∀ vs, x ≠ .tuple vs := fun x hx => by
  simp only [List.mem_cons, List.not_mem_nil, or_false] at hx
  rcases hx with rfl | rfl
  · exact ⟨on_keys _ _, fun vs h => by cases h⟩
  · exact ⟨by show 99 ∈ _; simp [roH], fun vs h => by cases h⟩
def lssT (ks : List Nat) (l : List Tx) (m i : Nat) : Env := [(5, .int .i64 ((liveL (l.take i)).length : Nat)), (13, .int .i64 i), (12, .int .i64 l.length), (11, .sl m 0 [] 0 l.length l.length 3), (0, keysAV ks), (1, .ptr 99 0 []), (4, .bool false)]
def lssSt (ks : List Nat) (last max : Nat) (l : List Tx) (m i : Nat) : St := ⟨43, lssT ks l m i, lvH last max l m, 100⟩
theorem lss_onT (ks : List Nat) {l : List Tx} {m i : Nat} (hm : m < 100) : onT (fun m => m < 100) (lssT ks l m i) :=
  ((onTL_cons trivial (onTL_cons trivial (onTL_cons trivial (onTL_cons hm (onTL_cons (on_keys _ _) (onTL_cons (show (99 : Nat) < 100 by decide) (onTL_cons trivial onTL_nil))))))) : onTL (fun m => m < 100) (lssT ks l m i)).onT
set_option maxHeartbeats 3200000 in
theorem rlss_spec (ks : List Nat) (last max : Nat) (l : List Tx) (hl : l.length ≤ 1000) (m : Nat) (hm : m = 4) (hks : ks = (liveL l).map (·.n)) (h8 : ks.length ≤ 8) : ACall Try.prog 20 [keysAV ks, .ptr 99 0 []] (roH last max l m) (.bool true) (roH last max l m) := by
  refine ACall.runH (Z := Z) (N := 43) mixed hZ Try.func20 rfl rfl (by kernel_rfl) (by simp) arg_lives ro_on' 100 (ro_lt (by omega)) ?_
  cases hl0 : l with
  | nil =>
    have hv : txV [] m = .nilsl := rfl
    have hb : txB [] m = [] := rfl
    rw [roH, roC, hv, hb]
    simp -dsimp -implicitDefEqProofs only [↓j0, ↓j1, ↓j7, ↓j12, ↓j14, ↓j15, ↓j16, j17, j18, j20, ↓j25, ↓j27, ↓j29, ↓j30, j32, j33, ↓j38, ↓j39, ↓j43, ↓j45, ↓j56, ↓j58, ↓j60, ↓j76, ↓j79, j134, j144, ↓j145, ↓j146, ↓j153, AV.proj, AV.offOf, AV.size, AV.sizeL, argEnv, j163, j164, j166, j167, j171, reduceCtorEq, ↓reduceIte, Nat.reduceAdd, Nat.reduceEqDiff, j182, j196, j197, j276, j288, j378]
    refine AWp.loopR (Z := Z) mixed hZ (by kernel_rfl) (fun n s => s = ⟨43, [(5, .int .i64 0), (13, .int .i64 0), (12, .int .i64 0), (11, .nilsl), (0, keysAV ks), (1, .ptr 99 0 []), (4, .bool false)], [(99, .cells (.agg [.int .u32 last, .int .u32 max, .nilsl]))], 100⟩) (n0 := 0) (s0 := ⟨43, [(5, .int .i64 0), (13, .int .i64 0), (12, .int .i64 0), (11, .nilsl), (0, keysAV ks), (1, .ptr 99 0 []), (4, .bool false)], [(99, .cells (.agg [.int .u32 last, .int .u32 max, .nilsl]))], 100⟩) ?_ rfl ?_ rfl
    · exact Wk.sub (by simp -dsimp -implicitDefEqProofs only [↓j25, ↓j27, j179, reduceCtorEq, ↓reduceIte, Nat.reduceEqDiff, j182, j183, j184, j202, j203, j204, j205, j209, j223] <;> simp)
    rintro n s rfl
    refine ⟨rfl, ?_⟩
    have e1 : decide ((0 : Int) < 0) = false := rfl
    subst hl0
    have hk0 : ks = [] := hks
    subst hk0
    have z0 : ((0 : Int) == ((0 : Nat) : Int)) = true := rfl
    have z1 : decide ((0 : Int) ≤ 8) = true := rfl
    simp -dsimp -implicitDefEqProofs only [↓j0, ↓j1, ↓j2, ↓j7, ↓j10, ↓j11, ↓j12, ↓j13, ↓j15, j17, j18, j20, ↓j25, ↓j29, ↓j30, j32, j33, ↓j38, ↓j39, ↓j40, ↓j48, ↓j58, ↓j62, j83, ↓j89, j142, ↓j145, ↓j146, ↓j147, ↓j148, ↓j149, ↓j150, j157, j159, j160, j163, j164, j171, j174, j175, reduceCtorEq, ↓reduceIte, Nat.reduceEqDiff, Int.reduceLT, Int.reduceLE, j185, j191, j192, j231, j383, z0]
    exact Final.oneH (.inr rfl) (r := .tmp 4) rfl ⟨rfl, fun vs h => by cases h⟩ (fun vs h => by cases h) (fun vs h => by cases h) (.same _ trivial) (ro_keep (last := last) (max := max) (l := []) (m := m) rfl (fun h => by simp at h))
  | cons t0 r0 =>
    rw [← hl0]
    have hp : 0 < l.length := by rw [hl0]; simp
    clear hl0
    rw [ro_lv hp]
    subst hm
    · simp -dsimp -implicitDefEqProofs only [↓j0, ↓j1, ↓j7, ↓j12, ↓j14, ↓j15, ↓j16, j17, j18, j20, ↓j25, ↓j27, ↓j29, ↓j30, j32, j33, ↓j38, ↓j39, ↓j43, ↓j45, ↓j56, ↓j58, ↓j61, ↓j76, ↓j79, j135, j143, ↓j145, ↓j146, ↓j153, AV.proj, AV.offOf, AV.size, AV.sizeL, argEnv, j163, j164, j166, j167, j171, reduceCtorEq, ↓reduceIte, Nat.reduceAdd, Nat.reduceEqDiff, j182, j196, j197, j276, j288, j378, lvH]
      refine AWp.loopR (Z := Z) mixed hZ (by kernel_rfl) (fun n s => ∃ i, i + n = l.length ∧ s = lssSt ks last max l 4 i) (n0 := l.length) (s0 := lssSt ks last max l 4 0) ?_ ⟨0, by omega, rfl⟩ ?_ rfl
      · exact Wk.sub (by simp -dsimp -implicitDefEqProofs only [↓j25, ↓j27, j167, j179, reduceCtorEq, ↓reduceIte, Nat.reduceEqDiff, j182, j183, j184, j202, j203, j204, j205, j209, j223, lssT, lvH] <;> simp [liveL])
      rintro n s ⟨i, hi, rfl⟩
      refine ⟨rfl, ?_⟩
      rcases Nat.lt_or_ge i l.length with hlt | hge
      · have e1 : decide ((i : Int) < (l.length : Int)) = true := decide_eq_true (by omega)
        obtain ⟨t, ht⟩ := list_get (xs := l) (i := i) hlt
        have hsz := (unif_tx l).sizeL_take (k := i) (by simp; omega)
        have hlt2 : (i : Int) < (l.length : Int) := by omega
        have hw : IntKind.i64.wrap ((i : Int) + 1) = ((i + 1 : Nat) : Int) := by rw [wrap_i64 (by omega) (by omega)]; omega
        have hsn := liveL_snoc ht
        have hle := liveL_le (l.take i)
        rw [List.length_take] at hle
        obtain ⟨c, hc⟩ : ∃ c, (liveL (l.take i)).length = c := ⟨_, rfl⟩
        rw [hc] at hle
        have hw2 : IntKind.i64.wrap ((c : Int) + 1) = ((c + 1 : Nat) : Int) := by rw [wrap_i64 (by omega) (by omega)]; omega
        cases hb : t.live
        · rw [hb] at hsn
          have hn : (liveL (l.take (i + 1))).length = c := by rw [hsn, if_neg Bool.false_ne_true, hc]
          simp -dsimp -implicitDefEqProofs only [↓j0, ↓j1, ↓j7, ↓j9, ↓j12, ↓j13, ↓j14, ↓j15, j17, j18, j19, j20, j21, j22, j23, ↓j25, ↓j27, ↓j29, ↓j30, j33, ↓j38, ↓j41, ↓j43, ↓j44, ↓j45, ↓j46, ↓j48, ↓j76, ↓j78, ↓j79, ↓j89, ↓j93, j129, j131, ↓j145, ↓j146, ↓j147, ↓j148, ↓j149, ↓j153, j154, j159, AV.proj, AV.offOf, AV.upd, AV.size, AV.sizeL, AV.layable, j163, j164, j166, j167, j170, j171, j177, ↓reduceIte, Nat.reduceAdd, Nat.reduceEqDiff, j182, j185, j191, j196, j197, j206, j207, j208, j253, j277, j303, j304, j312, j351, lssSt, lssT, lvH, hc, ht, hsz, hlt2, hb]
          exact ⟨n - 1, lssSt ks last max l 4 (i + 1), by omega, ⟨i + 1, by omega, rfl⟩, Wk.trans (Wk.mk (s' := ⟨43, lssT ks l 4 (i + 1), lvH last max l 4, 101⟩) (SubT.spec (by simp -dsimp -implicitDefEqProofs only [↓j25, reduceCtorEq, ↓reduceIte, Nat.reduceEqDiff, j182, j202, j203, lssT, hw, hn] <;> simp)) (SubH.spec (by simp -dsimp -implicitDefEqProofs only [↓j27, ↓reduceIte, Nat.reduceEqDiff, j182, j204, j205, lvH] <;> simp)) (Nat.le_refl _) rfl) (Wk.gc (by decide) (lss_onT ks (m := 4) (by decide)) (lvH_onH (m := 4) (by decide)))⟩
        · have hk := live_at ht hb
          rw [hc, ← hks] at hk
          have hck : c < ks.length := by
            rcases Nat.lt_or_ge c ks.length with h | h
            · exact h
            · rw [List.getElem?_eq_none h] at hk; cases hk
          rw [hb] at hsn
          have hn : (liveL (l.take (i + 1))).length = c + 1 := by rw [hsn, if_pos rfl, List.length_append, hc]; rfl
          have e3 : decide ((ks.length : Int) ≤ (c : Int)) = false := decide_eq_false (by omega)
          have e4 : (c : Int) < (ks.length : Int) := by omega
          have hszk := (unif_keys ks).sizeL_take (k := c) (by simp; omega)
          have e5 : ((t.n : Int) != (t.n : Int)) = false := by simp
          simp -dsimp -implicitDefEqProofs only [↓j0, ↓j1, ↓j3, ↓j4, ↓j5, ↓j7, ↓j8, ↓j9, ↓j12, ↓j13, ↓j14, ↓j15, j17, j18, j19, j20, j21, j22, j23, j24, ↓j25, ↓j27, ↓j29, ↓j30, j32, ↓j38, ↓j40, ↓j41, ↓j43, ↓j44, ↓j45, ↓j46, ↓j48, ↓j58, ↓j62, ↓j76, ↓j77, ↓j78, ↓j79, j83, ↓j89, ↓j92, ↓j93, j129, j130, j131, j142, ↓j145, ↓j146, ↓j147, ↓j148, ↓j149, ↓j151, ↓j153, j158, j159, j162, AV.proj, AV.offOf, AV.upd, AV.size, AV.sizeL, AV.layable, j163, j164, j166, j167, j170, j171, j172, j174, j175, j177, reduceCtorEq, ↓reduceIte, Nat.reduceAdd, Nat.reduceEqDiff, j182, j185, j191, j195, j196, j197, j206, j207, j208, j253, j277, j291, j303, j304, j306, j312, j318, j351, j383, lssSt, lssT, lvH, hc, ht, hsz, hlt2, hb, e3, e4, hk, hszk, e5]
          refine ⟨by kernel_rfl, ?_⟩
          simp -dsimp -implicitDefEqProofs only [↓j0, ↓j1, ↓j7, ↓j9, ↓j13, ↓j15, j17, j18, j20, ↓j25, ↓j29, ↓j30, j33, ↓j38, ↓j39, ↓j48, ↓j89, ↓j145, ↓j146, ↓j148, ↓j149, j154, j171, ↓reduceIte, Nat.reduceEqDiff, j185]
          exact ⟨n - 1, lssSt ks last max l 4 (i + 1), by omega, ⟨i + 1, by omega, rfl⟩, Wk.trans (Wk.mk (s' := ⟨43, lssT ks l 4 (i + 1), lvH last max l 4, 101⟩) (SubT.spec (by simp -dsimp -implicitDefEqProofs only [↓j25, reduceCtorEq, ↓reduceIte, Nat.reduceEqDiff, j182, j202, j203, lssT, hw, hn, hw2] <;> simp)) (SubH.spec (by simp -dsimp -implicitDefEqProofs only [↓j27, ↓reduceIte, Nat.reduceEqDiff, j182, j204, j205, lvH] <;> simp)) (Nat.le_refl _) rfl) (Wk.gc (by decide) (lss_onT ks (m := 4) (by decide)) (lvH_onH (m := 4) (by decide)))⟩
      · have hi2 : i = l.length := by omega
        subst hi2
        have e1 : decide ((l.length : Int) < (l.length : Int)) = false := decide_eq_false (by omega)
        have htk : l.take l.length = l := List.take_of_length_le (Nat.le_refl _)
        have hkl : (liveL l).length = ks.length := by rw [hks, List.length_map]
        have z0 : ((ks.length : Int) == (ks.length : Int)) = true := by rw [beq_iff_eq]
        have z1 : decide ((ks.length : Int) ≤ 8) = true := decide_eq_true (by omega)
        simp -dsimp -implicitDefEqProofs only [↓j0, ↓j1, ↓j2, ↓j7, ↓j10, ↓j11, ↓j12, ↓j13, ↓j15, j17, j18, j20, ↓j25, ↓j29, ↓j30, j32, j33, ↓j38, ↓j39, ↓j40, ↓j48, ↓j58, ↓j62, j83, ↓j89, j142, ↓j145, ↓j146, ↓j147, ↓j148, ↓j149, ↓j150, j157, j159, j160, j163, j164, j171, j175, reduceCtorEq, ↓reduceIte, Nat.reduceEqDiff, j185, j383, lssSt, lssT, lvH, e1, htk, hkl, z0, z1]
        exact Final.oneH (.inr rfl) (r := .tmp 4) rfl ⟨rfl, fun vs h => by cases h⟩ (fun vs h => by cases h) (fun vs h => by cases h) (.same _ trivial) (lv_keep hp rfl rfl)
end Go.Proofs.Ytiolhncfnoafeaa
