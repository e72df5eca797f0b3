/- The law OraclePlays. -/
import Derived.Test.YtiolhncfnoafeaaO14
set_option maxRecDepth 8000
set_option linter.unusedVariables false
set_option linter.unusedSimpArgs false
namespace Go.Proofs.Ytiolhncfnoafeaa
open Go Go.RowKit

def swA (n : Nat) : Nat := if n = 4 then 100 else if n = 100 then 4 else if n = 101 then 102 else if n = 102 then 101 else n
def swB (n : Nat) : Nat := if n = 4 then 102 else if n = 102 then 4 else n
theorem swA_swA (n : Nat) : swA (swA n) = n := by
  unfold swA
  repeat' split
  all_goals omega
theorem swB_swB (n : Nat) : swB (swB n) = n := by
  unfold swB
  repeat' split
  all_goals omega
theorem txs_ren (σ : Nat → Nat) (l : List Tx) : AV.renL σ (l.map Tx.av) = l.map Tx.av := AV.renL_fix (S := fun _ => False) (fun _ h => h.elim) (on_txs _ _)
theorem lvH_ren {σ : Nat → Nat} {last max : Nat} {l : List Tx} {m m' : Nat} (h9 : σ 99 = 99) (hm : σ m = m') : (lvH last max l m).ren σ = lvH last max l m' := by
  have h := txs_ren σ l
  simp only [lvH, Heap.ren, List.map_cons, List.map_nil, ABlk.ren, AV.ren, AV.renL, h, h9, hm]
theorem at100 (x last max : Nat) (l : List Tx) (hl : l.length ≤ 1000) (hp : 0 < l.length) : ACall Try.prog 13 [.ptr 99 0 [], .int .u64 x] (lvH last max l 100) (.int .i64 (atP l x)) (lvH last max l 100) := by
  have h := (rat_spec x last max l hl 4 rfl).ren swA_swA
  rw [ro_lv hp, lvH_ren (m' := 100) rfl rfl] at h
  exact h
theorem rhz102 (last max : Nat) (l : List Tx) (hl : l.length ≤ 1000) (hp : 0 < l.length) : ACall Try.prog 19 [.ptr 99 0 []] (lvH last max l 102) (.int .u32 (rhz last l : Nat)) (lvH last max l 102) := by
  have h := (rhzz_spec last max l hl 4 rfl).ren swB_swB
  rw [ro_lv hp, lvH_ren (m' := 102) rfl rfl] at h
  exact h
theorem rhz100 (last max : Nat) (l : List Tx) (hl : l.length ≤ 1000) (hp : 0 < l.length) : ACall Try.prog 19 [.ptr 99 0 []] (lvH last max l 100) (.int .u32 (rhz last l : Nat)) (lvH last max l 100) := by
  have h := (rhzz_spec last max l hl 4 rfl).ren swA_swA
  rw [ro_lv hp, lvH_ren (m' := 100) rfl rfl] at h
  exact h
theorem keys_ren (σ : Nat → Nat) (ks : List Nat) : AV.ren σ (keysAV ks) = keysAV ks := AV.ren_fix (S := fun _ => False) (fun _ h => h.elim) (on_keys _ _)
theorem lives102 (ks : List Nat) (last max : Nat) (l : List Tx) (hl : l.length ≤ 1000) (hp : 0 < l.length) (hks : ks = (liveL l).map (·.n)) (h8 : ks.length ≤ 8) : ACall Try.prog 20 [keysAV ks, .ptr 99 0 []] (lvH last max l 102) (.bool true) (lvH last max l 102) := by
  have h := (rlss_spec ks last max l hl 4 rfl hks h8).ren swB_swB
  rw [ro_lv hp, lvH_ren (m' := 102) rfl rfl] at h
  simp only [List.map_cons, List.map_nil, keys_ren] at h
  exact h
theorem lives100 (ks : List Nat) (last max : Nat) (l : List Tx) (hl : l.length ≤ 1000) (hp : 0 < l.length) (hks : ks = (liveL l).map (·.n)) (h8 : ks.length ≤ 8) : ACall Try.prog 20 [keysAV ks, .ptr 99 0 []] (lvH last max l 100) (.bool true) (lvH last max l 100) := by
  have h := (rlss_spec ks last max l hl 4 rfl hks h8).ren swA_swA
  rw [ro_lv hp, lvH_ren (m' := 100) rfl rfl] at h
  simp only [List.map_cons, List.map_nil, keys_ren] at h
  exact h
theorem txV_nil (m : Nat) : txV [] m = .nilsl := rfl
theorem txB_nil (m : Nat) : txB [] m = [] := rfl
theorem roC_nil (last max m : Nat) : roC last max [] m = .cells (.agg [.int .u32 last, .int .u32 max, .nilsl]) := rfl
theorem put_new9 {o : OS} {k : Nat} (hk : k ≤ 1) : ∀ n x, Heap.get (orH o) n = some x → n ∉ ([] : Heap).map (·.1) → k ≤ n ∧ n < 99 := fun n x h _ => by rcases get_or h with ⟨rfl, _⟩ | ⟨rfl, _⟩ <;> omega
theorem put_lv {last max last' max' : Nat} {l l' : List Tx} {m a b : Nat} : ∀ n x, Heap.get (lvH last max l m) n = some x → n ∉ (lvH last' max' l' m).map (·.1) → a ≤ n ∧ n < b := fun n x h h2 => by
  refine absurd ?_ h2
  simp only [lvH, Heap.get] at h
  by_cases h1 : n = 99
  · subst h1; simp [lvH]
  rw [if_neg h1] at h
  by_cases h2 : n = m
  · subst h2; simp [lvH]
  · rw [if_neg h2] at h; cases h
abbrev nlH (last max : Nat) : Heap := [(99, .cells (.agg [.int .u32 last, .int .u32 max, .nilsl]))]
theorem put_nl {last max last' max' a b : Nat} : ∀ n x, Heap.get (nlH last max) n = some x → n ∉ (nlH last' max').map (·.1) → a ≤ n ∧ n < b := fun n x h h2 => by
  refine absurd ?_ h2
  simp only [Heap.get] at h
  by_cases h1 : n = 99
  · subst h1; simp
  · rw [if_neg h1] at h; cases h
theorem put_nlv {last max last' max' : Nat} {l : List Tx} {a : Nat} (h : a ≤ 102) : ∀ n x, Heap.get (lvH last max l 102) n = some x → n ∉ (nlH last' max').map (·.1) → a ≤ n ∧ n < 103 := fun n x hh h2 => by
  simp only [lvH, Heap.get] at hh
  by_cases h1 : n = 99
  · subst h1; exact absurd (by simp) h2
  rw [if_neg h1] at hh
  by_cases h3 : n = 102
  · omega
  · rw [if_neg h3] at hh; cases hh
theorem put_lvv {last max last' max' : Nat} {l l' : List Tx} {a : Nat} (h : a ≤ 102) : ∀ n x, Heap.get (lvH last max l 102) n = some x → n ∉ (lvH last' max' l' 100).map (·.1) → a ≤ n ∧ n < 103 := fun n x hh h2 => by
  simp only [lvH, Heap.get] at hh
  by_cases h1 : n = 99
  · subst h1; exact absurd (by simp [lvH]) h2
  rw [if_neg h1] at hh
  by_cases h3 : n = 102
  · omega
  · rw [if_neg h3] at hh; cases hh
def plT (last max : Nat) (ops : List Op') (i : Nat) : Env := [(9, .int .i64 i), (8, .ptr 99 0 []), (7, .ptr 2 0 []), (0, .int .u32 last), (1, .int .u32 max), (2, opsAV ops), (6, .bool false)]
def plG (o : OS) (l : List Tx) (m : Nat) : Heap := (2, orC o) :: (1, mapB o.live) :: roH o.last o.max l m
def plSt (last max : Nat) (ops : List Op') (o : OS) (l : List Tx) (i : Nat) : St := ⟨237, plT last max ops i, plG o l 100, 101⟩
theorem pl_onT {last max : Nat} {ops : List Op'} {i : Nat} : onTL (fun m => m < 101) (plT last max ops i) :=
  onTL_cons trivial (onTL_cons (show (99 : Nat) < 101 by decide) (onTL_cons (show (2 : Nat) < 101 by decide) (onTL_cons trivial (onTL_cons trivial (onTL_cons (on_ops _ _) (onTL_cons trivial onTL_nil))))))
theorem pl_onH {o : OS} {l : List Tx} : onHL (fun m => m < 101) (plG o l 100) := by
  refine onHL_cons (show (2 : Nat) < 101 by decide) ⟨trivial, trivial, trivial, show (1 : Nat) < 101 by decide, trivial⟩ (onHL_cons (show (1 : Nat) < 101 by decide) (mapB_on _ _) ?_)
  cases l with
  | nil => exact onHL_cons (show (99 : Nat) < 101 by decide) ⟨trivial, trivial, trivial, trivial⟩ onHL_nil
  | cons t r => exact onHL_cons (show (99 : Nat) < 101 by decide) ⟨trivial, trivial, show (100 : Nat) < 101 by decide, trivial⟩ (onHL_cons (show (100 : Nat) < 101 by decide) (on_txs _ _) onHL_nil)
theorem pl_gc {last max : Nat} {ops : List Op'} {o : OS} {l : List Tx} {i m : Nat} : Wk ⟨237, plT last max ops i, plG o l 100, m⟩ (plSt last max ops o l i) := Wk.gc (by decide) pl_onT.onT pl_onH.onH
theorem pl_ren {last max : Nat} {ops : List Op'} {o : OS} {l : List Tx} {i : Nat} (hp : 0 < l.length) (m : Nat) : Wk ⟨237, plT last max ops i, plG o l 102, m⟩ (plSt last max ops o l i) := by
  have eo : plG o l 102 = (2, orC o) :: (1, mapB o.live) :: lvH o.last o.max l 102 := by rw [plG, ro_lv hp]
  have e4 : plG o l 100 = (2, orC o) :: (1, mapB o.live) :: lvH o.last o.max l 100 := by rw [plG, ro_lv hp]
  have h := Wk.rens (n := 237) (nx := m) (K := 101) (t := plT last max ops i) (H := plG o l 102) [(102, 100)] (by decide) (by simp) (by simp)
    (onTL_cons trivial (onTL_cons (show okN [(102, 100)] 101 99 from .inl ⟨by omega, by simp⟩) (onTL_cons (show okN [(102, 100)] 101 2 from .inl ⟨by omega, by simp⟩) (onTL_cons trivial (onTL_cons trivial (onTL_cons (on_ops _ _) (onTL_cons trivial onTL_nil)))))))
    (by
      rw [eo]
      exact onHL_cons (.inl ⟨by omega, by simp⟩) ⟨trivial, trivial, trivial, .inl ⟨by omega, by simp⟩, trivial⟩ (onHL_cons (.inl ⟨by omega, by simp⟩) (mapB_on _ _) (onHL_cons (.inl ⟨by omega, by simp⟩) ⟨trivial, trivial, .inr (by simp), trivial⟩ (onHL_cons (.inr (by simp)) (on_txs _ _) onHL_nil))))
  have e1 : (plT last max ops i).ren (rnL [(102, 100)]) = plT last max ops i := by
    have ho : AV.renL (rnL [(102, 100)]) (ops.map opAV) = ops.map opAV := AV.renL_fix (S := fun _ => False) (fun _ h => h.elim) (on_ops _ _)
    have r1 : rnL [(102, 100)] 99 = 99 := rfl
    have r2 : rnL [(102, 100)] 2 = 2 := rfl
    simp only [plT, Env.ren, List.map_cons, List.map_nil, AV.ren, ho, r1, r2]
  have e2 : (plG o l 102).ren (rnL [(102, 100)]) = plG o l 100 := by
    rw [eo, e4]
    have h := txs_ren (rnL [(102, 100)]) l
    have r1 : rnL [(102, 100)] 99 = 99 := rfl
    have r2 : rnL [(102, 100)] 2 = 2 := rfl
    have r3 : rnL [(102, 100)] 1 = 1 := rfl
    have r4 : rnL [(102, 100)] 102 = 100 := rfl
    have hm : (mapE kAV vAV o.live).map (fun e => (AV.ren (rnL [(102, 100)]) e.1, AV.ren (rnL [(102, 100)]) e.2)) = mapE kAV vAV o.live := by
      simp only [mapE, List.map_map]
      exact List.map_congr_left fun e _ => rfl
    simp only [lvH, Heap.ren, List.map_cons, List.map_nil, ABlk.ren, AV.ren, AV.renL, h, hm, r1, r2, r3, r4]
  rw [e1, e2] at h
  exact h
theorem args_plays {last max : Nat} {l : List Op'} : ∀ x, x ∈ [AV.int .u32 last, .int .u32 max, opsAV l] → AV.on (fun _ => False) x ∧ ∀ vs, x ≠ .tuple vs := fun x hx => by
  simp only [List.mem_cons, List.not_mem_nil, or_false] at hx
  rcases hx with rfl | rfl | rfl
  · exact ⟨trivial, fun vs h => by cases h⟩
  · exact ⟨trivial, fun vs h => by cases h⟩
  · exact ⟨on_ops _ _, fun vs h => by cases h⟩
set_option maxHeartbeats 12800000 in
theorem plays_spec (last max : Nat) (hm : max < 4294967296) (ops : List Op') (hl : ∀ x, x ∈ ops → opOk' x) (hn : ops.length ≤ 9223372036854775807) : ACall Try.prog 4 [.int .u32 last, .int .u32 max, opsAV ops] [] (.bool true) [] := by
  refine ACall.run (Z := Z) (N := 237) mixed hZ Try.func4 rfl rfl (by kernel_rfl) (by simp) args_plays 0 ?_
  have fin : ∀ (t : Env) (H : Heap) (m : Nat), look t 6 = some (.bool true) → Final Try.prog Try.f4 (.bool true) [] .ret ⟨237, t, H, m⟩ := fun t H m h =>
    Final.one (.inr rfl) (r := .tmp 6) rfl ⟨h, fun vs h => by cases h⟩ (fun vs h => by cases h) (fun vs h => by cases h) (.same _ trivial)
  by_cases hlm : max < last
  · have d1 : decide ((max : Int) < (last : Int)) = true := decide_eq_true (by omega)
    simp -dsimp -implicitDefEqProofs only [↓j0, ↓j1, ↓j7, ↓j12, ↓j15, j17, j18, j20, ↓j25, ↓j29, ↓j30, j32, ↓j38, ↓j39, ↓j53, ↓j145, argEnv, j172, reduceCtorEq, ↓reduceIte, Nat.reduceAdd, Nat.reduceEqDiff, j196]
    refine CallTo.pure (args := [.int .u32 last, .int .u32 max]) rfl fok9 (by simp -dsimp -implicitDefEqProofs only [↓j25, ↓j29, j173, j174, ↓reduceIte, Nat.reduceEqDiff]) (notup2 (fun vs h => by cases h) fun vs h => by cases h) (new_none last max hlm) ?_
    simp -dsimp -implicitDefEqProofs only [↓j0, ↓j1, ↓j2, ↓j7, ↓j12, ↓j13, ↓j15, j17, j18, j20, ↓j25, ↓j29, ↓j30, j35, ↓j38, ↓j39, ↓j48, ↓j53, ↓j89, ↓j145, ↓j146, ↓j147, ↓j149, ↓j150, j161, j163, j164, j172, j175, reduceCtorEq, ↓reduceIte, Nat.reduceEqDiff, j185, j194, j211, ↓j236, j264, d1]
    refine CallTo.pure (args := []) rfl fok8 (by simp -dsimp -implicitDefEqProofs only [j174]) (fun x hx => by cases hx) awake_spec ?_
    simp -dsimp -implicitDefEqProofs only [↓j0, ↓j1, ↓j10, j17, j18, j20, ↓j25, ↓j29, ↓j30, j32, ↓j39, ↓j40, j83, ↓j145, j172, ↓reduceIte, Nat.reduceEqDiff]
    exact fin _ _ _ rfl
  have d1 : decide ((max : Int) < (last : Int)) = false := decide_eq_false (by omega)
  have hns := new_spec last max (by omega)
  have ho0 := new_ok (last := last) (max := max) (by omega) hm
  simp -dsimp -implicitDefEqProofs only [↓j0, ↓j1, ↓j7, ↓j12, ↓j15, j17, j18, j20, ↓j25, ↓j29, ↓j30, j32, ↓j38, ↓j39, ↓j53, ↓j145, argEnv, j172, reduceCtorEq, ↓reduceIte, Nat.reduceAdd, Nat.reduceEqDiff, j196]
  refine CallTo.gen (args := [.int .u32 last, .int .u32 max]) [] (orH (new0 last max)) 99 rfl fok9 (by simp -dsimp -implicitDefEqProofs only [↓j25, ↓j29, j173, j174, ↓reduceIte, Nat.reduceEqDiff]) (notup2 (fun vs h => by cases h) fun vs h => by cases h) hns (fun n b h => by simp [Heap.get] at h) ⟨by simp, put_new9 (k := 0) (by decide)⟩ ?_
  simp -dsimp -implicitDefEqProofs only [↓j0, ↓j1, ↓j7, ↓j9, ↓j12, ↓j13, ↓j14, ↓j15, ↓j16, j17, j18, j20, ↓j25, ↓j29, ↓j30, j33, j35, ↓j38, ↓j39, ↓j42, ↓j48, ↓j54, ↓j89, ↓j124, j125, j126, j127, j128, ↓j145, ↓j146, ↓j148, ↓j149, j161, partsAV, AV.size, AV.sizeL, AV.layable, j163, j164, j166, j167, j168, j169, j170, j171, j172, j174, j179, j180, reduceCtorEq, ↓reduceIte, Nat.reduceAdd, Nat.reduceEqDiff, j182, j183, j185, j197, j211, j213, j214, j215, j216, j217, ↓j235, j264, j283, j286, j362, d1]
  refine AWp.loopR (Z := Z) mixed hZ (by kernel_rfl) (fun n s => ∃ o l i, OS.Ok o ∧ Rel o l ∧ i + n = 60 ∧ o.count ≤ i ∧ o.max = max ∧ s = plSt last max ops o l i) (n0 := 60) (s0 := plSt last max ops (new0 last max) [] 0) ?_ ⟨_, [], 0, ho0, rel_new _ _, by omega, Nat.le_refl _, rfl, rfl⟩ ?_ rfl
  · exact Wk.sub (by simp -dsimp -implicitDefEqProofs only [↓j25, ↓j27, j179, reduceCtorEq, ↓reduceIte, Nat.reduceEqDiff, Nat.reduceLeDiff, j182, j183, j184, j202, j203, j204, j205, j209, plT, plG, new0, roH, roC_nil, txB_nil] <;> simp)
  rintro n s ⟨o, l, i, ho, hrel, hi, hc, hmx, rfl⟩
  refine ⟨rfl, ?_⟩
  by_cases hlt : i < ops.length ∧ i < 60
  case neg =>
    cases l with
    | nil =>
      by_cases h1 : i < ops.length
      · have h2 : ¬ i < 60 := fun h => hlt ⟨h1, h⟩
        have e1 : decide ((i : Int) < (ops.length : Int)) = true := decide_eq_true (by omega)
        have e2 : decide ((i : Int) < 60) = false := decide_eq_false (by omega)
        simp -dsimp -implicitDefEqProofs only [↓j0, ↓j1, ↓j2, ↓j7, ↓j11, ↓j12, ↓j13, ↓j15, j17, j18, j20, ↓j25, ↓j29, ↓j30, j32, j33, ↓j38, ↓j40, ↓j48, ↓j53, ↓j58, ↓j62, j83, ↓j89, j142, ↓j145, ↓j146, ↓j147, ↓j148, ↓j149, ↓j150, j159, j163, j164, j171, j175, reduceCtorEq, ↓reduceIte, Nat.reduceEqDiff, j185, j376, plSt, plT, e1, e2]
        refine CallTo.pure (args := []) rfl fok8 (by simp -dsimp -implicitDefEqProofs only [j174]) (fun x hx => by cases hx) awake_spec ?_
        simp -dsimp -implicitDefEqProofs only [↓j0, ↓j1, ↓j10, j17, j18, j20, ↓j25, ↓j29, ↓j39, ↓j145, j171, ↓reduceIte]
        exact fin _ _ _ rfl
      · have e1 : decide ((i : Int) < (ops.length : Int)) = false := decide_eq_false (by omega)
        simp -dsimp -implicitDefEqProofs only [↓j0, ↓j1, ↓j2, ↓j7, ↓j11, ↓j12, ↓j13, ↓j15, j17, j18, j20, ↓j25, ↓j29, ↓j30, j32, ↓j38, ↓j40, ↓j48, ↓j53, ↓j58, ↓j62, j82, ↓j89, j142, ↓j145, ↓j146, ↓j148, ↓j149, ↓j150, j159, j163, j164, j171, j175, reduceCtorEq, ↓reduceIte, Nat.reduceEqDiff, j185, j376, plSt, plT, e1]
        refine CallTo.pure (args := []) rfl fok8 (by simp -dsimp -implicitDefEqProofs only [j174]) (fun x hx => by cases hx) awake_spec ?_
        simp -dsimp -implicitDefEqProofs only [↓j0, ↓j1, ↓j10, j17, j18, j20, ↓j25, ↓j29, ↓j39, ↓j145, j171, ↓reduceIte]
        exact fin _ _ _ rfl
    | cons t r =>
      by_cases h1 : i < ops.length
      · have h2 : ¬ i < 60 := fun h => hlt ⟨h1, h⟩
        have e1 : decide ((i : Int) < (ops.length : Int)) = true := decide_eq_true (by omega)
        have e2 : decide ((i : Int) < 60) = false := decide_eq_false (by omega)
        simp -dsimp -implicitDefEqProofs only [↓j0, ↓j1, ↓j2, ↓j7, ↓j11, ↓j12, ↓j13, ↓j15, j17, j18, j20, ↓j25, ↓j29, ↓j30, j32, j33, ↓j38, ↓j40, ↓j48, ↓j53, ↓j58, ↓j62, j83, ↓j89, j142, ↓j145, ↓j146, ↓j147, ↓j148, ↓j149, ↓j150, j159, j163, j164, j171, j175, reduceCtorEq, ↓reduceIte, Nat.reduceEqDiff, j185, j376, plSt, plT, e1, e2]
        refine CallTo.pure (args := []) rfl fok8 (by simp -dsimp -implicitDefEqProofs only [j174]) (fun x hx => by cases hx) awake_spec ?_
        simp -dsimp -implicitDefEqProofs only [↓j0, ↓j1, ↓j10, j17, j18, j20, ↓j25, ↓j29, ↓j39, ↓j145, j171, ↓reduceIte]
        exact fin _ _ _ rfl
      · have e1 : decide ((i : Int) < (ops.length : Int)) = false := decide_eq_false (by omega)
        simp -dsimp -implicitDefEqProofs only [↓j0, ↓j1, ↓j2, ↓j7, ↓j11, ↓j12, ↓j13, ↓j15, j17, j18, j20, ↓j25, ↓j29, ↓j30, j32, ↓j38, ↓j40, ↓j48, ↓j53, ↓j58, ↓j62, j82, ↓j89, j142, ↓j145, ↓j146, ↓j148, ↓j149, ↓j150, j159, j163, j164, j171, j175, reduceCtorEq, ↓reduceIte, Nat.reduceEqDiff, j185, j376, plSt, plT, e1]
        refine CallTo.pure (args := []) rfl fok8 (by simp -dsimp -implicitDefEqProofs only [j174]) (fun x hx => by cases hx) awake_spec ?_
        simp -dsimp -implicitDefEqProofs only [↓j0, ↓j1, ↓j10, j17, j18, j20, ↓j25, ↓j29, ↓j39, ↓j145, j171, ↓reduceIte]
        exact fin _ _ _ rfl
  obtain ⟨h1, h2⟩ := hlt
  subst hmx
  have e1 : decide ((i : Int) < (ops.length : Int)) = true := decide_eq_true (by omega)
  have e2 : decide ((i : Int) < 60) = true := decide_eq_true (by omega)
  obtain ⟨x, hx⟩ := list_get (xs := ops) (i := i) h1
  have hxo := hl x (List.mem_of_getElem? hx)
  have hxo : kOk x.2 := hxo
  have hsz := (unif_ops ops).sizeL_take (k := i) (by simp; omega)
  have hlt2 : (i : Int) < (ops.length : Int) := by omega
  have hw : IntKind.i64.wrap ((i : Int) + 1) = ((i + 1 : Nat) : Int) := by rw [wrap_i64 (by omega) (by omega)]; omega
  have hlm2 := ho.lm
  have hcl : l.length ≤ 100 := by rw [hrel.cnt]; omega
  have wy := wrap_u32 x.2
  have hyl := Nat.mod_lt x.2 (show 0 < 4294967296 by decide)
  obtain ⟨y, hy⟩ : ∃ y, x.2 % 4294967296 = y := ⟨_, rfl⟩
  rw [hy] at wy hyl
  have w1 : o.last < o.max → IntKind.u32.wrap ((o.last : Int) + 1) = ((o.last + 1 : Nat) : Int) := fun h => by
    have := wrap_u32 (o.last + 1)
    rw [Nat.mod_eq_of_lt (by omega)] at this
    rw [← this]; rfl
  have bb1 : (false != false) = false := rfl
  have bb2 : (true != true) = false := rfl
  have n0 : ((0 : Int) != 0) = false := rfl
  have n1 : ((1 : Int) != 1) = false := rfl
  have n8 : ((8 : Int) != 8) = false := rfl
  have n90 : ((9 : Int) == 0) = false := rfl
  have n00 : ((0 : Int) == 0) = true := rfl
  have ng : decide ((0 : Int) ≤ -1) = false := rfl
  have nn : ∀ a : Int, (a != a) = false := fun a => by simp
  have fNx : o.nextP = if o.last = o.max then (0, 8) else (o.last + 1, 0) := rfl
  have hnx := next_spec o ho
  have hst := start_spec o ho x.2 hxo
  have fSt : o.startP x.2 = match aGet o.live x.2 with
    | some s => (s, true)
    | none => (0, false) := rfl
  have fEn : o.endP x.2 = if (o.startP x.2).2 then (0, { o with live := aDel o.live x.2 }) else (9, o) := rfl
  have hen := end_spec o ho x.2 hxo
  have heo := end_ok ho x.2
  have fPub : ∀ ts, o.pubP ts = if o.nextP.2 ≠ 0 ∨ o.nextP.1 ≠ ts then (1, o) else (0, { o with last := ts }) := fun ts => rfl
  cases hg : aGet o.live x.2 with
  | none =>
    have hat0 := hrel.lost ho hg
    rw [hg] at fSt
    have hst0 : o.startP x.2 = (0, false) := fSt
    rw [hst0] at hst
    have hst : ACall Try.prog 14 [.ptr 2 0 [], .int .u64 x.2] (orH o) (.tuple [.int .u32 0, .bool false]) (orH o) := hst
    cases l with
    | nil =>
      skip
      have hfacts : ((((o.last : Int) == (o.max : Int)) = true ∧ decide ((o.last : Int) < (o.max : Int)) = false ∧ ((0 : Int) != 0) = false ∧ ACall Try.prog 10 [.ptr 2 0 []] (orH o) (.tuple [.int .u32 0, .int .i64 8]) (orH o) ∧ o.last = o.max) ∨
          (((o.last : Int) == (o.max : Int)) = false ∧ decide ((o.last : Int) < (o.max : Int)) = true ∧ IntKind.u32.wrap ((o.last : Int) + 1) = ((o.last + 1 : Nat) : Int) ∧ ACall Try.prog 10 [.ptr 2 0 []] (orH o) (.tuple [.int .u32 ((o.last + 1 : Nat) : Int), .int .i64 0]) (orH o) ∧ ¬ o.last = o.max)) := by
        by_cases hlm3 : o.last = o.max
        · rw [fNx, if_pos hlm3] at hnx
          exact .inl ⟨by rw [beq_iff_eq]; omega, decide_eq_false (by omega), rfl, hnx, hlm3⟩
        · rw [fNx, if_neg hlm3] at hnx
          exact .inr ⟨by rw [beq_eq_false_iff_ne]; omega, decide_eq_true (by omega), w1 (by omega), hnx, hlm3⟩
      clear hnx w1
      have hat := rat_spec x.2 o.last o.max [] (by decide) 4 rfl
      rw [hat0] at hat
      have hat : ACall Try.prog 13 [.ptr 99 0 [], .int .u64 x.2] (nlH o.last o.max) (.int .i64 (-1)) (nlH o.last o.max) := hat
      rcases hfacts with ⟨b1, b2, w1, hnx, hlm3⟩ | ⟨b1, b2, w1, hnx, hlm3⟩
      all_goals
        simp -dsimp -implicitDefEqProofs only [↓j0, ↓j1, ↓j2, ↓j7, ↓j9, ↓j12, ↓j13, ↓j14, ↓j15, j17, j18, j19, j20, j21, j22, j23, ↓j25, ↓j27, ↓j29, ↓j30, j32, j33, ↓j38, ↓j40, ↓j41, ↓j43, ↓j44, ↓j45, ↓j46, ↓j48, ↓j53, ↓j58, ↓j62, ↓j76, ↓j77, ↓j78, ↓j79, j83, ↓j89, ↓j92, j129, j130, j142, ↓j145, ↓j146, ↓j147, ↓j149, ↓j150, ↓j153, j159, AV.proj, AV.offOf, AV.upd, AV.size, AV.sizeL, AV.layable, j163, j164, j166, j167, j170, j171, j175, j177, reduceCtorEq, ↓reduceIte, Nat.reduceAdd, Nat.reduceEqDiff, j182, j185, j191, j196, j197, j206, j207, j208, j270, j291, j293, j294, j299, j350, j376, e2, hx, hsz, hlt2, plSt, plT, plG, roH, roC_nil, txB_nil]
        refine CallTo.gen (args := [.ptr 99 0 [], .int .u64 x.2]) (nlH o.last o.max) (nlH o.last o.max) 102 rfl fok13 (by simp -dsimp -implicitDefEqProofs only [↓j25, ↓j29, j173, j174, ↓reduceIte, Nat.reduceEqDiff]) (notup2 (fun vs h => by cases h) fun vs h => by cases h) hat (SubH.of (by simp -dsimp -implicitDefEqProofs only [↓j27, ↓reduceIte, Nat.reduceEqDiff, j182, j204, j205])) ⟨by simp, put_nl⟩ ?_
        simp -dsimp -implicitDefEqProofs only [↓j0, ↓j1, ↓j7, ↓j12, ↓j15, j17, j18, j20, j21, j22, j23, ↓j25, ↓j29, ↓j38, ↓j39, ↓j53, ↓j145, j170, j171, j173, j174, ↓reduceIte, Nat.reduceEqDiff, Int.reduceNeg]
        refine CallTo.gen (args := [.ptr 2 0 []]) (orH o) (orH o) 102 rfl fok10 (by simp -dsimp -implicitDefEqProofs only [↓j25, ↓j29, j173, j174, ↓reduceIte, Int.reduceNeg]) (notup1 fun vs h => by cases h) hnx (SubH.of (by simp -dsimp -implicitDefEqProofs only [↓j27, ↓reduceIte, Nat.reduceEqDiff, j182, j204, j205])) ⟨by simp, put_or⟩ ?_
        simp -dsimp -implicitDefEqProofs only [↓j0, ↓j1, ↓j2, ↓j7, ↓j9, ↓j12, ↓j13, ↓j15, j17, j18, j20, j21, j22, j23, ↓j25, ↓j27, ↓j29, ↓j30, j32, j33, ↓j38, ↓j39, ↓j40, ↓j43, ↓j45, ↓j48, ↓j53, ↓j56, ↓j57, ↓j76, ↓j79, j82, j83, j85, ↓j89, j130, ↓j145, ↓j146, ↓j147, ↓j148, ↓j149, ↓j150, ↓j151, ↓j152, ↓j153, j154, j157, j158, j159, AV.proj, AV.offOf, AV.size, AV.sizeL, j163, j164, j166, j167, j170, j171, j173, j174, j175, reduceCtorEq, ↓reduceIte, Nat.reduceEqDiff, j182, j185, j195, j196, j197, Int.reduceNeg, j260, j282, j291, j299, n0, n8, nn, b1, b2, w1]
        refine CallTo.gen (args := [.ptr 2 0 [], .int .u64 x.2]) (orH o) (orH o) 102 rfl fok14 (by simp -dsimp -implicitDefEqProofs only [↓j25, ↓j29, j173, j174, ↓reduceIte, Nat.reduceEqDiff, Int.reduceNeg]) (notup2 (fun vs h => by cases h) fun vs h => by cases h) hst (SubH.of (by simp -dsimp -implicitDefEqProofs only [↓j27, ↓reduceIte, Nat.reduceEqDiff, j182, j204, j205])) ⟨by simp, put_or⟩ ?_
        by_cases k0 : x.1 = 0
        · have g0 : (x.1 == 0) = true := by rw [beq_iff_eq]; exact k0
          have hb := begin_spec o ho (by omega)
          have hbo := begin_ok ho (by omega)
          have hbc := (begin_count o).1
          obtain ⟨hr1, hr2, hr3, hr4⟩ := hrel.begin ho
          have hrb := rbegin_spec o.last o.max [] (by have := hcl; omega)
          have fRb : rbegP o.last [] = if 8 ≤ (liveL []).length then ((0, 0, 10), []) else (([].length + 1, o.last, 0), [] ++ [⟨[].length + 1, o.last, true⟩]) := rfl
          have fRn : rbegN [] = if 8 ≤ (liveL []).length then 4 else 101 := rfl
          rw [hr2] at hb
          obtain ⟨⟨⟨p, q, f⟩, l1⟩, hr⟩ : ∃ r, rbegP o.last [] = r := ⟨_, rfl⟩
          rw [hr] at hb hrb hr1 fRb
          obtain ⟨o1, ho1e⟩ : ∃ o1, o.beginP.2 = o1 := ⟨_, rfl⟩
          rw [ho1e] at hb hbo hbc hr1 hr3 hr4
          have ho1 := hbo
          have hrel1 : Rel o1 l1 := hr1
          have hcnt1 : o1.count ≤ i + 1 := by omega
          have hl1 := hr3
          have hmx1 := hr4
          have hb : ACall Try.prog 15 [.ptr 2 0 []] (orH o) (.tuple [.int .u64 (p : Nat), .int .u32 (q : Nat), .int .i64 (f : Nat)]) (orH o1) := hb
          have hrb : ACall Try.prog 16 [.ptr 99 0 []] (roH o.last o.max [] 4) (.tuple [.int .u64 (p : Nat), .int .u32 (q : Nat), .int .i64 (f : Nat)]) (roH o.last o.max l1 (rbegN [])) := hrb
          simp -dsimp -implicitDefEqProofs only [↓j0, ↓j1, ↓j2, ↓j7, ↓j9, ↓j12, ↓j13, ↓j14, ↓j15, j17, j18, j20, j21, j22, j23, ↓j25, ↓j27, ↓j29, ↓j30, j32, j33, ↓j38, ↓j39, ↓j40, ↓j43, ↓j45, ↓j48, ↓j53, ↓j55, ↓j57, ↓j76, ↓j79, j82, j83, j84, j85, ↓j89, ↓j90, j130, ↓j145, ↓j146, ↓j147, ↓j148, ↓j149, ↓j150, ↓j151, ↓j153, j157, j158, j162, AV.proj, AV.offOf, AV.sizeL, j163, j164, j167, j170, j171, j173, j174, j175, ↓reduceIte, Nat.reduceEqDiff, Int.reduceLE, j182, j185, j192, j194, j195, j197, Int.reduceNeg, j212, j250, j296, j370, bb1, n0, g0]
          refine CallTo.gen (args := [.ptr 2 0 []]) (orH o) (orH o1) 102 rfl fok15 (by simp -dsimp -implicitDefEqProofs only [↓j25, ↓j29, j173, j174, ↓reduceIte, Int.reduceNeg]) (notup1 fun vs h => by cases h) hb (SubH.of (by simp -dsimp -implicitDefEqProofs only [↓j27, ↓reduceIte, Nat.reduceEqDiff, j182, j204, j205])) ⟨by simp, put_or⟩ ?_
          simp -dsimp -implicitDefEqProofs only [↓j0, ↓j1, ↓j7, ↓j12, ↓j15, j17, j18, j20, j21, j22, j23, ↓j25, ↓j29, ↓j38, ↓j39, ↓j53, ↓j57, j85, ↓j145, j163, j164, j170, j171, j173, j174, ↓reduceIte, Nat.reduceEqDiff, Int.reduceNeg]
          rw [if_neg (by decide)] at fRn fRb
          have hp1 : 0 < l1.length := by
            have := congrArg (fun r : (Nat × Nat × Nat) × List Tx => r.2.length) fRb
            simp only [List.nil_append, List.length_cons, List.length_nil] at this
            omega
          rw [fRn, ro_lv hp1] at hrb
          have hrb : ACall Try.prog 16 [.ptr 99 0 []] (nlH o.last o.max) (.tuple [.int .u64 (p : Nat), .int .u32 (q : Nat), .int .i64 (f : Nat)]) (lvH o.last o.max l1 102) := by
            have h := hrb.ren swA_swA
            rw [lvH_ren (m := 101) (m' := 102) rfl rfl] at h
            exact h
          refine CallTo.gen (args := [.ptr 99 0 []]) (nlH o.last o.max) (lvH o.last o.max l1 102) 103 rfl fok16 (by simp -dsimp -implicitDefEqProofs only [↓j25, ↓j29, j173, j174, ↓reduceIte, Int.reduceNeg]) (notup1 fun vs h => by cases h) hrb (SubH.of (by simp -dsimp -implicitDefEqProofs only [↓j27, ↓reduceIte, Nat.reduceEqDiff, j182, j204, j205])) ⟨by simp, put_nlv (Nat.le_refl 102)⟩ ?_
          simp -dsimp -implicitDefEqProofs only [↓j0, ↓j1, ↓j2, ↓j4, ↓j7, ↓j8, ↓j9, ↓j12, ↓j13, ↓j15, j17, j18, j20, j21, j22, j23, j24, ↓j25, ↓j29, ↓j30, j32, ↓j38, ↓j39, ↓j40, ↓j48, ↓j53, ↓j57, j83, j85, ↓j89, ↓j145, ↓j146, ↓j148, ↓j149, ↓j151, j158, j163, j164, j170, j171, j172, j173, j174, j175, ↓reduceIte, Nat.reduceEqDiff, j185, j195, Int.reduceNeg, nn, lvH]
          have hls := last_spec o1
          have hho := hz_spec o1 ho1
          have hrz := hrel1.hz ho1
          have hks := hrel1.keys ho1
          have hk8 : (keysIn o1.live).length ≤ 8 := by rw [keysIn_len]; exact ho1.few
          have hlv := live_spec o1 ho1
          have hcl1 : (l1 : List Tx).length ≤ 1000 := by rw [hrel1.cnt]; have := hcnt1; omega
          have hrh := rhz102 o.last o.max l1 hcl1 hp1
          have hli := lives102 (keysIn o1.live) o.last o.max l1 hcl1 hp1 hks hk8
          rw [hl1] at hrz hls
          rw [hrz] at hrh
          refine CallTo.gen (args := [.ptr 2 0 []]) (orH o1) (orH o1) 103 rfl fok12 (by simp -dsimp -implicitDefEqProofs only [↓j25, ↓j29, j173, j174, ↓reduceIte, Int.reduceNeg]) (notup1 fun vs h => by cases h) hls (SubH.of (by simp -dsimp -implicitDefEqProofs only [↓j27, ↓reduceIte, Nat.reduceEqDiff, j182, j204, j205])) ⟨by simp, put_or⟩ ?_
          simp -dsimp -implicitDefEqProofs only [↓j4, ↓j5, j17, j18, j20, j21, j22, j23, j24, ↓j25, ↓j27, ↓j29, ↓j38, ↓j43, ↓j45, ↓j48, ↓j53, ↓j56, ↓j76, ↓j79, ↓j89, j130, ↓j145, ↓j146, ↓j148, ↓j151, ↓j153, j158, AV.proj, AV.offOf, AV.sizeL, j163, j164, j167, j170, j171, j172, j173, j174, j175, ↓reduceIte, Nat.reduceEqDiff, j182, j185, j197, Int.reduceNeg, j260, j282, nn]
          refine CallTo.gen (args := [.ptr 2 0 []]) (orH o1) (orH o1) 103 rfl fok18 (by simp -dsimp -implicitDefEqProofs only [↓j25, ↓j29, j173, j174, ↓reduceIte, Int.reduceNeg]) (notup1 fun vs h => by cases h) hho (SubH.of (by simp -dsimp -implicitDefEqProofs only [↓j27, ↓reduceIte, Nat.reduceEqDiff, j182, j204, j205])) ⟨by simp, put_or⟩ ?_
          simp -dsimp -implicitDefEqProofs only [↓j5, j17, j18, j20, j21, j22, j23, j24, ↓j25, ↓j29, ↓j38, ↓j53, ↓j145, ↓j148, ↓j151, j163, j164, j170, j171, j172, j173, j174, j175, ↓reduceIte, Nat.reduceEqDiff, Int.reduceNeg]
          refine CallTo.gen (args := [.ptr 99 0 []]) (lvH o.last o.max l1 102) (lvH o.last o.max l1 102) 103 rfl fok19 (by simp -dsimp -implicitDefEqProofs only [↓j25, ↓j29, j173, j174, ↓reduceIte, Int.reduceNeg]) (notup1 fun vs h => by cases h) hrh (SubH.of (by simp -dsimp -implicitDefEqProofs only [↓j27, ↓reduceIte, Nat.reduceEqDiff, j182, j204, j205, lvH])) ⟨by simp, put_lv⟩ ?_
          simp -dsimp -implicitDefEqProofs only [↓j3, ↓j4, ↓j5, j17, j18, j20, j21, j22, j23, j24, ↓j25, ↓j29, ↓j30, j32, ↓j40, ↓j48, j83, ↓j89, ↓j145, ↓j146, ↓j148, ↓j151, j158, j163, j164, j170, j171, j172, j173, j174, j175, ↓reduceIte, Nat.reduceEqDiff, j185, j195, Int.reduceNeg, nn, lvH]
          refine ⟨by kernel_rfl, ?_⟩
          simp -dsimp -implicitDefEqProofs only [↓j1, ↓j7, ↓j9, ↓j12, ↓j13, ↓j15, j17, j18, j20, ↓j25, ↓j29, ↓j38, ↓j53, ↓j145, ↓j148, ↓j149, j171, ↓reduceIte, Nat.reduceEqDiff, Int.reduceNeg]
          refine CallTo.gen (args := [.ptr 2 0 []]) (orH o1) (orH o1) 103 rfl fok21 (by simp -dsimp -implicitDefEqProofs only [↓j25, ↓j29, j173, j174, ↓reduceIte, Int.reduceNeg]) (notup1 fun vs h => by cases h) hlv (SubH.of (by simp -dsimp -implicitDefEqProofs only [↓j27, ↓reduceIte, Nat.reduceEqDiff, j182, j204, j205])) ⟨by simp, put_or⟩ ?_
          simp -dsimp -implicitDefEqProofs only [↓j1, j17, j18, j20, j21, j22, j23, ↓j25, ↓j29, ↓j38, ↓j53, ↓j145, j170, j171, j173, j174, ↓reduceIte, Nat.reduceEqDiff, Int.reduceNeg]
          refine CallTo.gen (args := [keysAV (keysIn o1.live), .ptr 99 0 []]) (lvH o.last o.max l1 102) (lvH o.last o.max l1 102) 103 rfl fok20 (by simp -dsimp -implicitDefEqProofs only [↓j25, ↓j29, j173, j174, ↓reduceIte, Nat.reduceEqDiff, Int.reduceNeg]) (notup2 (fun vs h => by cases h) fun vs h => by cases h) hli (SubH.of (by simp -dsimp -implicitDefEqProofs only [↓j27, ↓reduceIte, Nat.reduceEqDiff, j182, j204, j205, lvH])) ⟨by simp, put_lv⟩ ?_
          simp -dsimp -implicitDefEqProofs only [↓j0, ↓j1, ↓j7, ↓j9, ↓j13, ↓j15, j17, j18, j20, j21, j22, j23, ↓j25, ↓j29, ↓j30, j33, ↓j38, ↓j39, ↓j48, ↓j55, j84, ↓j89, ↓j145, ↓j146, ↓j148, ↓j149, j154, j170, j171, j173, j174, ↓reduceIte, Nat.reduceEqDiff, j185, j193, Int.reduceNeg, lvH]
          exact ⟨n - 1, plSt last o.max ops o1 l1 (i + 1), by omega, ⟨o1, l1, i + 1, ho1, hrel1, by omega, hcnt1, hmx1, rfl⟩, Wk.trans (Wk.mk (s' := ⟨237, plT last o.max ops (i + 1), plG o1 l1 102, 103⟩) (SubT.spec (by simp -dsimp -implicitDefEqProofs only [↓j25, reduceCtorEq, ↓reduceIte, Nat.reduceEqDiff, j182, Int.reduceNeg, j202, j203, plT, hw] <;> simp)) (SubH.spec (by simp -dsimp -implicitDefEqProofs only [↓j27, ↓reduceIte, Nat.reduceEqDiff, j182, j204, j205, plG, ro_lv hp1, lvH, hl1, hmx1] <;> simp)) (Nat.le_refl _) rfl) (pl_ren hp1 _)⟩
        have g0 : (x.1 == 0) = false := by rw [beq_eq_false_iff_ne]; exact k0
        by_cases k1 : x.1 = 1
        · have g1 : (x.1 == 1) = true := by rw [beq_iff_eq]; exact k1
          rw [hst0, if_neg Bool.false_ne_true] at fEn
          rw [fEn] at hen
          have hen : ACall Try.prog 17 [.ptr 2 0 [], .int .u64 x.2] (orH o) (.int .i64 9) (orH o) := hen
          have ho1 := ho
          have hrel1 := hrel
          have hcnt1 : o.count ≤ i + 1 := by omega
          have hl1 : o.last = o.last := rfl
          have hmx1 : o.max = o.max := rfl
          simp -dsimp -implicitDefEqProofs only [↓j0, ↓j1, ↓j2, ↓j7, ↓j9, ↓j12, ↓j13, ↓j14, ↓j15, j17, j18, j20, j21, j22, j23, ↓j25, ↓j27, ↓j29, ↓j30, j32, j33, ↓j38, ↓j39, ↓j40, ↓j43, ↓j45, ↓j48, ↓j53, ↓j55, ↓j57, ↓j76, ↓j79, j82, j83, j84, j85, ↓j89, ↓j90, j130, ↓j145, ↓j146, ↓j147, ↓j148, ↓j149, ↓j150, ↓j151, ↓j153, j157, j158, j162, AV.proj, AV.offOf, AV.size, AV.sizeL, j163, j164, j166, j167, j170, j171, j173, j174, j175, ↓reduceIte, Nat.reduceEqDiff, Int.reduceLE, j182, j185, j192, j194, j195, j196, j197, Int.reduceNeg, j212, j250, j291, j296, j299, j370, bb1, n0, g0, g1]
          refine CallTo.gen (args := [.ptr 2 0 [], .int .u64 x.2]) (orH o) (orH o) 102 rfl fok17 (by simp -dsimp -implicitDefEqProofs only [↓j25, ↓j29, j173, j174, ↓reduceIte, Nat.reduceEqDiff, Int.reduceNeg]) (notup2 (fun vs h => by cases h) fun vs h => by cases h) hen (SubH.of (by simp -dsimp -implicitDefEqProofs only [↓j27, ↓reduceIte, Nat.reduceEqDiff, j182, j204, j205])) ⟨by simp, put_or⟩ ?_
          simp -dsimp -implicitDefEqProofs only [↓j0, ↓j1, ↓j4, ↓j7, ↓j8, ↓j9, ↓j12, ↓j13, ↓j15, j17, j18, j20, j21, j22, j23, j24, ↓j25, ↓j29, ↓j30, j33, ↓j38, ↓j48, ↓j53, ↓j89, ↓j90, ↓j145, ↓j146, ↓j148, ↓j149, j157, j162, j170, j171, j172, j173, j174, ↓reduceIte, Nat.reduceEqDiff, Int.reduceLE, j185, j192, Int.reduceNeg, j212, j370, bb1, n90]
          have hls := last_spec o
          have hho := hz_spec o ho1
          have hrz := hrel1.hz ho1
          have hks := hrel1.keys ho1
          have hk8 : (keysIn o.live).length ≤ 8 := by rw [keysIn_len]; exact ho1.few
          have hlv := live_spec o ho1
          have hcl1 : ([] : List Tx).length ≤ 1000 := by rw [hrel1.cnt]; have := hcnt1; omega
          have hrh : ACall Try.prog 19 [.ptr 99 0 []] (nlH o.last o.max) (.int .u32 (rhz o.last [] : Nat)) (nlH o.last o.max) := rhzz_spec o.last o.max [] (by decide) 4 rfl
          have hli : ACall Try.prog 20 [keysAV (keysIn o.live), .ptr 99 0 []] (nlH o.last o.max) (.bool true) (nlH o.last o.max) := rlss_spec (keysIn o.live) o.last o.max [] (by decide) 4 rfl hks hk8
          rw [hl1] at hrz hls
          rw [hrz] at hrh
          refine CallTo.gen (args := [.ptr 2 0 []]) (orH o) (orH o) 102 rfl fok12 (by simp -dsimp -implicitDefEqProofs only [↓j25, ↓j29, j173, j174, ↓reduceIte, Int.reduceNeg]) (notup1 fun vs h => by cases h) hls (SubH.of (by simp -dsimp -implicitDefEqProofs only [↓j27, ↓reduceIte, Nat.reduceEqDiff, j182, j204, j205])) ⟨by simp, put_or⟩ ?_
          simp -dsimp -implicitDefEqProofs only [↓j4, ↓j5, j17, j18, j20, j21, j22, j23, j24, ↓j25, ↓j27, ↓j29, ↓j38, ↓j43, ↓j45, ↓j48, ↓j53, ↓j56, ↓j76, ↓j79, ↓j89, j130, ↓j145, ↓j146, ↓j148, ↓j151, ↓j153, j158, AV.proj, AV.offOf, AV.sizeL, j163, j164, j167, j170, j171, j172, j173, j174, j175, ↓reduceIte, Nat.reduceEqDiff, j182, j185, j197, Int.reduceNeg, j260, j282, nn]
          refine CallTo.gen (args := [.ptr 2 0 []]) (orH o) (orH o) 102 rfl fok18 (by simp -dsimp -implicitDefEqProofs only [↓j25, ↓j29, j173, j174, ↓reduceIte, Int.reduceNeg]) (notup1 fun vs h => by cases h) hho (SubH.of (by simp -dsimp -implicitDefEqProofs only [↓j27, ↓reduceIte, Nat.reduceEqDiff, j182, j204, j205])) ⟨by simp, put_or⟩ ?_
          simp -dsimp -implicitDefEqProofs only [↓j5, j17, j18, j20, j21, j22, j23, j24, ↓j25, ↓j29, ↓j38, ↓j53, ↓j145, ↓j148, ↓j151, j163, j164, j170, j171, j172, j173, j174, j175, ↓reduceIte, Nat.reduceEqDiff, Int.reduceNeg]
          refine CallTo.gen (args := [.ptr 99 0 []]) (nlH o.last o.max) (nlH o.last o.max) 102 rfl fok19 (by simp -dsimp -implicitDefEqProofs only [↓j25, ↓j29, j173, j174, ↓reduceIte, Int.reduceNeg]) (notup1 fun vs h => by cases h) hrh (SubH.of (by simp -dsimp -implicitDefEqProofs only [↓j27, ↓reduceIte, Nat.reduceEqDiff, j182, j204, j205])) ⟨by simp, put_nl⟩ ?_
          simp -dsimp -implicitDefEqProofs only [↓j3, ↓j4, ↓j5, j17, j18, j20, j21, j22, j23, j24, ↓j25, ↓j29, ↓j30, j32, ↓j40, ↓j48, j83, ↓j89, ↓j145, ↓j146, ↓j148, ↓j151, j158, j163, j164, j170, j171, j172, j173, j174, j175, ↓reduceIte, Nat.reduceEqDiff, j185, j195, Int.reduceNeg, nn]
          refine ⟨by kernel_rfl, ?_⟩
          simp -dsimp -implicitDefEqProofs only [↓j1, ↓j7, ↓j9, ↓j12, ↓j13, ↓j15, j17, j18, j20, ↓j25, ↓j29, ↓j38, ↓j53, ↓j145, ↓j148, ↓j149, j171, ↓reduceIte, Nat.reduceEqDiff, Int.reduceNeg]
          refine CallTo.gen (args := [.ptr 2 0 []]) (orH o) (orH o) 102 rfl fok21 (by simp -dsimp -implicitDefEqProofs only [↓j25, ↓j29, j173, j174, ↓reduceIte, Int.reduceNeg]) (notup1 fun vs h => by cases h) hlv (SubH.of (by simp -dsimp -implicitDefEqProofs only [↓j27, ↓reduceIte, Nat.reduceEqDiff, j182, j204, j205])) ⟨by simp, put_or⟩ ?_
          simp -dsimp -implicitDefEqProofs only [↓j1, j17, j18, j20, j21, j22, j23, ↓j25, ↓j29, ↓j38, ↓j53, ↓j145, j170, j171, j173, j174, ↓reduceIte, Nat.reduceEqDiff, Int.reduceNeg]
          refine CallTo.gen (args := [keysAV (keysIn o.live), .ptr 99 0 []]) (nlH o.last o.max) (nlH o.last o.max) 102 rfl fok20 (by simp -dsimp -implicitDefEqProofs only [↓j25, ↓j29, j173, j174, ↓reduceIte, Nat.reduceEqDiff, Int.reduceNeg]) (notup2 (fun vs h => by cases h) fun vs h => by cases h) hli (SubH.of (by simp -dsimp -implicitDefEqProofs only [↓j27, ↓reduceIte, Nat.reduceEqDiff, j182, j204, j205])) ⟨by simp, put_nl⟩ ?_
          simp -dsimp -implicitDefEqProofs only [↓j0, ↓j1, ↓j7, ↓j9, ↓j13, ↓j15, j17, j18, j20, j21, j22, j23, ↓j25, ↓j29, ↓j30, j33, ↓j38, ↓j39, ↓j48, ↓j55, j84, ↓j89, ↓j145, ↓j146, ↓j148, ↓j149, j154, j170, j171, j173, j174, ↓reduceIte, Nat.reduceEqDiff, j185, j193, Int.reduceNeg]
          exact ⟨n - 1, plSt last o.max ops o [] (i + 1), by omega, ⟨o, [], i + 1, ho1, hrel1, by omega, hcnt1, hmx1, rfl⟩, Wk.trans (Wk.mk (s' := ⟨237, plT last o.max ops (i + 1), plG o [] 100, 102⟩) (SubT.spec (by simp -dsimp -implicitDefEqProofs only [↓j25, reduceCtorEq, ↓reduceIte, Nat.reduceEqDiff, j182, Int.reduceNeg, j202, j203, plT, hw] <;> simp)) (SubH.spec (by simp -dsimp -implicitDefEqProofs only [↓j27, ↓reduceIte, Nat.reduceEqDiff, j182, j204, j205, plG, roH, roC_nil, txB_nil] <;> simp)) (Nat.le_refl _) rfl) pl_gc⟩
        have g1 : (x.1 == 1) = false := by rw [beq_eq_false_iff_ne]; exact k1
        by_cases k2 : x.1 = 2
        · have g2 : (x.1 == 2) = true := by rw [beq_iff_eq]; exact k2
          have g3 : (x.1 == 3) = false := by rw [beq_eq_false_iff_ne]; omega
          rcases Nat.lt_or_ge o.last o.max with hq | hq
          · first
              | exfalso; omega
              | skip
                rw [if_neg hlm3] at fNx
                by_cases hyy : y = o.last + 1
                · have hpp : o.pubP y = (0, { o with last := y }) := by rw [fPub, fNx, if_neg (by simp <;> omega)]
                  have hpb := pub_spec o ho y (by omega)
                  have hpo := pub_ok ho y
                  rw [hpp] at hpb hpo
                  obtain ⟨o1, ho1e⟩ : ∃ o1, ({ o with last := y } : OS) = o1 := ⟨_, rfl⟩
                  have ho1 : o1.Ok := ho1e ▸ hpo
                  have hrel1 : Rel o1 [] := ho1e ▸ hrel.pub y
                  have hcnt1 : o1.count ≤ i + 1 := by rw [← ho1e]; show o.count ≤ i + 1; omega
                  have hl1 : o1.last = y := by rw [← ho1e]
                  have hmx1 : o1.max = o.max := by rw [← ho1e]
                  have hpb : ACall Try.prog 11 [.ptr 2 0 [], .int .u32 (y : Nat)] (orH o) (.int .i64 0) (orH o1) := by rw [← ho1e]; exact hpb
                  have hp1 : True := trivial
                  simp -dsimp -implicitDefEqProofs only [↓j0, ↓j1, ↓j2, ↓j7, ↓j9, ↓j12, ↓j13, ↓j14, ↓j15, j17, j18, j20, j21, j22, j23, ↓j25, ↓j27, ↓j29, ↓j30, j32, j33, ↓j38, ↓j39, ↓j40, ↓j43, ↓j45, ↓j48, ↓j50, ↓j53, ↓j55, ↓j57, ↓j76, ↓j79, j82, j83, j84, j85, ↓j89, ↓j90, j130, ↓j145, ↓j146, ↓j147, ↓j148, ↓j149, ↓j150, ↓j151, ↓j153, j157, j158, j162, AV.proj, AV.offOf, AV.size, AV.sizeL, j163, j164, j166, j167, j170, j171, j173, j174, j175, ↓reduceIte, Nat.reduceEqDiff, Int.reduceLE, j182, j185, j192, j194, j195, j196, j197, Int.reduceNeg, j212, ↓j225, j250, j261, j291, j296, j299, j370, j380, bb1, n0, g0, g1, g2, wy, g3]
                  refine CallTo.gen (args := [.ptr 2 0 [], .int .u32 (y : Nat)]) (orH o) (orH o1) 102 rfl fok11 (by simp -dsimp -implicitDefEqProofs only [↓j25, ↓j29, j173, j174, ↓reduceIte, Nat.reduceEqDiff, Int.reduceNeg]) (notup2 (fun vs h => by cases h) fun vs h => by cases h) hpb (SubH.of (by simp -dsimp -implicitDefEqProofs only [↓j27, ↓reduceIte, Nat.reduceEqDiff, j182, j204, j205])) ⟨by simp, put_or⟩ ?_
                  have ye : (((y : Nat) : Int) == ((o.last + 1 : Nat) : Int)) = true := by rw [beq_iff_eq] <;> omega
                  simp -dsimp -implicitDefEqProofs only [↓j0, ↓j1, ↓j2, ↓j4, ↓j7, ↓j8, ↓j9, ↓j12, ↓j13, ↓j15, j17, j18, j19, j20, j21, j22, j23, j24, ↓j25, ↓j27, ↓j29, ↓j30, j32, j33, ↓j38, ↓j39, ↓j40, ↓j43, ↓j44, ↓j45, ↓j48, ↓j53, ↓j56, ↓j76, ↓j78, ↓j79, j83, ↓j89, j130, ↓j145, ↓j146, ↓j147, ↓j148, ↓j149, ↓j150, ↓j153, j154, j157, j158, j159, AV.proj, AV.offOf, AV.upd, AV.size, AV.sizeL, AV.layable, j163, j164, j167, j169, j170, j171, j172, j173, j174, j175, reduceCtorEq, ↓reduceIte, Nat.reduceEqDiff, j182, j185, j197, Int.reduceNeg, j259, j260, j282, n0, b2, w1, ye]
                  have hls := last_spec o1
                  have hho := hz_spec o1 ho1
                  have hrz := hrel1.hz ho1
                  have hks := hrel1.keys ho1
                  have hk8 : (keysIn o1.live).length ≤ 8 := by rw [keysIn_len]; exact ho1.few
                  have hlv := live_spec o1 ho1
                  have hcl1 : ([] : List Tx).length ≤ 1000 := by rw [hrel1.cnt]; have := hcnt1; omega
                  have hrh : ACall Try.prog 19 [.ptr 99 0 []] (nlH y o.max) (.int .u32 (rhz y [] : Nat)) (nlH y o.max) := rhzz_spec y o.max [] (by decide) 4 rfl
                  have hli : ACall Try.prog 20 [keysAV (keysIn o1.live), .ptr 99 0 []] (nlH y o.max) (.bool true) (nlH y o.max) := rlss_spec (keysIn o1.live) y o.max [] (by decide) 4 rfl hks hk8
                  rw [hl1] at hrz hls
                  rw [hrz] at hrh
                  refine CallTo.gen (args := [.ptr 2 0 []]) (orH o1) (orH o1) 102 rfl fok12 (by simp -dsimp -implicitDefEqProofs only [↓j25, ↓j29, j173, j174, ↓reduceIte, Int.reduceNeg]) (notup1 fun vs h => by cases h) hls (SubH.of (by simp -dsimp -implicitDefEqProofs only [↓j27, ↓reduceIte, Nat.reduceEqDiff, j182, j204, j205])) ⟨by simp, put_or⟩ ?_
                  simp -dsimp -implicitDefEqProofs only [↓j4, ↓j5, j17, j18, j20, j21, j22, j23, j24, ↓j25, ↓j27, ↓j29, ↓j38, ↓j43, ↓j45, ↓j48, ↓j53, ↓j56, ↓j76, ↓j79, ↓j89, j130, ↓j145, ↓j146, ↓j148, ↓j151, ↓j153, j158, AV.proj, AV.offOf, AV.sizeL, j163, j164, j167, j170, j171, j172, j173, j174, j175, ↓reduceIte, Nat.reduceEqDiff, j182, j185, j197, Int.reduceNeg, j260, j282, nn]
                  refine CallTo.gen (args := [.ptr 2 0 []]) (orH o1) (orH o1) 102 rfl fok18 (by simp -dsimp -implicitDefEqProofs only [↓j25, ↓j29, j173, j174, ↓reduceIte, Int.reduceNeg]) (notup1 fun vs h => by cases h) hho (SubH.of (by simp -dsimp -implicitDefEqProofs only [↓j27, ↓reduceIte, Nat.reduceEqDiff, j182, j204, j205])) ⟨by simp, put_or⟩ ?_
                  simp -dsimp -implicitDefEqProofs only [↓j5, j17, j18, j20, j21, j22, j23, j24, ↓j25, ↓j29, ↓j38, ↓j53, ↓j145, ↓j148, ↓j151, j163, j164, j170, j171, j172, j173, j174, j175, ↓reduceIte, Nat.reduceEqDiff, Int.reduceNeg]
                  refine CallTo.gen (args := [.ptr 99 0 []]) (nlH y o.max) (nlH y o.max) 102 rfl fok19 (by simp -dsimp -implicitDefEqProofs only [↓j25, ↓j29, j173, j174, ↓reduceIte, Int.reduceNeg]) (notup1 fun vs h => by cases h) hrh (SubH.of (by simp -dsimp -implicitDefEqProofs only [↓j27, ↓reduceIte, Nat.reduceEqDiff, j182, j204, j205])) ⟨by simp, put_nl⟩ ?_
                  simp -dsimp -implicitDefEqProofs only [↓j3, ↓j4, ↓j5, j17, j18, j20, j21, j22, j23, j24, ↓j25, ↓j29, ↓j30, j32, ↓j40, ↓j48, j83, ↓j89, ↓j145, ↓j146, ↓j148, ↓j151, j158, j163, j164, j170, j171, j172, j173, j174, j175, ↓reduceIte, Nat.reduceEqDiff, j185, j195, Int.reduceNeg, nn]
                  refine ⟨by kernel_rfl, ?_⟩
                  simp -dsimp -implicitDefEqProofs only [↓j1, ↓j7, ↓j9, ↓j12, ↓j13, ↓j15, j17, j18, j20, ↓j25, ↓j29, ↓j38, ↓j53, ↓j145, ↓j148, ↓j149, j171, ↓reduceIte, Nat.reduceEqDiff, Int.reduceNeg]
                  refine CallTo.gen (args := [.ptr 2 0 []]) (orH o1) (orH o1) 102 rfl fok21 (by simp -dsimp -implicitDefEqProofs only [↓j25, ↓j29, j173, j174, ↓reduceIte, Int.reduceNeg]) (notup1 fun vs h => by cases h) hlv (SubH.of (by simp -dsimp -implicitDefEqProofs only [↓j27, ↓reduceIte, Nat.reduceEqDiff, j182, j204, j205])) ⟨by simp, put_or⟩ ?_
                  simp -dsimp -implicitDefEqProofs only [↓j1, j17, j18, j20, j21, j22, j23, ↓j25, ↓j29, ↓j38, ↓j53, ↓j145, j170, j171, j173, j174, ↓reduceIte, Nat.reduceEqDiff, Int.reduceNeg]
                  refine CallTo.gen (args := [keysAV (keysIn o1.live), .ptr 99 0 []]) (nlH y o.max) (nlH y o.max) 102 rfl fok20 (by simp -dsimp -implicitDefEqProofs only [↓j25, ↓j29, j173, j174, ↓reduceIte, Nat.reduceEqDiff, Int.reduceNeg]) (notup2 (fun vs h => by cases h) fun vs h => by cases h) hli (SubH.of (by simp -dsimp -implicitDefEqProofs only [↓j27, ↓reduceIte, Nat.reduceEqDiff, j182, j204, j205])) ⟨by simp, put_nl⟩ ?_
                  simp -dsimp -implicitDefEqProofs only [↓j0, ↓j1, ↓j7, ↓j9, ↓j13, ↓j15, j17, j18, j20, j21, j22, j23, ↓j25, ↓j29, ↓j30, j33, ↓j38, ↓j39, ↓j48, ↓j55, j84, ↓j89, ↓j145, ↓j146, ↓j148, ↓j149, j154, j170, j171, j173, j174, ↓reduceIte, Nat.reduceEqDiff, j185, j193, Int.reduceNeg]
                  exact ⟨n - 1, plSt last o.max ops o1 [] (i + 1), by omega, ⟨o1, [], i + 1, ho1, hrel1, by omega, hcnt1, hmx1, rfl⟩, Wk.trans (Wk.mk (s' := ⟨237, plT last o.max ops (i + 1), plG o1 [] 100, 102⟩) (SubT.spec (by simp -dsimp -implicitDefEqProofs only [↓j25, reduceCtorEq, ↓reduceIte, Nat.reduceEqDiff, j182, Int.reduceNeg, j202, j203, plT, hw] <;> simp)) (SubH.spec (by simp -dsimp -implicitDefEqProofs only [↓j27, ↓reduceIte, Nat.reduceEqDiff, j182, j204, j205, plG, roH, roC_nil, txB_nil, hl1, hmx1] <;> simp)) (Nat.le_refl _) rfl) pl_gc⟩
                · have hpp : o.pubP y = (1, o) := by rw [fPub, fNx, if_pos (.inr (by simp only; omega))]
                  have yy : ((y : Int) == ((o.last + 1 : Nat) : Int)) = false := by rw [beq_eq_false_iff_ne]; omega
                  have hpb := pub_spec o ho y (by omega)
                  rw [hpp] at hpb
                  have hpb : ACall Try.prog 11 [.ptr 2 0 [], .int .u32 (y : Nat)] (orH o) (.int .i64 1) (orH o) := hpb
                  have ho1 := ho
                  have hrel1 := hrel
                  have hcnt1 : o.count ≤ i + 1 := by omega
                  have hl1 : o.last = o.last := rfl
                  have hmx1 : o.max = o.max := rfl
                  simp -dsimp -implicitDefEqProofs only [↓j0, ↓j1, ↓j2, ↓j7, ↓j9, ↓j12, ↓j13, ↓j14, ↓j15, j17, j18, j20, j21, j22, j23, ↓j25, ↓j27, ↓j29, ↓j30, j32, j33, ↓j38, ↓j39, ↓j40, ↓j43, ↓j45, ↓j48, ↓j50, ↓j53, ↓j55, ↓j57, ↓j76, ↓j79, j82, j83, j84, j85, ↓j89, ↓j90, j130, ↓j145, ↓j146, ↓j147, ↓j148, ↓j149, ↓j150, ↓j151, ↓j153, j157, j158, j162, AV.proj, AV.offOf, AV.size, AV.sizeL, j163, j164, j166, j167, j170, j171, j173, j174, j175, ↓reduceIte, Nat.reduceEqDiff, Int.reduceLE, j182, j185, j192, j194, j195, j196, j197, Int.reduceNeg, j212, ↓j225, j250, j261, j291, j296, j299, j370, j380, bb1, n0, g0, g1, g2, wy, g3]
                  refine CallTo.gen (args := [.ptr 2 0 [], .int .u32 (y : Nat)]) (orH o) (orH o) 102 rfl fok11 (by simp -dsimp -implicitDefEqProofs only [↓j25, ↓j29, j173, j174, ↓reduceIte, Nat.reduceEqDiff, Int.reduceNeg]) (notup2 (fun vs h => by cases h) fun vs h => by cases h) hpb (SubH.of (by simp -dsimp -implicitDefEqProofs only [↓j27, ↓reduceIte, Nat.reduceEqDiff, j182, j204, j205])) ⟨by simp, put_or⟩ ?_
                  simp -dsimp -implicitDefEqProofs only [↓j0, ↓j1, ↓j2, ↓j4, ↓j7, ↓j8, ↓j9, ↓j12, ↓j13, ↓j15, j17, j18, j20, j21, j22, j23, j24, ↓j25, ↓j27, ↓j29, ↓j30, j32, j33, ↓j38, ↓j39, ↓j40, ↓j43, ↓j45, ↓j48, ↓j53, ↓j56, ↓j76, ↓j79, j83, ↓j89, j130, ↓j145, ↓j146, ↓j147, ↓j148, ↓j149, ↓j150, ↓j153, j154, j157, j158, j159, AV.proj, AV.offOf, AV.sizeL, j163, j164, j167, j170, j171, j172, j173, j174, j175, reduceCtorEq, ↓reduceIte, Nat.reduceEqDiff, j182, j185, j197, Int.reduceNeg, j260, j282, n1, b2, w1, yy]
                  have hls := last_spec o
                  have hho := hz_spec o ho1
                  have hrz := hrel1.hz ho1
                  have hks := hrel1.keys ho1
                  have hk8 : (keysIn o.live).length ≤ 8 := by rw [keysIn_len]; exact ho1.few
                  have hlv := live_spec o ho1
                  have hcl1 : ([] : List Tx).length ≤ 1000 := by rw [hrel1.cnt]; have := hcnt1; omega
                  have hrh : ACall Try.prog 19 [.ptr 99 0 []] (nlH o.last o.max) (.int .u32 (rhz o.last [] : Nat)) (nlH o.last o.max) := rhzz_spec o.last o.max [] (by decide) 4 rfl
                  have hli : ACall Try.prog 20 [keysAV (keysIn o.live), .ptr 99 0 []] (nlH o.last o.max) (.bool true) (nlH o.last o.max) := rlss_spec (keysIn o.live) o.last o.max [] (by decide) 4 rfl hks hk8
                  rw [hl1] at hrz hls
                  rw [hrz] at hrh
                  refine CallTo.gen (args := [.ptr 2 0 []]) (orH o) (orH o) 102 rfl fok12 (by simp -dsimp -implicitDefEqProofs only [↓j25, ↓j29, j173, j174, ↓reduceIte, Int.reduceNeg]) (notup1 fun vs h => by cases h) hls (SubH.of (by simp -dsimp -implicitDefEqProofs only [↓j27, ↓reduceIte, Nat.reduceEqDiff, j182, j204, j205])) ⟨by simp, put_or⟩ ?_
                  simp -dsimp -implicitDefEqProofs only [↓j4, ↓j5, j17, j18, j20, j21, j22, j23, j24, ↓j25, ↓j27, ↓j29, ↓j38, ↓j43, ↓j45, ↓j48, ↓j53, ↓j56, ↓j76, ↓j79, ↓j89, j130, ↓j145, ↓j146, ↓j148, ↓j151, ↓j153, j158, AV.proj, AV.offOf, AV.sizeL, j163, j164, j167, j170, j171, j172, j173, j174, j175, ↓reduceIte, Nat.reduceEqDiff, j182, j185, j197, Int.reduceNeg, j260, j282, nn]
                  refine CallTo.gen (args := [.ptr 2 0 []]) (orH o) (orH o) 102 rfl fok18 (by simp -dsimp -implicitDefEqProofs only [↓j25, ↓j29, j173, j174, ↓reduceIte, Int.reduceNeg]) (notup1 fun vs h => by cases h) hho (SubH.of (by simp -dsimp -implicitDefEqProofs only [↓j27, ↓reduceIte, Nat.reduceEqDiff, j182, j204, j205])) ⟨by simp, put_or⟩ ?_
                  simp -dsimp -implicitDefEqProofs only [↓j5, j17, j18, j20, j21, j22, j23, j24, ↓j25, ↓j29, ↓j38, ↓j53, ↓j145, ↓j148, ↓j151, j163, j164, j170, j171, j172, j173, j174, j175, ↓reduceIte, Nat.reduceEqDiff, Int.reduceNeg]
                  refine CallTo.gen (args := [.ptr 99 0 []]) (nlH o.last o.max) (nlH o.last o.max) 102 rfl fok19 (by simp -dsimp -implicitDefEqProofs only [↓j25, ↓j29, j173, j174, ↓reduceIte, Int.reduceNeg]) (notup1 fun vs h => by cases h) hrh (SubH.of (by simp -dsimp -implicitDefEqProofs only [↓j27, ↓reduceIte, Nat.reduceEqDiff, j182, j204, j205])) ⟨by simp, put_nl⟩ ?_
                  simp -dsimp -implicitDefEqProofs only [↓j3, ↓j4, ↓j5, j17, j18, j20, j21, j22, j23, j24, ↓j25, ↓j29, ↓j30, j32, ↓j40, ↓j48, j83, ↓j89, ↓j145, ↓j146, ↓j148, ↓j151, j158, j163, j164, j170, j171, j172, j173, j174, j175, ↓reduceIte, Nat.reduceEqDiff, j185, j195, Int.reduceNeg, nn]
                  refine ⟨by kernel_rfl, ?_⟩
                  simp -dsimp -implicitDefEqProofs only [↓j1, ↓j7, ↓j9, ↓j12, ↓j13, ↓j15, j17, j18, j20, ↓j25, ↓j29, ↓j38, ↓j53, ↓j145, ↓j148, ↓j149, j171, ↓reduceIte, Nat.reduceEqDiff, Int.reduceNeg]
                  refine CallTo.gen (args := [.ptr 2 0 []]) (orH o) (orH o) 102 rfl fok21 (by simp -dsimp -implicitDefEqProofs only [↓j25, ↓j29, j173, j174, ↓reduceIte, Int.reduceNeg]) (notup1 fun vs h => by cases h) hlv (SubH.of (by simp -dsimp -implicitDefEqProofs only [↓j27, ↓reduceIte, Nat.reduceEqDiff, j182, j204, j205])) ⟨by simp, put_or⟩ ?_
                  simp -dsimp -implicitDefEqProofs only [↓j1, j17, j18, j20, j21, j22, j23, ↓j25, ↓j29, ↓j38, ↓j53, ↓j145, j170, j171, j173, j174, ↓reduceIte, Nat.reduceEqDiff, Int.reduceNeg]
                  refine CallTo.gen (args := [keysAV (keysIn o.live), .ptr 99 0 []]) (nlH o.last o.max) (nlH o.last o.max) 102 rfl fok20 (by simp -dsimp -implicitDefEqProofs only [↓j25, ↓j29, j173, j174, ↓reduceIte, Nat.reduceEqDiff, Int.reduceNeg]) (notup2 (fun vs h => by cases h) fun vs h => by cases h) hli (SubH.of (by simp -dsimp -implicitDefEqProofs only [↓j27, ↓reduceIte, Nat.reduceEqDiff, j182, j204, j205])) ⟨by simp, put_nl⟩ ?_
                  simp -dsimp -implicitDefEqProofs only [↓j0, ↓j1, ↓j7, ↓j9, ↓j13, ↓j15, j17, j18, j20, j21, j22, j23, ↓j25, ↓j29, ↓j30, j33, ↓j38, ↓j39, ↓j48, ↓j55, j84, ↓j89, ↓j145, ↓j146, ↓j148, ↓j149, j154, j170, j171, j173, j174, ↓reduceIte, Nat.reduceEqDiff, j185, j193, Int.reduceNeg]
                  exact ⟨n - 1, plSt last o.max ops o [] (i + 1), by omega, ⟨o, [], i + 1, ho1, hrel1, by omega, hcnt1, hmx1, rfl⟩, Wk.trans (Wk.mk (s' := ⟨237, plT last o.max ops (i + 1), plG o [] 100, 102⟩) (SubT.spec (by simp -dsimp -implicitDefEqProofs only [↓j25, reduceCtorEq, ↓reduceIte, Nat.reduceEqDiff, j182, Int.reduceNeg, j202, j203, plT, hw] <;> simp)) (SubH.spec (by simp -dsimp -implicitDefEqProofs only [↓j27, ↓reduceIte, Nat.reduceEqDiff, j182, j204, j205, plG, roH, roC_nil, txB_nil] <;> simp)) (Nat.le_refl _) rfl) pl_gc⟩
          · first
              | exfalso; omega
              | skip
                rw [if_pos hlm3] at fNx
                have hpp : o.pubP y = (1, o) := by rw [fPub, fNx, if_pos (.inl (by decide))]
                have hpb := pub_spec o ho y (by omega)
                rw [hpp] at hpb
                have hpb : ACall Try.prog 11 [.ptr 2 0 [], .int .u32 (y : Nat)] (orH o) (.int .i64 1) (orH o) := hpb
                have ho1 := ho
                have hrel1 := hrel
                have hcnt1 : o.count ≤ i + 1 := by omega
                have hl1 : o.last = o.last := rfl
                have hmx1 : o.max = o.max := rfl
                simp -dsimp -implicitDefEqProofs only [↓j0, ↓j1, ↓j2, ↓j7, ↓j9, ↓j12, ↓j13, ↓j14, ↓j15, j17, j18, j20, j21, j22, j23, ↓j25, ↓j27, ↓j29, ↓j30, j32, j33, ↓j38, ↓j39, ↓j40, ↓j43, ↓j45, ↓j48, ↓j50, ↓j53, ↓j55, ↓j57, ↓j76, ↓j79, j82, j83, j84, j85, ↓j89, ↓j90, j130, ↓j145, ↓j146, ↓j147, ↓j148, ↓j149, ↓j150, ↓j151, ↓j153, j157, j158, j162, AV.proj, AV.offOf, AV.size, AV.sizeL, j163, j164, j166, j167, j170, j171, j173, j174, j175, ↓reduceIte, Nat.reduceEqDiff, Int.reduceLE, j182, j185, j192, j194, j195, j196, j197, Int.reduceNeg, j212, ↓j225, j250, j261, j291, j296, j299, j370, j380, bb1, n0, g0, g1, g2, wy, g3]
                refine CallTo.gen (args := [.ptr 2 0 [], .int .u32 (y : Nat)]) (orH o) (orH o) 102 rfl fok11 (by simp -dsimp -implicitDefEqProofs only [↓j25, ↓j29, j173, j174, ↓reduceIte, Nat.reduceEqDiff, Int.reduceNeg]) (notup2 (fun vs h => by cases h) fun vs h => by cases h) hpb (SubH.of (by simp -dsimp -implicitDefEqProofs only [↓j27, ↓reduceIte, Nat.reduceEqDiff, j182, j204, j205])) ⟨by simp, put_or⟩ ?_
                simp -dsimp -implicitDefEqProofs only [↓j0, ↓j1, ↓j2, ↓j4, ↓j7, ↓j8, ↓j9, ↓j12, ↓j13, ↓j15, j17, j18, j20, j21, j22, j23, j24, ↓j25, ↓j27, ↓j29, ↓j30, j32, j33, ↓j38, ↓j39, ↓j40, ↓j43, ↓j45, ↓j48, ↓j53, ↓j56, ↓j76, ↓j79, j82, ↓j89, j130, ↓j145, ↓j146, ↓j148, ↓j149, ↓j150, ↓j153, j158, j159, AV.proj, AV.offOf, AV.sizeL, j163, j164, j167, j170, j171, j172, j173, j174, j175, reduceCtorEq, ↓reduceIte, Nat.reduceEqDiff, j182, j185, j197, Int.reduceNeg, j260, j282, n1, b2]
                have hls := last_spec o
                have hho := hz_spec o ho1
                have hrz := hrel1.hz ho1
                have hks := hrel1.keys ho1
                have hk8 : (keysIn o.live).length ≤ 8 := by rw [keysIn_len]; exact ho1.few
                have hlv := live_spec o ho1
                have hcl1 : ([] : List Tx).length ≤ 1000 := by rw [hrel1.cnt]; have := hcnt1; omega
                have hrh : ACall Try.prog 19 [.ptr 99 0 []] (nlH o.last o.max) (.int .u32 (rhz o.last [] : Nat)) (nlH o.last o.max) := rhzz_spec o.last o.max [] (by decide) 4 rfl
                have hli : ACall Try.prog 20 [keysAV (keysIn o.live), .ptr 99 0 []] (nlH o.last o.max) (.bool true) (nlH o.last o.max) := rlss_spec (keysIn o.live) o.last o.max [] (by decide) 4 rfl hks hk8
                rw [hl1] at hrz hls
                rw [hrz] at hrh
                refine CallTo.gen (args := [.ptr 2 0 []]) (orH o) (orH o) 102 rfl fok12 (by simp -dsimp -implicitDefEqProofs only [↓j25, ↓j29, j173, j174, ↓reduceIte, Int.reduceNeg]) (notup1 fun vs h => by cases h) hls (SubH.of (by simp -dsimp -implicitDefEqProofs only [↓j27, ↓reduceIte, Nat.reduceEqDiff, j182, j204, j205])) ⟨by simp, put_or⟩ ?_
                simp -dsimp -implicitDefEqProofs only [↓j4, ↓j5, j17, j18, j20, j21, j22, j23, j24, ↓j25, ↓j27, ↓j29, ↓j38, ↓j43, ↓j45, ↓j48, ↓j53, ↓j56, ↓j76, ↓j79, ↓j89, j130, ↓j145, ↓j146, ↓j148, ↓j151, ↓j153, j158, AV.proj, AV.offOf, AV.sizeL, j163, j164, j167, j170, j171, j172, j173, j174, j175, ↓reduceIte, Nat.reduceEqDiff, j182, j185, j197, Int.reduceNeg, j260, j282, nn]
                refine CallTo.gen (args := [.ptr 2 0 []]) (orH o) (orH o) 102 rfl fok18 (by simp -dsimp -implicitDefEqProofs only [↓j25, ↓j29, j173, j174, ↓reduceIte, Int.reduceNeg]) (notup1 fun vs h => by cases h) hho (SubH.of (by simp -dsimp -implicitDefEqProofs only [↓j27, ↓reduceIte, Nat.reduceEqDiff, j182, j204, j205])) ⟨by simp, put_or⟩ ?_
                simp -dsimp -implicitDefEqProofs only [↓j5, j17, j18, j20, j21, j22, j23, j24, ↓j25, ↓j29, ↓j38, ↓j53, ↓j145, ↓j148, ↓j151, j163, j164, j170, j171, j172, j173, j174, j175, ↓reduceIte, Nat.reduceEqDiff, Int.reduceNeg]
                refine CallTo.gen (args := [.ptr 99 0 []]) (nlH o.last o.max) (nlH o.last o.max) 102 rfl fok19 (by simp -dsimp -implicitDefEqProofs only [↓j25, ↓j29, j173, j174, ↓reduceIte, Int.reduceNeg]) (notup1 fun vs h => by cases h) hrh (SubH.of (by simp -dsimp -implicitDefEqProofs only [↓j27, ↓reduceIte, Nat.reduceEqDiff, j182, j204, j205])) ⟨by simp, put_nl⟩ ?_
                simp -dsimp -implicitDefEqProofs only [↓j3, ↓j4, ↓j5, j17, j18, j20, j21, j22, j23, j24, ↓j25, ↓j29, ↓j30, j32, ↓j40, ↓j48, j83, ↓j89, ↓j145, ↓j146, ↓j148, ↓j151, j158, j163, j164, j170, j171, j172, j173, j174, j175, ↓reduceIte, Nat.reduceEqDiff, j185, j195, Int.reduceNeg, nn]
                refine ⟨by kernel_rfl, ?_⟩
                simp -dsimp -implicitDefEqProofs only [↓j1, ↓j7, ↓j9, ↓j12, ↓j13, ↓j15, j17, j18, j20, ↓j25, ↓j29, ↓j38, ↓j53, ↓j145, ↓j148, ↓j149, j171, ↓reduceIte, Nat.reduceEqDiff, Int.reduceNeg]
                refine CallTo.gen (args := [.ptr 2 0 []]) (orH o) (orH o) 102 rfl fok21 (by simp -dsimp -implicitDefEqProofs only [↓j25, ↓j29, j173, j174, ↓reduceIte, Int.reduceNeg]) (notup1 fun vs h => by cases h) hlv (SubH.of (by simp -dsimp -implicitDefEqProofs only [↓j27, ↓reduceIte, Nat.reduceEqDiff, j182, j204, j205])) ⟨by simp, put_or⟩ ?_
                simp -dsimp -implicitDefEqProofs only [↓j1, j17, j18, j20, j21, j22, j23, ↓j25, ↓j29, ↓j38, ↓j53, ↓j145, j170, j171, j173, j174, ↓reduceIte, Nat.reduceEqDiff, Int.reduceNeg]
                refine CallTo.gen (args := [keysAV (keysIn o.live), .ptr 99 0 []]) (nlH o.last o.max) (nlH o.last o.max) 102 rfl fok20 (by simp -dsimp -implicitDefEqProofs only [↓j25, ↓j29, j173, j174, ↓reduceIte, Nat.reduceEqDiff, Int.reduceNeg]) (notup2 (fun vs h => by cases h) fun vs h => by cases h) hli (SubH.of (by simp -dsimp -implicitDefEqProofs only [↓j27, ↓reduceIte, Nat.reduceEqDiff, j182, j204, j205])) ⟨by simp, put_nl⟩ ?_
                simp -dsimp -implicitDefEqProofs only [↓j0, ↓j1, ↓j7, ↓j9, ↓j13, ↓j15, j17, j18, j20, j21, j22, j23, ↓j25, ↓j29, ↓j30, j33, ↓j38, ↓j39, ↓j48, ↓j55, j84, ↓j89, ↓j145, ↓j146, ↓j148, ↓j149, j154, j170, j171, j173, j174, ↓reduceIte, Nat.reduceEqDiff, j185, j193, Int.reduceNeg]
                exact ⟨n - 1, plSt last o.max ops o [] (i + 1), by omega, ⟨o, [], i + 1, ho1, hrel1, by omega, hcnt1, hmx1, rfl⟩, Wk.trans (Wk.mk (s' := ⟨237, plT last o.max ops (i + 1), plG o [] 100, 102⟩) (SubT.spec (by simp -dsimp -implicitDefEqProofs only [↓j25, reduceCtorEq, ↓reduceIte, Nat.reduceEqDiff, j182, Int.reduceNeg, j202, j203, plT, hw] <;> simp)) (SubH.spec (by simp -dsimp -implicitDefEqProofs only [↓j27, ↓reduceIte, Nat.reduceEqDiff, j182, j204, j205, plG, roH, roC_nil, txB_nil] <;> simp)) (Nat.le_refl _) rfl) pl_gc⟩
        have g2 : (x.1 == 2) = false := by rw [beq_eq_false_iff_ne]; exact k2
        by_cases k3 : x.1 = 3
        · have g3 : (x.1 == 3) = true := by rw [beq_iff_eq]; exact k3
          rcases Nat.lt_or_ge o.last o.max with hq | hq
          · first
              | exfalso; omega
              | skip
                rw [if_neg hlm3] at fNx
                have hpp : o.pubP (o.last + 1) = (0, { o with last := o.last + 1 }) := by rw [fPub, fNx, if_neg (by simp)]
                have hpb := pub_spec o ho (o.last + 1) (by omega)
                have hpo := pub_ok ho (o.last + 1)
                rw [hpp] at hpb hpo
                obtain ⟨o1, ho1e⟩ : ∃ o1, ({ o with last := (o.last + 1) } : OS) = o1 := ⟨_, rfl⟩
                have ho1 : o1.Ok := ho1e ▸ hpo
                have hrel1 : Rel o1 [] := ho1e ▸ hrel.pub (o.last + 1)
                have hcnt1 : o1.count ≤ i + 1 := by rw [← ho1e]; show o.count ≤ i + 1; omega
                have hl1 : o1.last = (o.last + 1) := by rw [← ho1e]
                have hmx1 : o1.max = o.max := by rw [← ho1e]
                have hpb : ACall Try.prog 11 [.ptr 2 0 [], .int .u32 ((o.last + 1 : Nat) : Int)] (orH o) (.int .i64 0) (orH o1) := by rw [← ho1e]; exact hpb
                have hp1 : True := trivial
                simp -dsimp -implicitDefEqProofs only [↓j0, ↓j1, ↓j2, ↓j7, ↓j9, ↓j12, ↓j13, ↓j14, ↓j15, j17, j18, j20, j21, j22, j23, ↓j25, ↓j27, ↓j29, ↓j30, j32, j33, ↓j38, ↓j39, ↓j40, ↓j43, ↓j45, ↓j48, ↓j50, ↓j53, ↓j55, ↓j57, ↓j76, ↓j79, j82, j83, j84, j85, ↓j89, ↓j90, j130, ↓j145, ↓j146, ↓j147, ↓j148, ↓j149, ↓j150, ↓j151, ↓j153, j157, j158, j162, AV.proj, AV.offOf, AV.size, AV.sizeL, j163, j164, j166, j167, j170, j171, j173, j174, j175, ↓reduceIte, Nat.reduceEqDiff, Int.reduceLE, j182, j185, j192, j194, j195, j196, j197, Int.reduceNeg, j212, ↓j225, j250, j261, j291, j296, j299, j370, j380, bb1, n0, g0, g1, g2, g3, wy]
                refine CallTo.gen (args := [.ptr 2 0 [], .int .u32 ((o.last + 1 : Nat) : Int)]) (orH o) (orH o1) 102 rfl fok11 (by simp -dsimp -implicitDefEqProofs only [↓j25, ↓j29, j173, j174, ↓reduceIte, Nat.reduceEqDiff, Int.reduceNeg]) (notup2 (fun vs h => by cases h) fun vs h => by cases h) hpb (SubH.of (by simp -dsimp -implicitDefEqProofs only [↓j27, ↓reduceIte, Nat.reduceEqDiff, j182, j204, j205])) ⟨by simp, put_or⟩ ?_
                have ye : ((((o.last + 1) : Nat) : Int) == ((o.last + 1 : Nat) : Int)) = true := by rw [beq_iff_eq] <;> omega
                simp -dsimp -implicitDefEqProofs only [↓j0, ↓j1, ↓j2, ↓j4, ↓j7, ↓j8, ↓j9, ↓j12, ↓j13, ↓j15, j17, j18, j19, j20, j21, j22, j23, j24, ↓j25, ↓j27, ↓j29, ↓j30, j32, j33, ↓j38, ↓j39, ↓j40, ↓j43, ↓j44, ↓j45, ↓j48, ↓j53, ↓j56, ↓j76, ↓j78, ↓j79, j83, ↓j89, j130, ↓j145, ↓j146, ↓j147, ↓j148, ↓j149, ↓j150, ↓j153, j154, j157, j158, j159, AV.proj, AV.offOf, AV.upd, AV.size, AV.sizeL, AV.layable, j163, j164, j167, j169, j170, j171, j172, j173, j174, j175, reduceCtorEq, ↓reduceIte, Nat.reduceEqDiff, j182, j185, j197, Int.reduceNeg, j259, j260, j282, n0, b2, w1, ye]
                have hls := last_spec o1
                have hho := hz_spec o1 ho1
                have hrz := hrel1.hz ho1
                have hks := hrel1.keys ho1
                have hk8 : (keysIn o1.live).length ≤ 8 := by rw [keysIn_len]; exact ho1.few
                have hlv := live_spec o1 ho1
                have hcl1 : ([] : List Tx).length ≤ 1000 := by rw [hrel1.cnt]; have := hcnt1; omega
                have hrh : ACall Try.prog 19 [.ptr 99 0 []] (nlH (o.last + 1) o.max) (.int .u32 (rhz (o.last + 1) [] : Nat)) (nlH (o.last + 1) o.max) := rhzz_spec (o.last + 1) o.max [] (by decide) 4 rfl
                have hli : ACall Try.prog 20 [keysAV (keysIn o1.live), .ptr 99 0 []] (nlH (o.last + 1) o.max) (.bool true) (nlH (o.last + 1) o.max) := rlss_spec (keysIn o1.live) (o.last + 1) o.max [] (by decide) 4 rfl hks hk8
                rw [hl1] at hrz hls
                rw [hrz] at hrh
                refine CallTo.gen (args := [.ptr 2 0 []]) (orH o1) (orH o1) 102 rfl fok12 (by simp -dsimp -implicitDefEqProofs only [↓j25, ↓j29, j173, j174, ↓reduceIte, Int.reduceNeg]) (notup1 fun vs h => by cases h) hls (SubH.of (by simp -dsimp -implicitDefEqProofs only [↓j27, ↓reduceIte, Nat.reduceEqDiff, j182, j204, j205])) ⟨by simp, put_or⟩ ?_
                simp -dsimp -implicitDefEqProofs only [↓j4, ↓j5, j17, j18, j20, j21, j22, j23, j24, ↓j25, ↓j27, ↓j29, ↓j38, ↓j43, ↓j45, ↓j48, ↓j53, ↓j56, ↓j76, ↓j79, ↓j89, j130, ↓j145, ↓j146, ↓j148, ↓j151, ↓j153, j158, AV.proj, AV.offOf, AV.sizeL, j163, j164, j167, j170, j171, j172, j173, j174, j175, ↓reduceIte, Nat.reduceEqDiff, j182, j185, j197, Int.reduceNeg, j260, j282, nn]
                refine CallTo.gen (args := [.ptr 2 0 []]) (orH o1) (orH o1) 102 rfl fok18 (by simp -dsimp -implicitDefEqProofs only [↓j25, ↓j29, j173, j174, ↓reduceIte, Int.reduceNeg]) (notup1 fun vs h => by cases h) hho (SubH.of (by simp -dsimp -implicitDefEqProofs only [↓j27, ↓reduceIte, Nat.reduceEqDiff, j182, j204, j205])) ⟨by simp, put_or⟩ ?_
                simp -dsimp -implicitDefEqProofs only [↓j5, j17, j18, j20, j21, j22, j23, j24, ↓j25, ↓j29, ↓j38, ↓j53, ↓j145, ↓j148, ↓j151, j163, j164, j170, j171, j172, j173, j174, j175, ↓reduceIte, Nat.reduceEqDiff, Int.reduceNeg]
                refine CallTo.gen (args := [.ptr 99 0 []]) (nlH (o.last + 1) o.max) (nlH (o.last + 1) o.max) 102 rfl fok19 (by simp -dsimp -implicitDefEqProofs only [↓j25, ↓j29, j173, j174, ↓reduceIte, Int.reduceNeg]) (notup1 fun vs h => by cases h) hrh (SubH.of (by simp -dsimp -implicitDefEqProofs only [↓j27, ↓reduceIte, Nat.reduceEqDiff, j182, j204, j205])) ⟨by simp, put_nl⟩ ?_
                simp -dsimp -implicitDefEqProofs only [↓j3, ↓j4, ↓j5, j17, j18, j20, j21, j22, j23, j24, ↓j25, ↓j29, ↓j30, j32, ↓j40, ↓j48, j83, ↓j89, ↓j145, ↓j146, ↓j148, ↓j151, j158, j163, j164, j170, j171, j172, j173, j174, j175, ↓reduceIte, Nat.reduceEqDiff, j185, j195, Int.reduceNeg, nn]
                refine ⟨by kernel_rfl, ?_⟩
                simp -dsimp -implicitDefEqProofs only [↓j1, ↓j7, ↓j9, ↓j12, ↓j13, ↓j15, j17, j18, j20, ↓j25, ↓j29, ↓j38, ↓j53, ↓j145, ↓j148, ↓j149, j171, ↓reduceIte, Nat.reduceEqDiff, Int.reduceNeg]
                refine CallTo.gen (args := [.ptr 2 0 []]) (orH o1) (orH o1) 102 rfl fok21 (by simp -dsimp -implicitDefEqProofs only [↓j25, ↓j29, j173, j174, ↓reduceIte, Int.reduceNeg]) (notup1 fun vs h => by cases h) hlv (SubH.of (by simp -dsimp -implicitDefEqProofs only [↓j27, ↓reduceIte, Nat.reduceEqDiff, j182, j204, j205])) ⟨by simp, put_or⟩ ?_
                simp -dsimp -implicitDefEqProofs only [↓j1, j17, j18, j20, j21, j22, j23, ↓j25, ↓j29, ↓j38, ↓j53, ↓j145, j170, j171, j173, j174, ↓reduceIte, Nat.reduceEqDiff, Int.reduceNeg]
                refine CallTo.gen (args := [keysAV (keysIn o1.live), .ptr 99 0 []]) (nlH (o.last + 1) o.max) (nlH (o.last + 1) o.max) 102 rfl fok20 (by simp -dsimp -implicitDefEqProofs only [↓j25, ↓j29, j173, j174, ↓reduceIte, Nat.reduceEqDiff, Int.reduceNeg]) (notup2 (fun vs h => by cases h) fun vs h => by cases h) hli (SubH.of (by simp -dsimp -implicitDefEqProofs only [↓j27, ↓reduceIte, Nat.reduceEqDiff, j182, j204, j205])) ⟨by simp, put_nl⟩ ?_
                simp -dsimp -implicitDefEqProofs only [↓j0, ↓j1, ↓j7, ↓j9, ↓j13, ↓j15, j17, j18, j20, j21, j22, j23, ↓j25, ↓j29, ↓j30, j33, ↓j38, ↓j39, ↓j48, ↓j55, j84, ↓j89, ↓j145, ↓j146, ↓j148, ↓j149, j154, j170, j171, j173, j174, ↓reduceIte, Nat.reduceEqDiff, j185, j193, Int.reduceNeg]
                exact ⟨n - 1, plSt last o.max ops o1 [] (i + 1), by omega, ⟨o1, [], i + 1, ho1, hrel1, by omega, hcnt1, hmx1, rfl⟩, Wk.trans (Wk.mk (s' := ⟨237, plT last o.max ops (i + 1), plG o1 [] 100, 102⟩) (SubT.spec (by simp -dsimp -implicitDefEqProofs only [↓j25, reduceCtorEq, ↓reduceIte, Nat.reduceEqDiff, j182, Int.reduceNeg, j202, j203, plT, hw] <;> simp)) (SubH.spec (by simp -dsimp -implicitDefEqProofs only [↓j27, ↓reduceIte, Nat.reduceEqDiff, j182, j204, j205, plG, roH, roC_nil, txB_nil, hl1, hmx1] <;> simp)) (Nat.le_refl _) rfl) pl_gc⟩
          · first
              | exfalso; omega
              | skip
                rw [if_pos hlm3] at fNx
                have hpp : o.pubP 0 = (1, o) := by rw [fPub, fNx, if_pos (.inl (by decide))]
                have hpb := pub_spec o ho 0 (by omega)
                rw [hpp] at hpb
                have hpb : ACall Try.prog 11 [.ptr 2 0 [], .int .u32 0] (orH o) (.int .i64 1) (orH o) := hpb
                have ho1 := ho
                have hrel1 := hrel
                have hcnt1 : o.count ≤ i + 1 := by omega
                have hl1 : o.last = o.last := rfl
                have hmx1 : o.max = o.max := rfl
                simp -dsimp -implicitDefEqProofs only [↓j0, ↓j1, ↓j2, ↓j7, ↓j9, ↓j12, ↓j13, ↓j14, ↓j15, j17, j18, j20, j21, j22, j23, ↓j25, ↓j27, ↓j29, ↓j30, j32, j33, ↓j38, ↓j39, ↓j40, ↓j43, ↓j45, ↓j48, ↓j50, ↓j53, ↓j55, ↓j57, ↓j76, ↓j79, j82, j83, j84, j85, ↓j89, ↓j90, j130, ↓j145, ↓j146, ↓j147, ↓j148, ↓j149, ↓j150, ↓j151, ↓j153, j157, j158, j162, AV.proj, AV.offOf, AV.size, AV.sizeL, j163, j164, j166, j167, j170, j171, j173, j174, j175, ↓reduceIte, Nat.reduceEqDiff, Int.reduceLE, j182, j185, j192, j194, j195, j196, j197, Int.reduceNeg, j212, ↓j225, j250, j261, j291, j296, j299, j370, j380, bb1, n0, g0, g1, g2, g3, wy]
                refine CallTo.gen (args := [.ptr 2 0 [], .int .u32 0]) (orH o) (orH o) 102 rfl fok11 (by simp -dsimp -implicitDefEqProofs only [↓j25, ↓j29, j173, j174, ↓reduceIte, Nat.reduceEqDiff, Int.reduceNeg]) (notup2 (fun vs h => by cases h) fun vs h => by cases h) hpb (SubH.of (by simp -dsimp -implicitDefEqProofs only [↓j27, ↓reduceIte, Nat.reduceEqDiff, j182, j204, j205])) ⟨by simp, put_or⟩ ?_
                simp -dsimp -implicitDefEqProofs only [↓j0, ↓j1, ↓j2, ↓j4, ↓j7, ↓j8, ↓j9, ↓j12, ↓j13, ↓j15, j17, j18, j20, j21, j22, j23, j24, ↓j25, ↓j27, ↓j29, ↓j30, j32, j33, ↓j38, ↓j39, ↓j40, ↓j43, ↓j45, ↓j48, ↓j53, ↓j56, ↓j76, ↓j79, j82, ↓j89, j130, ↓j145, ↓j146, ↓j148, ↓j149, ↓j150, ↓j153, j158, j159, AV.proj, AV.offOf, AV.sizeL, j163, j164, j167, j170, j171, j172, j173, j174, j175, reduceCtorEq, ↓reduceIte, Nat.reduceEqDiff, j182, j185, j197, Int.reduceNeg, j260, j282, n1, b2]
                have hls := last_spec o
                have hho := hz_spec o ho1
                have hrz := hrel1.hz ho1
                have hks := hrel1.keys ho1
                have hk8 : (keysIn o.live).length ≤ 8 := by rw [keysIn_len]; exact ho1.few
                have hlv := live_spec o ho1
                have hcl1 : ([] : List Tx).length ≤ 1000 := by rw [hrel1.cnt]; have := hcnt1; omega
                have hrh : ACall Try.prog 19 [.ptr 99 0 []] (nlH o.last o.max) (.int .u32 (rhz o.last [] : Nat)) (nlH o.last o.max) := rhzz_spec o.last o.max [] (by decide) 4 rfl
                have hli : ACall Try.prog 20 [keysAV (keysIn o.live), .ptr 99 0 []] (nlH o.last o.max) (.bool true) (nlH o.last o.max) := rlss_spec (keysIn o.live) o.last o.max [] (by decide) 4 rfl hks hk8
                rw [hl1] at hrz hls
                rw [hrz] at hrh
                refine CallTo.gen (args := [.ptr 2 0 []]) (orH o) (orH o) 102 rfl fok12 (by simp -dsimp -implicitDefEqProofs only [↓j25, ↓j29, j173, j174, ↓reduceIte, Int.reduceNeg]) (notup1 fun vs h => by cases h) hls (SubH.of (by simp -dsimp -implicitDefEqProofs only [↓j27, ↓reduceIte, Nat.reduceEqDiff, j182, j204, j205])) ⟨by simp, put_or⟩ ?_
                simp -dsimp -implicitDefEqProofs only [↓j4, ↓j5, j17, j18, j20, j21, j22, j23, j24, ↓j25, ↓j27, ↓j29, ↓j38, ↓j43, ↓j45, ↓j48, ↓j53, ↓j56, ↓j76, ↓j79, ↓j89, j130, ↓j145, ↓j146, ↓j148, ↓j151, ↓j153, j158, AV.proj, AV.offOf, AV.sizeL, j163, j164, j167, j170, j171, j172, j173, j174, j175, ↓reduceIte, Nat.reduceEqDiff, j182, j185, j197, Int.reduceNeg, j260, j282, nn]
                refine CallTo.gen (args := [.ptr 2 0 []]) (orH o) (orH o) 102 rfl fok18 (by simp -dsimp -implicitDefEqProofs only [↓j25, ↓j29, j173, j174, ↓reduceIte, Int.reduceNeg]) (notup1 fun vs h => by cases h) hho (SubH.of (by simp -dsimp -implicitDefEqProofs only [↓j27, ↓reduceIte, Nat.reduceEqDiff, j182, j204, j205])) ⟨by simp, put_or⟩ ?_
                simp -dsimp -implicitDefEqProofs only [↓j5, j17, j18, j20, j21, j22, j23, j24, ↓j25, ↓j29, ↓j38, ↓j53, ↓j145, ↓j148, ↓j151, j163, j164, j170, j171, j172, j173, j174, j175, ↓reduceIte, Nat.reduceEqDiff, Int.reduceNeg]
                refine CallTo.gen (args := [.ptr 99 0 []]) (nlH o.last o.max) (nlH o.last o.max) 102 rfl fok19 (by simp -dsimp -implicitDefEqProofs only [↓j25, ↓j29, j173, j174, ↓reduceIte, Int.reduceNeg]) (notup1 fun vs h => by cases h) hrh (SubH.of (by simp -dsimp -implicitDefEqProofs only [↓j27, ↓reduceIte, Nat.reduceEqDiff, j182, j204, j205])) ⟨by simp, put_nl⟩ ?_
                simp -dsimp -implicitDefEqProofs only [↓j3, ↓j4, ↓j5, j17, j18, j20, j21, j22, j23, j24, ↓j25, ↓j29, ↓j30, j32, ↓j40, ↓j48, j83, ↓j89, ↓j145, ↓j146, ↓j148, ↓j151, j158, j163, j164, j170, j171, j172, j173, j174, j175, ↓reduceIte, Nat.reduceEqDiff, j185, j195, Int.reduceNeg, nn]
                refine ⟨by kernel_rfl, ?_⟩
                simp -dsimp -implicitDefEqProofs only [↓j1, ↓j7, ↓j9, ↓j12, ↓j13, ↓j15, j17, j18, j20, ↓j25, ↓j29, ↓j38, ↓j53, ↓j145, ↓j148, ↓j149, j171, ↓reduceIte, Nat.reduceEqDiff, Int.reduceNeg]
                refine CallTo.gen (args := [.ptr 2 0 []]) (orH o) (orH o) 102 rfl fok21 (by simp -dsimp -implicitDefEqProofs only [↓j25, ↓j29, j173, j174, ↓reduceIte, Int.reduceNeg]) (notup1 fun vs h => by cases h) hlv (SubH.of (by simp -dsimp -implicitDefEqProofs only [↓j27, ↓reduceIte, Nat.reduceEqDiff, j182, j204, j205])) ⟨by simp, put_or⟩ ?_
                simp -dsimp -implicitDefEqProofs only [↓j1, j17, j18, j20, j21, j22, j23, ↓j25, ↓j29, ↓j38, ↓j53, ↓j145, j170, j171, j173, j174, ↓reduceIte, Nat.reduceEqDiff, Int.reduceNeg]
                refine CallTo.gen (args := [keysAV (keysIn o.live), .ptr 99 0 []]) (nlH o.last o.max) (nlH o.last o.max) 102 rfl fok20 (by simp -dsimp -implicitDefEqProofs only [↓j25, ↓j29, j173, j174, ↓reduceIte, Nat.reduceEqDiff, Int.reduceNeg]) (notup2 (fun vs h => by cases h) fun vs h => by cases h) hli (SubH.of (by simp -dsimp -implicitDefEqProofs only [↓j27, ↓reduceIte, Nat.reduceEqDiff, j182, j204, j205])) ⟨by simp, put_nl⟩ ?_
                simp -dsimp -implicitDefEqProofs only [↓j0, ↓j1, ↓j7, ↓j9, ↓j13, ↓j15, j17, j18, j20, j21, j22, j23, ↓j25, ↓j29, ↓j30, j33, ↓j38, ↓j39, ↓j48, ↓j55, j84, ↓j89, ↓j145, ↓j146, ↓j148, ↓j149, j154, j170, j171, j173, j174, ↓reduceIte, Nat.reduceEqDiff, j185, j193, Int.reduceNeg]
                exact ⟨n - 1, plSt last o.max ops o [] (i + 1), by omega, ⟨o, [], i + 1, ho1, hrel1, by omega, hcnt1, hmx1, rfl⟩, Wk.trans (Wk.mk (s' := ⟨237, plT last o.max ops (i + 1), plG o [] 100, 102⟩) (SubT.spec (by simp -dsimp -implicitDefEqProofs only [↓j25, reduceCtorEq, ↓reduceIte, Nat.reduceEqDiff, j182, Int.reduceNeg, j202, j203, plT, hw] <;> simp)) (SubH.spec (by simp -dsimp -implicitDefEqProofs only [↓j27, ↓reduceIte, Nat.reduceEqDiff, j182, j204, j205, plG, roH, roC_nil, txB_nil] <;> simp)) (Nat.le_refl _) rfl) pl_gc⟩
        have g3 : (x.1 == 3) = false := by rw [beq_eq_false_iff_ne]; exact k3
        have ho1 := ho
        have hrel1 := hrel
        have hcnt1 : o.count ≤ i + 1 := by omega
        have hl1 : o.last = o.last := rfl
        have hmx1 : o.max = o.max := rfl
        simp -dsimp -implicitDefEqProofs only [↓j0, ↓j1, ↓j2, ↓j4, ↓j7, ↓j8, ↓j9, ↓j12, ↓j13, ↓j14, ↓j15, j17, j18, j20, j21, j22, j23, j24, ↓j25, ↓j27, ↓j29, ↓j30, j32, j33, ↓j38, ↓j39, ↓j40, ↓j43, ↓j45, ↓j48, ↓j53, ↓j55, ↓j57, ↓j76, ↓j79, j82, j83, j84, j85, ↓j89, ↓j90, j130, ↓j145, ↓j146, ↓j147, ↓j148, ↓j149, ↓j150, ↓j151, ↓j153, j157, j158, j162, AV.proj, AV.offOf, AV.sizeL, j163, j164, j167, j170, j171, j172, j173, j174, j175, ↓reduceIte, Nat.reduceEqDiff, Int.reduceLE, j182, j185, j192, j194, j195, j197, Int.reduceNeg, j212, j250, j296, j370, bb1, n0, g0, g1, g2, g3]
        have hls := last_spec o
        have hho := hz_spec o ho1
        have hrz := hrel1.hz ho1
        have hks := hrel1.keys ho1
        have hk8 : (keysIn o.live).length ≤ 8 := by rw [keysIn_len]; exact ho1.few
        have hlv := live_spec o ho1
        have hcl1 : ([] : List Tx).length ≤ 1000 := by rw [hrel1.cnt]; have := hcnt1; omega
        have hrh : ACall Try.prog 19 [.ptr 99 0 []] (nlH o.last o.max) (.int .u32 (rhz o.last [] : Nat)) (nlH o.last o.max) := rhzz_spec o.last o.max [] (by decide) 4 rfl
        have hli : ACall Try.prog 20 [keysAV (keysIn o.live), .ptr 99 0 []] (nlH o.last o.max) (.bool true) (nlH o.last o.max) := rlss_spec (keysIn o.live) o.last o.max [] (by decide) 4 rfl hks hk8
        rw [hl1] at hrz hls
        rw [hrz] at hrh
        refine CallTo.gen (args := [.ptr 2 0 []]) (orH o) (orH o) 102 rfl fok12 (by simp -dsimp -implicitDefEqProofs only [↓j25, ↓j29, j173, j174, ↓reduceIte, Int.reduceNeg]) (notup1 fun vs h => by cases h) hls (SubH.of (by simp -dsimp -implicitDefEqProofs only [↓j27, ↓reduceIte, Nat.reduceEqDiff, j182, j204, j205])) ⟨by simp, put_or⟩ ?_
        simp -dsimp -implicitDefEqProofs only [↓j4, ↓j5, j17, j18, j20, j21, j22, j23, j24, ↓j25, ↓j27, ↓j29, ↓j38, ↓j43, ↓j45, ↓j48, ↓j53, ↓j56, ↓j76, ↓j79, ↓j89, j130, ↓j145, ↓j146, ↓j148, ↓j151, ↓j153, j158, AV.proj, AV.offOf, AV.sizeL, j163, j164, j167, j170, j171, j172, j173, j174, j175, ↓reduceIte, Nat.reduceEqDiff, j182, j185, j197, Int.reduceNeg, j260, j282, nn]
        refine CallTo.gen (args := [.ptr 2 0 []]) (orH o) (orH o) 102 rfl fok18 (by simp -dsimp -implicitDefEqProofs only [↓j25, ↓j29, j173, j174, ↓reduceIte, Int.reduceNeg]) (notup1 fun vs h => by cases h) hho (SubH.of (by simp -dsimp -implicitDefEqProofs only [↓j27, ↓reduceIte, Nat.reduceEqDiff, j182, j204, j205])) ⟨by simp, put_or⟩ ?_
        simp -dsimp -implicitDefEqProofs only [↓j5, j17, j18, j20, j21, j22, j23, j24, ↓j25, ↓j29, ↓j38, ↓j53, ↓j145, ↓j148, ↓j151, j163, j164, j170, j171, j172, j173, j174, j175, ↓reduceIte, Nat.reduceEqDiff, Int.reduceNeg]
        refine CallTo.gen (args := [.ptr 99 0 []]) (nlH o.last o.max) (nlH o.last o.max) 102 rfl fok19 (by simp -dsimp -implicitDefEqProofs only [↓j25, ↓j29, j173, j174, ↓reduceIte, Int.reduceNeg]) (notup1 fun vs h => by cases h) hrh (SubH.of (by simp -dsimp -implicitDefEqProofs only [↓j27, ↓reduceIte, Nat.reduceEqDiff, j182, j204, j205])) ⟨by simp, put_nl⟩ ?_
        simp -dsimp -implicitDefEqProofs only [↓j3, ↓j4, ↓j5, j17, j18, j20, j21, j22, j23, j24, ↓j25, ↓j29, ↓j30, j32, ↓j40, ↓j48, j83, ↓j89, ↓j145, ↓j146, ↓j148, ↓j151, j158, j163, j164, j170, j171, j172, j173, j174, j175, ↓reduceIte, Nat.reduceEqDiff, j185, j195, Int.reduceNeg, nn]
        refine ⟨by kernel_rfl, ?_⟩
        simp -dsimp -implicitDefEqProofs only [↓j1, ↓j7, ↓j9, ↓j12, ↓j13, ↓j15, j17, j18, j20, ↓j25, ↓j29, ↓j38, ↓j53, ↓j145, ↓j148, ↓j149, j171, ↓reduceIte, Nat.reduceEqDiff, Int.reduceNeg]
        refine CallTo.gen (args := [.ptr 2 0 []]) (orH o) (orH o) 102 rfl fok21 (by simp -dsimp -implicitDefEqProofs only [↓j25, ↓j29, j173, j174, ↓reduceIte, Int.reduceNeg]) (notup1 fun vs h => by cases h) hlv (SubH.of (by simp -dsimp -implicitDefEqProofs only [↓j27, ↓reduceIte, Nat.reduceEqDiff, j182, j204, j205])) ⟨by simp, put_or⟩ ?_
        simp -dsimp -implicitDefEqProofs only [↓j1, j17, j18, j20, j21, j22, j23, ↓j25, ↓j29, ↓j38, ↓j53, ↓j145, j170, j171, j173, j174, ↓reduceIte, Nat.reduceEqDiff, Int.reduceNeg]
        refine CallTo.gen (args := [keysAV (keysIn o.live), .ptr 99 0 []]) (nlH o.last o.max) (nlH o.last o.max) 102 rfl fok20 (by simp -dsimp -implicitDefEqProofs only [↓j25, ↓j29, j173, j174, ↓reduceIte, Nat.reduceEqDiff, Int.reduceNeg]) (notup2 (fun vs h => by cases h) fun vs h => by cases h) hli (SubH.of (by simp -dsimp -implicitDefEqProofs only [↓j27, ↓reduceIte, Nat.reduceEqDiff, j182, j204, j205])) ⟨by simp, put_nl⟩ ?_
        simp -dsimp -implicitDefEqProofs only [↓j0, ↓j1, ↓j7, ↓j9, ↓j13, ↓j15, j17, j18, j20, j21, j22, j23, ↓j25, ↓j29, ↓j30, j33, ↓j38, ↓j39, ↓j48, ↓j55, j84, ↓j89, ↓j145, ↓j146, ↓j148, ↓j149, j154, j170, j171, j173, j174, ↓reduceIte, Nat.reduceEqDiff, j185, j193, Int.reduceNeg]
        exact ⟨n - 1, plSt last o.max ops o [] (i + 1), by omega, ⟨o, [], i + 1, ho1, hrel1, by omega, hcnt1, hmx1, rfl⟩, Wk.trans (Wk.mk (s' := ⟨237, plT last o.max ops (i + 1), plG o [] 100, 102⟩) (SubT.spec (by simp -dsimp -implicitDefEqProofs only [↓j25, reduceCtorEq, ↓reduceIte, Nat.reduceEqDiff, j182, Int.reduceNeg, j202, j203, plT, hw] <;> simp)) (SubH.spec (by simp -dsimp -implicitDefEqProofs only [↓j27, ↓reduceIte, Nat.reduceEqDiff, j182, j204, j205, plG, roH, roC_nil, txB_nil] <;> simp)) (Nat.le_refl _) rfl) pl_gc⟩
    | cons t0 r0 =>
      obtain ⟨l, hle⟩ : ∃ l, t0 :: r0 = l := ⟨_, rfl⟩
      have hp : 0 < l.length := by rw [← hle]; simp
      rw [hle] at hat0 hrel hcl ⊢
      skip
      have hfacts : ((((o.last : Int) == (o.max : Int)) = true ∧ decide ((o.last : Int) < (o.max : Int)) = false ∧ ((0 : Int) != 0) = false ∧ ACall Try.prog 10 [.ptr 2 0 []] (orH o) (.tuple [.int .u32 0, .int .i64 8]) (orH o) ∧ o.last = o.max) ∨
          (((o.last : Int) == (o.max : Int)) = false ∧ decide ((o.last : Int) < (o.max : Int)) = true ∧ IntKind.u32.wrap ((o.last : Int) + 1) = ((o.last + 1 : Nat) : Int) ∧ ACall Try.prog 10 [.ptr 2 0 []] (orH o) (.tuple [.int .u32 ((o.last + 1 : Nat) : Int), .int .i64 0]) (orH o) ∧ ¬ o.last = o.max)) := by
        by_cases hlm3 : o.last = o.max
        · rw [fNx, if_pos hlm3] at hnx
          exact .inl ⟨by rw [beq_iff_eq]; omega, decide_eq_false (by omega), rfl, hnx, hlm3⟩
        · rw [fNx, if_neg hlm3] at hnx
          exact .inr ⟨by rw [beq_eq_false_iff_ne]; omega, decide_eq_true (by omega), w1 (by omega), hnx, hlm3⟩
      clear hnx w1
      have hat := at100 x.2 o.last o.max l (by omega) hp
      rw [hat0] at hat
      have hat : ACall Try.prog 13 [.ptr 99 0 [], .int .u64 x.2] (lvH o.last o.max l 100) (.int .i64 (-1)) (lvH o.last o.max l 100) := hat
      rcases hfacts with ⟨b1, b2, w1, hnx, hlm3⟩ | ⟨b1, b2, w1, hnx, hlm3⟩
      all_goals
        simp -dsimp -implicitDefEqProofs only [↓j0, ↓j1, ↓j2, ↓j7, ↓j9, ↓j12, ↓j13, ↓j14, ↓j15, j17, j18, j19, j20, j21, j22, j23, ↓j25, ↓j27, ↓j29, ↓j30, j32, j33, ↓j38, ↓j40, ↓j41, ↓j43, ↓j44, ↓j45, ↓j46, ↓j48, ↓j53, ↓j58, ↓j62, ↓j76, ↓j77, ↓j78, ↓j79, j83, ↓j89, ↓j92, j129, j130, j142, ↓j145, ↓j146, ↓j147, ↓j149, ↓j150, ↓j153, j159, AV.proj, AV.offOf, AV.upd, AV.size, AV.sizeL, AV.layable, j163, j164, j166, j167, j170, j171, j175, j177, reduceCtorEq, ↓reduceIte, Nat.reduceAdd, Nat.reduceEqDiff, j182, j185, j191, j196, j197, j206, j207, j208, j270, j291, j293, j294, j299, j350, j376, e2, hx, hsz, hlt2, plSt, plT, plG, ro_lv hp, lvH]
        refine CallTo.gen (args := [.ptr 99 0 [], .int .u64 x.2]) (lvH o.last o.max l 100) (lvH o.last o.max l 100) 102 rfl fok13 (by simp -dsimp -implicitDefEqProofs only [↓j25, ↓j29, j173, j174, ↓reduceIte, Nat.reduceEqDiff]) (notup2 (fun vs h => by cases h) fun vs h => by cases h) hat (SubH.of (by simp -dsimp -implicitDefEqProofs only [↓j27, ↓reduceIte, Nat.reduceEqDiff, j182, j204, j205, lvH])) ⟨by simp, put_lv⟩ ?_
        simp -dsimp -implicitDefEqProofs only [↓j0, ↓j1, ↓j7, ↓j12, ↓j15, j17, j18, j20, j21, j22, j23, ↓j25, ↓j29, ↓j38, ↓j39, ↓j53, ↓j145, j170, j171, j173, j174, ↓reduceIte, Nat.reduceEqDiff, Int.reduceNeg, lvH]
        refine CallTo.gen (args := [.ptr 2 0 []]) (orH o) (orH o) 102 rfl fok10 (by simp -dsimp -implicitDefEqProofs only [↓j25, ↓j29, j173, j174, ↓reduceIte, Int.reduceNeg]) (notup1 fun vs h => by cases h) hnx (SubH.of (by simp -dsimp -implicitDefEqProofs only [↓j27, ↓reduceIte, Nat.reduceEqDiff, j182, j204, j205])) ⟨by simp, put_or⟩ ?_
        simp -dsimp -implicitDefEqProofs only [↓j0, ↓j1, ↓j2, ↓j7, ↓j9, ↓j12, ↓j13, ↓j15, j17, j18, j20, j21, j22, j23, ↓j25, ↓j27, ↓j29, ↓j30, j32, j33, ↓j38, ↓j39, ↓j40, ↓j43, ↓j45, ↓j48, ↓j53, ↓j56, ↓j57, ↓j76, ↓j79, j82, j83, j85, ↓j89, j130, ↓j145, ↓j146, ↓j147, ↓j148, ↓j149, ↓j150, ↓j151, ↓j152, ↓j153, j154, j157, j158, j159, AV.proj, AV.offOf, AV.size, AV.sizeL, j163, j164, j166, j167, j170, j171, j173, j174, j175, reduceCtorEq, ↓reduceIte, Nat.reduceEqDiff, j182, j185, j195, j196, j197, Int.reduceNeg, j260, j282, j291, j299, n0, n8, nn, b1, b2, w1]
        refine CallTo.gen (args := [.ptr 2 0 [], .int .u64 x.2]) (orH o) (orH o) 102 rfl fok14 (by simp -dsimp -implicitDefEqProofs only [↓j25, ↓j29, j173, j174, ↓reduceIte, Nat.reduceEqDiff, Int.reduceNeg]) (notup2 (fun vs h => by cases h) fun vs h => by cases h) hst (SubH.of (by simp -dsimp -implicitDefEqProofs only [↓j27, ↓reduceIte, Nat.reduceEqDiff, j182, j204, j205])) ⟨by simp, put_or⟩ ?_
        by_cases k0 : x.1 = 0
        · have g0 : (x.1 == 0) = true := by rw [beq_iff_eq]; exact k0
          have hb := begin_spec o ho (by omega)
          have hbo := begin_ok ho (by omega)
          have hbc := (begin_count o).1
          obtain ⟨hr1, hr2, hr3, hr4⟩ := hrel.begin ho
          have hrb := rbegin_spec o.last o.max l (by have := hcl; omega)
          have fRb : rbegP o.last l = if 8 ≤ (liveL l).length then ((0, 0, 10), l) else ((l.length + 1, o.last, 0), l ++ [⟨l.length + 1, o.last, true⟩]) := rfl
          have fRn : rbegN l = if 8 ≤ (liveL l).length then 4 else 101 := rfl
          rw [hr2] at hb
          obtain ⟨⟨⟨p, q, f⟩, l1⟩, hr⟩ : ∃ r, rbegP o.last l = r := ⟨_, rfl⟩
          rw [hr] at hb hrb hr1 fRb
          obtain ⟨o1, ho1e⟩ : ∃ o1, o.beginP.2 = o1 := ⟨_, rfl⟩
          rw [ho1e] at hb hbo hbc hr1 hr3 hr4
          have ho1 := hbo
          have hrel1 : Rel o1 l1 := hr1
          have hcnt1 : o1.count ≤ i + 1 := by omega
          have hl1 := hr3
          have hmx1 := hr4
          have hb : ACall Try.prog 15 [.ptr 2 0 []] (orH o) (.tuple [.int .u64 (p : Nat), .int .u32 (q : Nat), .int .i64 (f : Nat)]) (orH o1) := hb
          have hrb : ACall Try.prog 16 [.ptr 99 0 []] (roH o.last o.max l 4) (.tuple [.int .u64 (p : Nat), .int .u32 (q : Nat), .int .i64 (f : Nat)]) (roH o.last o.max l1 (rbegN l)) := hrb
          simp -dsimp -implicitDefEqProofs only [↓j0, ↓j1, ↓j2, ↓j7, ↓j9, ↓j12, ↓j13, ↓j14, ↓j15, j17, j18, j20, j21, j22, j23, ↓j25, ↓j27, ↓j29, ↓j30, j32, j33, ↓j38, ↓j39, ↓j40, ↓j43, ↓j45, ↓j48, ↓j53, ↓j55, ↓j57, ↓j76, ↓j79, j82, j83, j84, j85, ↓j89, ↓j90, j130, ↓j145, ↓j146, ↓j147, ↓j148, ↓j149, ↓j150, ↓j151, ↓j153, j157, j158, j162, AV.proj, AV.offOf, AV.sizeL, j163, j164, j167, j170, j171, j173, j174, j175, ↓reduceIte, Nat.reduceEqDiff, Int.reduceLE, j182, j185, j192, j194, j195, j197, Int.reduceNeg, j212, j250, j296, j370, bb1, n0, g0]
          refine CallTo.gen (args := [.ptr 2 0 []]) (orH o) (orH o1) 102 rfl fok15 (by simp -dsimp -implicitDefEqProofs only [↓j25, ↓j29, j173, j174, ↓reduceIte, Int.reduceNeg]) (notup1 fun vs h => by cases h) hb (SubH.of (by simp -dsimp -implicitDefEqProofs only [↓j27, ↓reduceIte, Nat.reduceEqDiff, j182, j204, j205])) ⟨by simp, put_or⟩ ?_
          simp -dsimp -implicitDefEqProofs only [↓j0, ↓j1, ↓j7, ↓j12, ↓j15, j17, j18, j20, j21, j22, j23, ↓j25, ↓j29, ↓j38, ↓j39, ↓j53, ↓j57, j85, ↓j145, j163, j164, j170, j171, j173, j174, ↓reduceIte, Nat.reduceEqDiff, Int.reduceNeg]
          by_cases h8 : 8 ≤ (liveL l).length
          · rw [if_pos h8] at fRn fRb
            have hll : l1 = l := by cases fRb; rfl
            subst hll
            have hp1 := hp
            rw [fRn, ro_lv hp] at hrb
            have hrb := hrb.ren swA_swA
            rw [lvH_ren (m := 4) (m' := 100) rfl rfl] at hrb
            have hrb : ACall Try.prog 16 [.ptr 99 0 []] (lvH o.last o.max l1 100) (.tuple [.int .u64 (p : Nat), .int .u32 (q : Nat), .int .i64 (f : Nat)]) (lvH o.last o.max l1 100) := hrb
            refine CallTo.gen (args := [.ptr 99 0 []]) (lvH o.last o.max l1 100) (lvH o.last o.max l1 100) 102 rfl fok16 (by simp -dsimp -implicitDefEqProofs only [↓j25, ↓j29, j173, j174, ↓reduceIte, Int.reduceNeg]) (notup1 fun vs h => by cases h) hrb (SubH.of (by simp -dsimp -implicitDefEqProofs only [↓j27, ↓reduceIte, Nat.reduceEqDiff, j182, j204, j205, lvH])) ⟨by simp, put_lv⟩ ?_
            simp -dsimp -implicitDefEqProofs only [↓j0, ↓j1, ↓j2, ↓j4, ↓j7, ↓j8, ↓j9, ↓j12, ↓j13, ↓j15, j17, j18, j20, j21, j22, j23, j24, ↓j25, ↓j29, ↓j30, j32, ↓j38, ↓j39, ↓j40, ↓j48, ↓j53, ↓j57, j83, j85, ↓j89, ↓j145, ↓j146, ↓j148, ↓j149, ↓j151, j158, j163, j164, j170, j171, j172, j173, j174, j175, ↓reduceIte, Nat.reduceEqDiff, j185, j195, Int.reduceNeg, nn, lvH]
            have hls := last_spec o1
            have hho := hz_spec o1 ho1
            have hrz := hrel1.hz ho1
            have hks := hrel1.keys ho1
            have hk8 : (keysIn o1.live).length ≤ 8 := by rw [keysIn_len]; exact ho1.few
            have hlv := live_spec o1 ho1
            have hcl1 : (l1 : List Tx).length ≤ 1000 := by rw [hrel1.cnt]; have := hcnt1; omega
            have hrh := rhz100 o.last o.max l1 hcl1 hp1
            have hli := lives100 (keysIn o1.live) o.last o.max l1 hcl1 hp1 hks hk8
            rw [hl1] at hrz hls
            rw [hrz] at hrh
            refine CallTo.gen (args := [.ptr 2 0 []]) (orH o1) (orH o1) 102 rfl fok12 (by simp -dsimp -implicitDefEqProofs only [↓j25, ↓j29, j173, j174, ↓reduceIte, Int.reduceNeg]) (notup1 fun vs h => by cases h) hls (SubH.of (by simp -dsimp -implicitDefEqProofs only [↓j27, ↓reduceIte, Nat.reduceEqDiff, j182, j204, j205])) ⟨by simp, put_or⟩ ?_
            simp -dsimp -implicitDefEqProofs only [↓j4, ↓j5, j17, j18, j20, j21, j22, j23, j24, ↓j25, ↓j27, ↓j29, ↓j38, ↓j43, ↓j45, ↓j48, ↓j53, ↓j56, ↓j76, ↓j79, ↓j89, j130, ↓j145, ↓j146, ↓j148, ↓j151, ↓j153, j158, AV.proj, AV.offOf, AV.sizeL, j163, j164, j167, j170, j171, j172, j173, j174, j175, ↓reduceIte, Nat.reduceEqDiff, j182, j185, j197, Int.reduceNeg, j260, j282, nn]
            refine CallTo.gen (args := [.ptr 2 0 []]) (orH o1) (orH o1) 102 rfl fok18 (by simp -dsimp -implicitDefEqProofs only [↓j25, ↓j29, j173, j174, ↓reduceIte, Int.reduceNeg]) (notup1 fun vs h => by cases h) hho (SubH.of (by simp -dsimp -implicitDefEqProofs only [↓j27, ↓reduceIte, Nat.reduceEqDiff, j182, j204, j205])) ⟨by simp, put_or⟩ ?_
            simp -dsimp -implicitDefEqProofs only [↓j5, j17, j18, j20, j21, j22, j23, j24, ↓j25, ↓j29, ↓j38, ↓j53, ↓j145, ↓j148, ↓j151, j163, j164, j170, j171, j172, j173, j174, j175, ↓reduceIte, Nat.reduceEqDiff, Int.reduceNeg]
            refine CallTo.gen (args := [.ptr 99 0 []]) (lvH o.last o.max l1 100) (lvH o.last o.max l1 100) 102 rfl fok19 (by simp -dsimp -implicitDefEqProofs only [↓j25, ↓j29, j173, j174, ↓reduceIte, Int.reduceNeg]) (notup1 fun vs h => by cases h) hrh (SubH.of (by simp -dsimp -implicitDefEqProofs only [↓j27, ↓reduceIte, Nat.reduceEqDiff, j182, j204, j205, lvH])) ⟨by simp, put_lv⟩ ?_
            simp -dsimp -implicitDefEqProofs only [↓j3, ↓j4, ↓j5, j17, j18, j20, j21, j22, j23, j24, ↓j25, ↓j29, ↓j30, j32, ↓j40, ↓j48, j83, ↓j89, ↓j145, ↓j146, ↓j148, ↓j151, j158, j163, j164, j170, j171, j172, j173, j174, j175, ↓reduceIte, Nat.reduceEqDiff, j185, j195, Int.reduceNeg, nn, lvH]
            refine ⟨by kernel_rfl, ?_⟩
            simp -dsimp -implicitDefEqProofs only [↓j1, ↓j7, ↓j9, ↓j12, ↓j13, ↓j15, j17, j18, j20, ↓j25, ↓j29, ↓j38, ↓j53, ↓j145, ↓j148, ↓j149, j171, ↓reduceIte, Nat.reduceEqDiff, Int.reduceNeg]
            refine CallTo.gen (args := [.ptr 2 0 []]) (orH o1) (orH o1) 102 rfl fok21 (by simp -dsimp -implicitDefEqProofs only [↓j25, ↓j29, j173, j174, ↓reduceIte, Int.reduceNeg]) (notup1 fun vs h => by cases h) hlv (SubH.of (by simp -dsimp -implicitDefEqProofs only [↓j27, ↓reduceIte, Nat.reduceEqDiff, j182, j204, j205])) ⟨by simp, put_or⟩ ?_
            simp -dsimp -implicitDefEqProofs only [↓j1, j17, j18, j20, j21, j22, j23, ↓j25, ↓j29, ↓j38, ↓j53, ↓j145, j170, j171, j173, j174, ↓reduceIte, Nat.reduceEqDiff, Int.reduceNeg]
            refine CallTo.gen (args := [keysAV (keysIn o1.live), .ptr 99 0 []]) (lvH o.last o.max l1 100) (lvH o.last o.max l1 100) 102 rfl fok20 (by simp -dsimp -implicitDefEqProofs only [↓j25, ↓j29, j173, j174, ↓reduceIte, Nat.reduceEqDiff, Int.reduceNeg]) (notup2 (fun vs h => by cases h) fun vs h => by cases h) hli (SubH.of (by simp -dsimp -implicitDefEqProofs only [↓j27, ↓reduceIte, Nat.reduceEqDiff, j182, j204, j205, lvH])) ⟨by simp, put_lv⟩ ?_
            simp -dsimp -implicitDefEqProofs only [↓j0, ↓j1, ↓j7, ↓j9, ↓j13, ↓j15, j17, j18, j20, j21, j22, j23, ↓j25, ↓j29, ↓j30, j33, ↓j38, ↓j39, ↓j48, ↓j55, j84, ↓j89, ↓j145, ↓j146, ↓j148, ↓j149, j154, j170, j171, j173, j174, ↓reduceIte, Nat.reduceEqDiff, j185, j193, Int.reduceNeg, lvH]
            exact ⟨n - 1, plSt last o.max ops o1 l1 (i + 1), by omega, ⟨o1, l1, i + 1, ho1, hrel1, by omega, hcnt1, hmx1, rfl⟩, Wk.trans (Wk.mk (s' := ⟨237, plT last o.max ops (i + 1), plG o1 l1 100, 102⟩) (SubT.spec (by simp -dsimp -implicitDefEqProofs only [↓j25, reduceCtorEq, ↓reduceIte, Nat.reduceEqDiff, j182, Int.reduceNeg, j202, j203, plT, hw] <;> simp)) (SubH.spec (by simp -dsimp -implicitDefEqProofs only [↓j27, ↓reduceIte, Nat.reduceEqDiff, j182, j204, j205, plG, ro_lv hp1, lvH, hl1, hmx1] <;> simp)) (Nat.le_refl _) rfl) pl_gc⟩
          · rw [if_neg h8] at fRn fRb
            have hp1 : 0 < l1.length := by
              have := congrArg (fun r : (Nat × Nat × Nat) × List Tx => r.2.length) fRb
              simp only [List.length_append, List.length_cons, List.length_nil] at this
              omega
            rw [fRn, ro_lv hp, ro_lv hp1] at hrb
            have hrb := hrb.ren swA_swA
            rw [lvH_ren (m := 4) (m' := 100) rfl rfl, lvH_ren (m := 101) (m' := 102) rfl rfl] at hrb
            have hrb : ACall Try.prog 16 [.ptr 99 0 []] (lvH o.last o.max l 100) (.tuple [.int .u64 (p : Nat), .int .u32 (q : Nat), .int .i64 (f : Nat)]) (lvH o.last o.max l1 102) := hrb
            refine CallTo.gen (args := [.ptr 99 0 []]) (lvH o.last o.max l 100) (lvH o.last o.max l1 102) 103 rfl fok16 (by simp -dsimp -implicitDefEqProofs only [↓j25, ↓j29, j173, j174, ↓reduceIte, Int.reduceNeg]) (notup1 fun vs h => by cases h) hrb (SubH.of (by simp -dsimp -implicitDefEqProofs only [↓j27, ↓reduceIte, Nat.reduceEqDiff, j182, j204, j205, lvH])) ⟨by simp, put_lvv (Nat.le_refl 102)⟩ ?_
            simp -dsimp -implicitDefEqProofs only [↓j0, ↓j1, ↓j2, ↓j4, ↓j7, ↓j8, ↓j9, ↓j12, ↓j13, ↓j15, j17, j18, j20, j21, j22, j23, j24, ↓j25, ↓j29, ↓j30, j32, ↓j38, ↓j39, ↓j40, ↓j48, ↓j53, ↓j57, j83, j85, ↓j89, ↓j145, ↓j146, ↓j148, ↓j149, ↓j151, j158, j163, j164, j170, j171, j172, j173, j174, j175, ↓reduceIte, Nat.reduceEqDiff, j185, j195, Int.reduceNeg, nn, lvH]
            have hls := last_spec o1
            have hho := hz_spec o1 ho1
            have hrz := hrel1.hz ho1
            have hks := hrel1.keys ho1
            have hk8 : (keysIn o1.live).length ≤ 8 := by rw [keysIn_len]; exact ho1.few
            have hlv := live_spec o1 ho1
            have hcl1 : (l1 : List Tx).length ≤ 1000 := by rw [hrel1.cnt]; have := hcnt1; omega
            have hrh := rhz102 o.last o.max l1 hcl1 hp1
            have hli := lives102 (keysIn o1.live) o.last o.max l1 hcl1 hp1 hks hk8
            rw [hl1] at hrz hls
            rw [hrz] at hrh
            refine CallTo.gen (args := [.ptr 2 0 []]) (orH o1) (orH o1) 103 rfl fok12 (by simp -dsimp -implicitDefEqProofs only [↓j25, ↓j29, j173, j174, ↓reduceIte, Int.reduceNeg]) (notup1 fun vs h => by cases h) hls (SubH.of (by simp -dsimp -implicitDefEqProofs only [↓j27, ↓reduceIte, Nat.reduceEqDiff, j182, j204, j205])) ⟨by simp, put_or⟩ ?_
            simp -dsimp -implicitDefEqProofs only [↓j4, ↓j5, j17, j18, j20, j21, j22, j23, j24, ↓j25, ↓j27, ↓j29, ↓j38, ↓j43, ↓j45, ↓j48, ↓j53, ↓j56, ↓j76, ↓j79, ↓j89, j130, ↓j145, ↓j146, ↓j148, ↓j151, ↓j153, j158, AV.proj, AV.offOf, AV.sizeL, j163, j164, j167, j170, j171, j172, j173, j174, j175, ↓reduceIte, Nat.reduceEqDiff, j182, j185, j197, Int.reduceNeg, j260, j282, nn]
            refine CallTo.gen (args := [.ptr 2 0 []]) (orH o1) (orH o1) 103 rfl fok18 (by simp -dsimp -implicitDefEqProofs only [↓j25, ↓j29, j173, j174, ↓reduceIte, Int.reduceNeg]) (notup1 fun vs h => by cases h) hho (SubH.of (by simp -dsimp -implicitDefEqProofs only [↓j27, ↓reduceIte, Nat.reduceEqDiff, j182, j204, j205])) ⟨by simp, put_or⟩ ?_
            simp -dsimp -implicitDefEqProofs only [↓j5, j17, j18, j20, j21, j22, j23, j24, ↓j25, ↓j29, ↓j38, ↓j53, ↓j145, ↓j148, ↓j151, j163, j164, j170, j171, j172, j173, j174, j175, ↓reduceIte, Nat.reduceEqDiff, Int.reduceNeg]
            refine CallTo.gen (args := [.ptr 99 0 []]) (lvH o.last o.max l1 102) (lvH o.last o.max l1 102) 103 rfl fok19 (by simp -dsimp -implicitDefEqProofs only [↓j25, ↓j29, j173, j174, ↓reduceIte, Int.reduceNeg]) (notup1 fun vs h => by cases h) hrh (SubH.of (by simp -dsimp -implicitDefEqProofs only [↓j27, ↓reduceIte, Nat.reduceEqDiff, j182, j204, j205, lvH])) ⟨by simp, put_lv⟩ ?_
            simp -dsimp -implicitDefEqProofs only [↓j3, ↓j4, ↓j5, j17, j18, j20, j21, j22, j23, j24, ↓j25, ↓j29, ↓j30, j32, ↓j40, ↓j48, j83, ↓j89, ↓j145, ↓j146, ↓j148, ↓j151, j158, j163, j164, j170, j171, j172, j173, j174, j175, ↓reduceIte, Nat.reduceEqDiff, j185, j195, Int.reduceNeg, nn, lvH]
            refine ⟨by kernel_rfl, ?_⟩
            simp -dsimp -implicitDefEqProofs only [↓j1, ↓j7, ↓j9, ↓j12, ↓j13, ↓j15, j17, j18, j20, ↓j25, ↓j29, ↓j38, ↓j53, ↓j145, ↓j148, ↓j149, j171, ↓reduceIte, Nat.reduceEqDiff, Int.reduceNeg]
            refine CallTo.gen (args := [.ptr 2 0 []]) (orH o1) (orH o1) 103 rfl fok21 (by simp -dsimp -implicitDefEqProofs only [↓j25, ↓j29, j173, j174, ↓reduceIte, Int.reduceNeg]) (notup1 fun vs h => by cases h) hlv (SubH.of (by simp -dsimp -implicitDefEqProofs only [↓j27, ↓reduceIte, Nat.reduceEqDiff, j182, j204, j205])) ⟨by simp, put_or⟩ ?_
            simp -dsimp -implicitDefEqProofs only [↓j1, j17, j18, j20, j21, j22, j23, ↓j25, ↓j29, ↓j38, ↓j53, ↓j145, j170, j171, j173, j174, ↓reduceIte, Nat.reduceEqDiff, Int.reduceNeg]
            refine CallTo.gen (args := [keysAV (keysIn o1.live), .ptr 99 0 []]) (lvH o.last o.max l1 102) (lvH o.last o.max l1 102) 103 rfl fok20 (by simp -dsimp -implicitDefEqProofs only [↓j25, ↓j29, j173, j174, ↓reduceIte, Nat.reduceEqDiff, Int.reduceNeg]) (notup2 (fun vs h => by cases h) fun vs h => by cases h) hli (SubH.of (by simp -dsimp -implicitDefEqProofs only [↓j27, ↓reduceIte, Nat.reduceEqDiff, j182, j204, j205, lvH])) ⟨by simp, put_lv⟩ ?_
            simp -dsimp -implicitDefEqProofs only [↓j0, ↓j1, ↓j7, ↓j9, ↓j13, ↓j15, j17, j18, j20, j21, j22, j23, ↓j25, ↓j29, ↓j30, j33, ↓j38, ↓j39, ↓j48, ↓j55, j84, ↓j89, ↓j145, ↓j146, ↓j148, ↓j149, j154, j170, j171, j173, j174, ↓reduceIte, Nat.reduceEqDiff, j185, j193, Int.reduceNeg, lvH]
            exact ⟨n - 1, plSt last o.max ops o1 l1 (i + 1), by omega, ⟨o1, l1, i + 1, ho1, hrel1, by omega, hcnt1, hmx1, rfl⟩, Wk.trans (Wk.mk (s' := ⟨237, plT last o.max ops (i + 1), plG o1 l1 102, 103⟩) (SubT.spec (by simp -dsimp -implicitDefEqProofs only [↓j25, reduceCtorEq, ↓reduceIte, Nat.reduceEqDiff, j182, Int.reduceNeg, j202, j203, plT, hw] <;> simp)) (SubH.spec (by simp -dsimp -implicitDefEqProofs only [↓j27, ↓reduceIte, Nat.reduceEqDiff, j182, j204, j205, plG, ro_lv hp1, lvH, hl1, hmx1] <;> simp)) (Nat.le_refl _) rfl) (pl_ren hp1 _)⟩
        have g0 : (x.1 == 0) = false := by rw [beq_eq_false_iff_ne]; exact k0
        by_cases k1 : x.1 = 1
        · have g1 : (x.1 == 1) = true := by rw [beq_iff_eq]; exact k1
          rw [hst0, if_neg Bool.false_ne_true] at fEn
          rw [fEn] at hen
          have hen : ACall Try.prog 17 [.ptr 2 0 [], .int .u64 x.2] (orH o) (.int .i64 9) (orH o) := hen
          have ho1 := ho
          have hrel1 := hrel
          have hcnt1 : o.count ≤ i + 1 := by omega
          have hl1 : o.last = o.last := rfl
          have hmx1 : o.max = o.max := rfl
          have hp1 := hp
          simp -dsimp -implicitDefEqProofs only [↓j0, ↓j1, ↓j2, ↓j7, ↓j9, ↓j12, ↓j13, ↓j14, ↓j15, j17, j18, j20, j21, j22, j23, ↓j25, ↓j27, ↓j29, ↓j30, j32, j33, ↓j38, ↓j39, ↓j40, ↓j43, ↓j45, ↓j48, ↓j53, ↓j55, ↓j57, ↓j76, ↓j79, j82, j83, j84, j85, ↓j89, ↓j90, j130, ↓j145, ↓j146, ↓j147, ↓j148, ↓j149, ↓j150, ↓j151, ↓j153, j157, j158, j162, AV.proj, AV.offOf, AV.size, AV.sizeL, j163, j164, j166, j167, j170, j171, j173, j174, j175, ↓reduceIte, Nat.reduceEqDiff, Int.reduceLE, j182, j185, j192, j194, j195, j196, j197, Int.reduceNeg, j212, j250, j291, j296, j299, j370, bb1, n0, g0, g1]
          refine CallTo.gen (args := [.ptr 2 0 [], .int .u64 x.2]) (orH o) (orH o) 102 rfl fok17 (by simp -dsimp -implicitDefEqProofs only [↓j25, ↓j29, j173, j174, ↓reduceIte, Nat.reduceEqDiff, Int.reduceNeg]) (notup2 (fun vs h => by cases h) fun vs h => by cases h) hen (SubH.of (by simp -dsimp -implicitDefEqProofs only [↓j27, ↓reduceIte, Nat.reduceEqDiff, j182, j204, j205])) ⟨by simp, put_or⟩ ?_
          simp -dsimp -implicitDefEqProofs only [↓j0, ↓j1, ↓j4, ↓j7, ↓j8, ↓j9, ↓j12, ↓j13, ↓j15, j17, j18, j20, j21, j22, j23, j24, ↓j25, ↓j29, ↓j30, j33, ↓j38, ↓j48, ↓j53, ↓j89, ↓j90, ↓j145, ↓j146, ↓j148, ↓j149, j157, j162, j170, j171, j172, j173, j174, ↓reduceIte, Nat.reduceEqDiff, Int.reduceLE, j185, j192, Int.reduceNeg, j212, j370, bb1, n90]
          have hls := last_spec o
          have hho := hz_spec o ho1
          have hrz := hrel1.hz ho1
          have hks := hrel1.keys ho1
          have hk8 : (keysIn o.live).length ≤ 8 := by rw [keysIn_len]; exact ho1.few
          have hlv := live_spec o ho1
          have hcl1 : (l : List Tx).length ≤ 1000 := by rw [hrel1.cnt]; have := hcnt1; omega
          have hrh := rhz100 o.last o.max l hcl1 hp1
          have hli := lives100 (keysIn o.live) o.last o.max l hcl1 hp1 hks hk8
          rw [hl1] at hrz hls
          rw [hrz] at hrh
          refine CallTo.gen (args := [.ptr 2 0 []]) (orH o) (orH o) 102 rfl fok12 (by simp -dsimp -implicitDefEqProofs only [↓j25, ↓j29, j173, j174, ↓reduceIte, Int.reduceNeg]) (notup1 fun vs h => by cases h) hls (SubH.of (by simp -dsimp -implicitDefEqProofs only [↓j27, ↓reduceIte, Nat.reduceEqDiff, j182, j204, j205])) ⟨by simp, put_or⟩ ?_
          simp -dsimp -implicitDefEqProofs only [↓j4, ↓j5, j17, j18, j20, j21, j22, j23, j24, ↓j25, ↓j27, ↓j29, ↓j38, ↓j43, ↓j45, ↓j48, ↓j53, ↓j56, ↓j76, ↓j79, ↓j89, j130, ↓j145, ↓j146, ↓j148, ↓j151, ↓j153, j158, AV.proj, AV.offOf, AV.sizeL, j163, j164, j167, j170, j171, j172, j173, j174, j175, ↓reduceIte, Nat.reduceEqDiff, j182, j185, j197, Int.reduceNeg, j260, j282, nn]
          refine CallTo.gen (args := [.ptr 2 0 []]) (orH o) (orH o) 102 rfl fok18 (by simp -dsimp -implicitDefEqProofs only [↓j25, ↓j29, j173, j174, ↓reduceIte, Int.reduceNeg]) (notup1 fun vs h => by cases h) hho (SubH.of (by simp -dsimp -implicitDefEqProofs only [↓j27, ↓reduceIte, Nat.reduceEqDiff, j182, j204, j205])) ⟨by simp, put_or⟩ ?_
          simp -dsimp -implicitDefEqProofs only [↓j5, j17, j18, j20, j21, j22, j23, j24, ↓j25, ↓j29, ↓j38, ↓j53, ↓j145, ↓j148, ↓j151, j163, j164, j170, j171, j172, j173, j174, j175, ↓reduceIte, Nat.reduceEqDiff, Int.reduceNeg]
          refine CallTo.gen (args := [.ptr 99 0 []]) (lvH o.last o.max l 100) (lvH o.last o.max l 100) 102 rfl fok19 (by simp -dsimp -implicitDefEqProofs only [↓j25, ↓j29, j173, j174, ↓reduceIte, Int.reduceNeg]) (notup1 fun vs h => by cases h) hrh (SubH.of (by simp -dsimp -implicitDefEqProofs only [↓j27, ↓reduceIte, Nat.reduceEqDiff, j182, j204, j205, lvH])) ⟨by simp, put_lv⟩ ?_
          simp -dsimp -implicitDefEqProofs only [↓j3, ↓j4, ↓j5, j17, j18, j20, j21, j22, j23, j24, ↓j25, ↓j29, ↓j30, j32, ↓j40, ↓j48, j83, ↓j89, ↓j145, ↓j146, ↓j148, ↓j151, j158, j163, j164, j170, j171, j172, j173, j174, j175, ↓reduceIte, Nat.reduceEqDiff, j185, j195, Int.reduceNeg, nn, lvH]
          refine ⟨by kernel_rfl, ?_⟩
          simp -dsimp -implicitDefEqProofs only [↓j1, ↓j7, ↓j9, ↓j12, ↓j13, ↓j15, j17, j18, j20, ↓j25, ↓j29, ↓j38, ↓j53, ↓j145, ↓j148, ↓j149, j171, ↓reduceIte, Nat.reduceEqDiff, Int.reduceNeg]
          refine CallTo.gen (args := [.ptr 2 0 []]) (orH o) (orH o) 102 rfl fok21 (by simp -dsimp -implicitDefEqProofs only [↓j25, ↓j29, j173, j174, ↓reduceIte, Int.reduceNeg]) (notup1 fun vs h => by cases h) hlv (SubH.of (by simp -dsimp -implicitDefEqProofs only [↓j27, ↓reduceIte, Nat.reduceEqDiff, j182, j204, j205])) ⟨by simp, put_or⟩ ?_
          simp -dsimp -implicitDefEqProofs only [↓j1, j17, j18, j20, j21, j22, j23, ↓j25, ↓j29, ↓j38, ↓j53, ↓j145, j170, j171, j173, j174, ↓reduceIte, Nat.reduceEqDiff, Int.reduceNeg]
          refine CallTo.gen (args := [keysAV (keysIn o.live), .ptr 99 0 []]) (lvH o.last o.max l 100) (lvH o.last o.max l 100) 102 rfl fok20 (by simp -dsimp -implicitDefEqProofs only [↓j25, ↓j29, j173, j174, ↓reduceIte, Nat.reduceEqDiff, Int.reduceNeg]) (notup2 (fun vs h => by cases h) fun vs h => by cases h) hli (SubH.of (by simp -dsimp -implicitDefEqProofs only [↓j27, ↓reduceIte, Nat.reduceEqDiff, j182, j204, j205, lvH])) ⟨by simp, put_lv⟩ ?_
          simp -dsimp -implicitDefEqProofs only [↓j0, ↓j1, ↓j7, ↓j9, ↓j13, ↓j15, j17, j18, j20, j21, j22, j23, ↓j25, ↓j29, ↓j30, j33, ↓j38, ↓j39, ↓j48, ↓j55, j84, ↓j89, ↓j145, ↓j146, ↓j148, ↓j149, j154, j170, j171, j173, j174, ↓reduceIte, Nat.reduceEqDiff, j185, j193, Int.reduceNeg, lvH]
          exact ⟨n - 1, plSt last o.max ops o l (i + 1), by omega, ⟨o, l, i + 1, ho1, hrel1, by omega, hcnt1, hmx1, rfl⟩, Wk.trans (Wk.mk (s' := ⟨237, plT last o.max ops (i + 1), plG o l 100, 102⟩) (SubT.spec (by simp -dsimp -implicitDefEqProofs only [↓j25, reduceCtorEq, ↓reduceIte, Nat.reduceEqDiff, j182, Int.reduceNeg, j202, j203, plT, hw] <;> simp)) (SubH.spec (by simp -dsimp -implicitDefEqProofs only [↓j27, ↓reduceIte, Nat.reduceEqDiff, j182, j204, j205, plG, ro_lv hp1, lvH] <;> simp)) (Nat.le_refl _) rfl) pl_gc⟩
        have g1 : (x.1 == 1) = false := by rw [beq_eq_false_iff_ne]; exact k1
        by_cases k2 : x.1 = 2
        · have g2 : (x.1 == 2) = true := by rw [beq_iff_eq]; exact k2
          have g3 : (x.1 == 3) = false := by rw [beq_eq_false_iff_ne]; omega
          rcases Nat.lt_or_ge o.last o.max with hq | hq
          · first
              | exfalso; omega
              | skip
                rw [if_neg hlm3] at fNx
                by_cases hyy : y = o.last + 1
                · have hpp : o.pubP y = (0, { o with last := y }) := by rw [fPub, fNx, if_neg (by simp <;> omega)]
                  have hpb := pub_spec o ho y (by omega)
                  have hpo := pub_ok ho y
                  rw [hpp] at hpb hpo
                  obtain ⟨o1, ho1e⟩ : ∃ o1, ({ o with last := y } : OS) = o1 := ⟨_, rfl⟩
                  have ho1 : o1.Ok := ho1e ▸ hpo
                  have hrel1 : Rel o1 l := ho1e ▸ hrel.pub y
                  have hcnt1 : o1.count ≤ i + 1 := by rw [← ho1e]; show o.count ≤ i + 1; omega
                  have hl1 : o1.last = y := by rw [← ho1e]
                  have hmx1 : o1.max = o.max := by rw [← ho1e]
                  have hpb : ACall Try.prog 11 [.ptr 2 0 [], .int .u32 (y : Nat)] (orH o) (.int .i64 0) (orH o1) := by rw [← ho1e]; exact hpb
                  have hp1 := hp
                  simp -dsimp -implicitDefEqProofs only [↓j0, ↓j1, ↓j2, ↓j7, ↓j9, ↓j12, ↓j13, ↓j14, ↓j15, j17, j18, j20, j21, j22, j23, ↓j25, ↓j27, ↓j29, ↓j30, j32, j33, ↓j38, ↓j39, ↓j40, ↓j43, ↓j45, ↓j48, ↓j50, ↓j53, ↓j55, ↓j57, ↓j76, ↓j79, j82, j83, j84, j85, ↓j89, ↓j90, j130, ↓j145, ↓j146, ↓j147, ↓j148, ↓j149, ↓j150, ↓j151, ↓j153, j157, j158, j162, AV.proj, AV.offOf, AV.size, AV.sizeL, j163, j164, j166, j167, j170, j171, j173, j174, j175, ↓reduceIte, Nat.reduceEqDiff, Int.reduceLE, j182, j185, j192, j194, j195, j196, j197, Int.reduceNeg, j212, ↓j225, j250, j261, j291, j296, j299, j370, j380, bb1, n0, g0, g1, g2, wy, g3]
                  refine CallTo.gen (args := [.ptr 2 0 [], .int .u32 (y : Nat)]) (orH o) (orH o1) 102 rfl fok11 (by simp -dsimp -implicitDefEqProofs only [↓j25, ↓j29, j173, j174, ↓reduceIte, Nat.reduceEqDiff, Int.reduceNeg]) (notup2 (fun vs h => by cases h) fun vs h => by cases h) hpb (SubH.of (by simp -dsimp -implicitDefEqProofs only [↓j27, ↓reduceIte, Nat.reduceEqDiff, j182, j204, j205])) ⟨by simp, put_or⟩ ?_
                  have ye : (((y : Nat) : Int) == ((o.last + 1 : Nat) : Int)) = true := by rw [beq_iff_eq] <;> omega
                  simp -dsimp -implicitDefEqProofs only [↓j0, ↓j1, ↓j2, ↓j4, ↓j7, ↓j8, ↓j9, ↓j12, ↓j13, ↓j15, j17, j18, j19, j20, j21, j22, j23, j24, ↓j25, ↓j27, ↓j29, ↓j30, j32, j33, ↓j38, ↓j39, ↓j40, ↓j43, ↓j44, ↓j45, ↓j48, ↓j53, ↓j56, ↓j76, ↓j78, ↓j79, j83, ↓j89, j130, ↓j145, ↓j146, ↓j147, ↓j148, ↓j149, ↓j150, ↓j153, j154, j157, j158, j159, AV.proj, AV.offOf, AV.upd, AV.size, AV.sizeL, AV.layable, j163, j164, j167, j169, j170, j171, j172, j173, j174, j175, reduceCtorEq, ↓reduceIte, Nat.reduceEqDiff, j182, j185, j197, Int.reduceNeg, j259, j260, j282, n0, b2, w1, ye]
                  have hls := last_spec o1
                  have hho := hz_spec o1 ho1
                  have hrz := hrel1.hz ho1
                  have hks := hrel1.keys ho1
                  have hk8 : (keysIn o1.live).length ≤ 8 := by rw [keysIn_len]; exact ho1.few
                  have hlv := live_spec o1 ho1
                  have hcl1 : (l : List Tx).length ≤ 1000 := by rw [hrel1.cnt]; have := hcnt1; omega
                  have hrh := rhz100 y o.max l hcl1 hp1
                  have hli := lives100 (keysIn o1.live) y o.max l hcl1 hp1 hks hk8
                  rw [hl1] at hrz hls
                  rw [hrz] at hrh
                  refine CallTo.gen (args := [.ptr 2 0 []]) (orH o1) (orH o1) 102 rfl fok12 (by simp -dsimp -implicitDefEqProofs only [↓j25, ↓j29, j173, j174, ↓reduceIte, Int.reduceNeg]) (notup1 fun vs h => by cases h) hls (SubH.of (by simp -dsimp -implicitDefEqProofs only [↓j27, ↓reduceIte, Nat.reduceEqDiff, j182, j204, j205])) ⟨by simp, put_or⟩ ?_
                  simp -dsimp -implicitDefEqProofs only [↓j4, ↓j5, j17, j18, j20, j21, j22, j23, j24, ↓j25, ↓j27, ↓j29, ↓j38, ↓j43, ↓j45, ↓j48, ↓j53, ↓j56, ↓j76, ↓j79, ↓j89, j130, ↓j145, ↓j146, ↓j148, ↓j151, ↓j153, j158, AV.proj, AV.offOf, AV.sizeL, j163, j164, j167, j170, j171, j172, j173, j174, j175, ↓reduceIte, Nat.reduceEqDiff, j182, j185, j197, Int.reduceNeg, j260, j282, nn]
                  refine CallTo.gen (args := [.ptr 2 0 []]) (orH o1) (orH o1) 102 rfl fok18 (by simp -dsimp -implicitDefEqProofs only [↓j25, ↓j29, j173, j174, ↓reduceIte, Int.reduceNeg]) (notup1 fun vs h => by cases h) hho (SubH.of (by simp -dsimp -implicitDefEqProofs only [↓j27, ↓reduceIte, Nat.reduceEqDiff, j182, j204, j205])) ⟨by simp, put_or⟩ ?_
                  simp -dsimp -implicitDefEqProofs only [↓j5, j17, j18, j20, j21, j22, j23, j24, ↓j25, ↓j29, ↓j38, ↓j53, ↓j145, ↓j148, ↓j151, j163, j164, j170, j171, j172, j173, j174, j175, ↓reduceIte, Nat.reduceEqDiff, Int.reduceNeg]
                  refine CallTo.gen (args := [.ptr 99 0 []]) (lvH y o.max l 100) (lvH y o.max l 100) 102 rfl fok19 (by simp -dsimp -implicitDefEqProofs only [↓j25, ↓j29, j173, j174, ↓reduceIte, Int.reduceNeg]) (notup1 fun vs h => by cases h) hrh (SubH.of (by simp -dsimp -implicitDefEqProofs only [↓j27, ↓reduceIte, Nat.reduceEqDiff, j182, j204, j205, lvH])) ⟨by simp, put_lv⟩ ?_
                  simp -dsimp -implicitDefEqProofs only [↓j3, ↓j4, ↓j5, j17, j18, j20, j21, j22, j23, j24, ↓j25, ↓j29, ↓j30, j32, ↓j40, ↓j48, j83, ↓j89, ↓j145, ↓j146, ↓j148, ↓j151, j158, j163, j164, j170, j171, j172, j173, j174, j175, ↓reduceIte, Nat.reduceEqDiff, j185, j195, Int.reduceNeg, nn, lvH]
                  refine ⟨by kernel_rfl, ?_⟩
                  simp -dsimp -implicitDefEqProofs only [↓j1, ↓j7, ↓j9, ↓j12, ↓j13, ↓j15, j17, j18, j20, ↓j25, ↓j29, ↓j38, ↓j53, ↓j145, ↓j148, ↓j149, j171, ↓reduceIte, Nat.reduceEqDiff, Int.reduceNeg]
                  refine CallTo.gen (args := [.ptr 2 0 []]) (orH o1) (orH o1) 102 rfl fok21 (by simp -dsimp -implicitDefEqProofs only [↓j25, ↓j29, j173, j174, ↓reduceIte, Int.reduceNeg]) (notup1 fun vs h => by cases h) hlv (SubH.of (by simp -dsimp -implicitDefEqProofs only [↓j27, ↓reduceIte, Nat.reduceEqDiff, j182, j204, j205])) ⟨by simp, put_or⟩ ?_
                  simp -dsimp -implicitDefEqProofs only [↓j1, j17, j18, j20, j21, j22, j23, ↓j25, ↓j29, ↓j38, ↓j53, ↓j145, j170, j171, j173, j174, ↓reduceIte, Nat.reduceEqDiff, Int.reduceNeg]
                  refine CallTo.gen (args := [keysAV (keysIn o1.live), .ptr 99 0 []]) (lvH y o.max l 100) (lvH y o.max l 100) 102 rfl fok20 (by simp -dsimp -implicitDefEqProofs only [↓j25, ↓j29, j173, j174, ↓reduceIte, Nat.reduceEqDiff, Int.reduceNeg]) (notup2 (fun vs h => by cases h) fun vs h => by cases h) hli (SubH.of (by simp -dsimp -implicitDefEqProofs only [↓j27, ↓reduceIte, Nat.reduceEqDiff, j182, j204, j205, lvH])) ⟨by simp, put_lv⟩ ?_
                  simp -dsimp -implicitDefEqProofs only [↓j0, ↓j1, ↓j7, ↓j9, ↓j13, ↓j15, j17, j18, j20, j21, j22, j23, ↓j25, ↓j29, ↓j30, j33, ↓j38, ↓j39, ↓j48, ↓j55, j84, ↓j89, ↓j145, ↓j146, ↓j148, ↓j149, j154, j170, j171, j173, j174, ↓reduceIte, Nat.reduceEqDiff, j185, j193, Int.reduceNeg, lvH]
                  exact ⟨n - 1, plSt last o.max ops o1 l (i + 1), by omega, ⟨o1, l, i + 1, ho1, hrel1, by omega, hcnt1, hmx1, rfl⟩, Wk.trans (Wk.mk (s' := ⟨237, plT last o.max ops (i + 1), plG o1 l 100, 102⟩) (SubT.spec (by simp -dsimp -implicitDefEqProofs only [↓j25, reduceCtorEq, ↓reduceIte, Nat.reduceEqDiff, j182, Int.reduceNeg, j202, j203, plT, hw] <;> simp)) (SubH.spec (by simp -dsimp -implicitDefEqProofs only [↓j27, ↓reduceIte, Nat.reduceEqDiff, j182, j204, j205, plG, ro_lv hp1, lvH, hl1, hmx1] <;> simp)) (Nat.le_refl _) rfl) pl_gc⟩
                · have hpp : o.pubP y = (1, o) := by rw [fPub, fNx, if_pos (.inr (by simp only; omega))]
                  have yy : ((y : Int) == ((o.last + 1 : Nat) : Int)) = false := by rw [beq_eq_false_iff_ne]; omega
                  have hpb := pub_spec o ho y (by omega)
                  rw [hpp] at hpb
                  have hpb : ACall Try.prog 11 [.ptr 2 0 [], .int .u32 (y : Nat)] (orH o) (.int .i64 1) (orH o) := hpb
                  have ho1 := ho
                  have hrel1 := hrel
                  have hcnt1 : o.count ≤ i + 1 := by omega
                  have hl1 : o.last = o.last := rfl
                  have hmx1 : o.max = o.max := rfl
                  have hp1 := hp
                  simp -dsimp -implicitDefEqProofs only [↓j0, ↓j1, ↓j2, ↓j7, ↓j9, ↓j12, ↓j13, ↓j14, ↓j15, j17, j18, j20, j21, j22, j23, ↓j25, ↓j27, ↓j29, ↓j30, j32, j33, ↓j38, ↓j39, ↓j40, ↓j43, ↓j45, ↓j48, ↓j50, ↓j53, ↓j55, ↓j57, ↓j76, ↓j79, j82, j83, j84, j85, ↓j89, ↓j90, j130, ↓j145, ↓j146, ↓j147, ↓j148, ↓j149, ↓j150, ↓j151, ↓j153, j157, j158, j162, AV.proj, AV.offOf, AV.size, AV.sizeL, j163, j164, j166, j167, j170, j171, j173, j174, j175, ↓reduceIte, Nat.reduceEqDiff, Int.reduceLE, j182, j185, j192, j194, j195, j196, j197, Int.reduceNeg, j212, ↓j225, j250, j261, j291, j296, j299, j370, j380, bb1, n0, g0, g1, g2, wy, g3]
                  refine CallTo.gen (args := [.ptr 2 0 [], .int .u32 (y : Nat)]) (orH o) (orH o) 102 rfl fok11 (by simp -dsimp -implicitDefEqProofs only [↓j25, ↓j29, j173, j174, ↓reduceIte, Nat.reduceEqDiff, Int.reduceNeg]) (notup2 (fun vs h => by cases h) fun vs h => by cases h) hpb (SubH.of (by simp -dsimp -implicitDefEqProofs only [↓j27, ↓reduceIte, Nat.reduceEqDiff, j182, j204, j205])) ⟨by simp, put_or⟩ ?_
                  simp -dsimp -implicitDefEqProofs only [↓j0, ↓j1, ↓j2, ↓j4, ↓j7, ↓j8, ↓j9, ↓j12, ↓j13, ↓j15, j17, j18, j20, j21, j22, j23, j24, ↓j25, ↓j27, ↓j29, ↓j30, j32, j33, ↓j38, ↓j39, ↓j40, ↓j43, ↓j45, ↓j48, ↓j53, ↓j56, ↓j76, ↓j79, j83, ↓j89, j130, ↓j145, ↓j146, ↓j147, ↓j148, ↓j149, ↓j150, ↓j153, j154, j157, j158, j159, AV.proj, AV.offOf, AV.sizeL, j163, j164, j167, j170, j171, j172, j173, j174, j175, reduceCtorEq, ↓reduceIte, Nat.reduceEqDiff, j182, j185, j197, Int.reduceNeg, j260, j282, n1, b2, w1, yy]
                  have hls := last_spec o
                  have hho := hz_spec o ho1
                  have hrz := hrel1.hz ho1
                  have hks := hrel1.keys ho1
                  have hk8 : (keysIn o.live).length ≤ 8 := by rw [keysIn_len]; exact ho1.few
                  have hlv := live_spec o ho1
                  have hcl1 : (l : List Tx).length ≤ 1000 := by rw [hrel1.cnt]; have := hcnt1; omega
                  have hrh := rhz100 o.last o.max l hcl1 hp1
                  have hli := lives100 (keysIn o.live) o.last o.max l hcl1 hp1 hks hk8
                  rw [hl1] at hrz hls
                  rw [hrz] at hrh
                  refine CallTo.gen (args := [.ptr 2 0 []]) (orH o) (orH o) 102 rfl fok12 (by simp -dsimp -implicitDefEqProofs only [↓j25, ↓j29, j173, j174, ↓reduceIte, Int.reduceNeg]) (notup1 fun vs h => by cases h) hls (SubH.of (by simp -dsimp -implicitDefEqProofs only [↓j27, ↓reduceIte, Nat.reduceEqDiff, j182, j204, j205])) ⟨by simp, put_or⟩ ?_
                  simp -dsimp -implicitDefEqProofs only [↓j4, ↓j5, j17, j18, j20, j21, j22, j23, j24, ↓j25, ↓j27, ↓j29, ↓j38, ↓j43, ↓j45, ↓j48, ↓j53, ↓j56, ↓j76, ↓j79, ↓j89, j130, ↓j145, ↓j146, ↓j148, ↓j151, ↓j153, j158, AV.proj, AV.offOf, AV.sizeL, j163, j164, j167, j170, j171, j172, j173, j174, j175, ↓reduceIte, Nat.reduceEqDiff, j182, j185, j197, Int.reduceNeg, j260, j282, nn]
                  refine CallTo.gen (args := [.ptr 2 0 []]) (orH o) (orH o) 102 rfl fok18 (by simp -dsimp -implicitDefEqProofs only [↓j25, ↓j29, j173, j174, ↓reduceIte, Int.reduceNeg]) (notup1 fun vs h => by cases h) hho (SubH.of (by simp -dsimp -implicitDefEqProofs only [↓j27, ↓reduceIte, Nat.reduceEqDiff, j182, j204, j205])) ⟨by simp, put_or⟩ ?_
                  simp -dsimp -implicitDefEqProofs only [↓j5, j17, j18, j20, j21, j22, j23, j24, ↓j25, ↓j29, ↓j38, ↓j53, ↓j145, ↓j148, ↓j151, j163, j164, j170, j171, j172, j173, j174, j175, ↓reduceIte, Nat.reduceEqDiff, Int.reduceNeg]
                  refine CallTo.gen (args := [.ptr 99 0 []]) (lvH o.last o.max l 100) (lvH o.last o.max l 100) 102 rfl fok19 (by simp -dsimp -implicitDefEqProofs only [↓j25, ↓j29, j173, j174, ↓reduceIte, Int.reduceNeg]) (notup1 fun vs h => by cases h) hrh (SubH.of (by simp -dsimp -implicitDefEqProofs only [↓j27, ↓reduceIte, Nat.reduceEqDiff, j182, j204, j205, lvH])) ⟨by simp, put_lv⟩ ?_
                  simp -dsimp -implicitDefEqProofs only [↓j3, ↓j4, ↓j5, j17, j18, j20, j21, j22, j23, j24, ↓j25, ↓j29, ↓j30, j32, ↓j40, ↓j48, j83, ↓j89, ↓j145, ↓j146, ↓j148, ↓j151, j158, j163, j164, j170, j171, j172, j173, j174, j175, ↓reduceIte, Nat.reduceEqDiff, j185, j195, Int.reduceNeg, nn, lvH]
                  refine ⟨by kernel_rfl, ?_⟩
                  simp -dsimp -implicitDefEqProofs only [↓j1, ↓j7, ↓j9, ↓j12, ↓j13, ↓j15, j17, j18, j20, ↓j25, ↓j29, ↓j38, ↓j53, ↓j145, ↓j148, ↓j149, j171, ↓reduceIte, Nat.reduceEqDiff, Int.reduceNeg]
                  refine CallTo.gen (args := [.ptr 2 0 []]) (orH o) (orH o) 102 rfl fok21 (by simp -dsimp -implicitDefEqProofs only [↓j25, ↓j29, j173, j174, ↓reduceIte, Int.reduceNeg]) (notup1 fun vs h => by cases h) hlv (SubH.of (by simp -dsimp -implicitDefEqProofs only [↓j27, ↓reduceIte, Nat.reduceEqDiff, j182, j204, j205])) ⟨by simp, put_or⟩ ?_
                  simp -dsimp -implicitDefEqProofs only [↓j1, j17, j18, j20, j21, j22, j23, ↓j25, ↓j29, ↓j38, ↓j53, ↓j145, j170, j171, j173, j174, ↓reduceIte, Nat.reduceEqDiff, Int.reduceNeg]
                  refine CallTo.gen (args := [keysAV (keysIn o.live), .ptr 99 0 []]) (lvH o.last o.max l 100) (lvH o.last o.max l 100) 102 rfl fok20 (by simp -dsimp -implicitDefEqProofs only [↓j25, ↓j29, j173, j174, ↓reduceIte, Nat.reduceEqDiff, Int.reduceNeg]) (notup2 (fun vs h => by cases h) fun vs h => by cases h) hli (SubH.of (by simp -dsimp -implicitDefEqProofs only [↓j27, ↓reduceIte, Nat.reduceEqDiff, j182, j204, j205, lvH])) ⟨by simp, put_lv⟩ ?_
                  simp -dsimp -implicitDefEqProofs only [↓j0, ↓j1, ↓j7, ↓j9, ↓j13, ↓j15, j17, j18, j20, j21, j22, j23, ↓j25, ↓j29, ↓j30, j33, ↓j38, ↓j39, ↓j48, ↓j55, j84, ↓j89, ↓j145, ↓j146, ↓j148, ↓j149, j154, j170, j171, j173, j174, ↓reduceIte, Nat.reduceEqDiff, j185, j193, Int.reduceNeg, lvH]
                  exact ⟨n - 1, plSt last o.max ops o l (i + 1), by omega, ⟨o, l, i + 1, ho1, hrel1, by omega, hcnt1, hmx1, rfl⟩, Wk.trans (Wk.mk (s' := ⟨237, plT last o.max ops (i + 1), plG o l 100, 102⟩) (SubT.spec (by simp -dsimp -implicitDefEqProofs only [↓j25, reduceCtorEq, ↓reduceIte, Nat.reduceEqDiff, j182, Int.reduceNeg, j202, j203, plT, hw] <;> simp)) (SubH.spec (by simp -dsimp -implicitDefEqProofs only [↓j27, ↓reduceIte, Nat.reduceEqDiff, j182, j204, j205, plG, ro_lv hp1, lvH] <;> simp)) (Nat.le_refl _) rfl) pl_gc⟩
          · first
              | exfalso; omega
              | skip
                rw [if_pos hlm3] at fNx
                have hpp : o.pubP y = (1, o) := by rw [fPub, fNx, if_pos (.inl (by decide))]
                have hpb := pub_spec o ho y (by omega)
                rw [hpp] at hpb
                have hpb : ACall Try.prog 11 [.ptr 2 0 [], .int .u32 (y : Nat)] (orH o) (.int .i64 1) (orH o) := hpb
                have ho1 := ho
                have hrel1 := hrel
                have hcnt1 : o.count ≤ i + 1 := by omega
                have hl1 : o.last = o.last := rfl
                have hmx1 : o.max = o.max := rfl
                have hp1 := hp
                simp -dsimp -implicitDefEqProofs only [↓j0, ↓j1, ↓j2, ↓j7, ↓j9, ↓j12, ↓j13, ↓j14, ↓j15, j17, j18, j20, j21, j22, j23, ↓j25, ↓j27, ↓j29, ↓j30, j32, j33, ↓j38, ↓j39, ↓j40, ↓j43, ↓j45, ↓j48, ↓j50, ↓j53, ↓j55, ↓j57, ↓j76, ↓j79, j82, j83, j84, j85, ↓j89, ↓j90, j130, ↓j145, ↓j146, ↓j147, ↓j148, ↓j149, ↓j150, ↓j151, ↓j153, j157, j158, j162, AV.proj, AV.offOf, AV.size, AV.sizeL, j163, j164, j166, j167, j170, j171, j173, j174, j175, ↓reduceIte, Nat.reduceEqDiff, Int.reduceLE, j182, j185, j192, j194, j195, j196, j197, Int.reduceNeg, j212, ↓j225, j250, j261, j291, j296, j299, j370, j380, bb1, n0, g0, g1, g2, wy, g3]
                refine CallTo.gen (args := [.ptr 2 0 [], .int .u32 (y : Nat)]) (orH o) (orH o) 102 rfl fok11 (by simp -dsimp -implicitDefEqProofs only [↓j25, ↓j29, j173, j174, ↓reduceIte, Nat.reduceEqDiff, Int.reduceNeg]) (notup2 (fun vs h => by cases h) fun vs h => by cases h) hpb (SubH.of (by simp -dsimp -implicitDefEqProofs only [↓j27, ↓reduceIte, Nat.reduceEqDiff, j182, j204, j205])) ⟨by simp, put_or⟩ ?_
                simp -dsimp -implicitDefEqProofs only [↓j0, ↓j1, ↓j2, ↓j4, ↓j7, ↓j8, ↓j9, ↓j12, ↓j13, ↓j15, j17, j18, j20, j21, j22, j23, j24, ↓j25, ↓j27, ↓j29, ↓j30, j32, j33, ↓j38, ↓j39, ↓j40, ↓j43, ↓j45, ↓j48, ↓j53, ↓j56, ↓j76, ↓j79, j82, ↓j89, j130, ↓j145, ↓j146, ↓j148, ↓j149, ↓j150, ↓j153, j158, j159, AV.proj, AV.offOf, AV.sizeL, j163, j164, j167, j170, j171, j172, j173, j174, j175, reduceCtorEq, ↓reduceIte, Nat.reduceEqDiff, j182, j185, j197, Int.reduceNeg, j260, j282, n1, b2]
                have hls := last_spec o
                have hho := hz_spec o ho1
                have hrz := hrel1.hz ho1
                have hks := hrel1.keys ho1
                have hk8 : (keysIn o.live).length ≤ 8 := by rw [keysIn_len]; exact ho1.few
                have hlv := live_spec o ho1
                have hcl1 : (l : List Tx).length ≤ 1000 := by rw [hrel1.cnt]; have := hcnt1; omega
                have hrh := rhz100 o.last o.max l hcl1 hp1
                have hli := lives100 (keysIn o.live) o.last o.max l hcl1 hp1 hks hk8
                rw [hl1] at hrz hls
                rw [hrz] at hrh
                refine CallTo.gen (args := [.ptr 2 0 []]) (orH o) (orH o) 102 rfl fok12 (by simp -dsimp -implicitDefEqProofs only [↓j25, ↓j29, j173, j174, ↓reduceIte, Int.reduceNeg]) (notup1 fun vs h => by cases h) hls (SubH.of (by simp -dsimp -implicitDefEqProofs only [↓j27, ↓reduceIte, Nat.reduceEqDiff, j182, j204, j205])) ⟨by simp, put_or⟩ ?_
                simp -dsimp -implicitDefEqProofs only [↓j4, ↓j5, j17, j18, j20, j21, j22, j23, j24, ↓j25, ↓j27, ↓j29, ↓j38, ↓j43, ↓j45, ↓j48, ↓j53, ↓j56, ↓j76, ↓j79, ↓j89, j130, ↓j145, ↓j146, ↓j148, ↓j151, ↓j153, j158, AV.proj, AV.offOf, AV.sizeL, j163, j164, j167, j170, j171, j172, j173, j174, j175, ↓reduceIte, Nat.reduceEqDiff, j182, j185, j197, Int.reduceNeg, j260, j282, nn]
                refine CallTo.gen (args := [.ptr 2 0 []]) (orH o) (orH o) 102 rfl fok18 (by simp -dsimp -implicitDefEqProofs only [↓j25, ↓j29, j173, j174, ↓reduceIte, Int.reduceNeg]) (notup1 fun vs h => by cases h) hho (SubH.of (by simp -dsimp -implicitDefEqProofs only [↓j27, ↓reduceIte, Nat.reduceEqDiff, j182, j204, j205])) ⟨by simp, put_or⟩ ?_
                simp -dsimp -implicitDefEqProofs only [↓j5, j17, j18, j20, j21, j22, j23, j24, ↓j25, ↓j29, ↓j38, ↓j53, ↓j145, ↓j148, ↓j151, j163, j164, j170, j171, j172, j173, j174, j175, ↓reduceIte, Nat.reduceEqDiff, Int.reduceNeg]
                refine CallTo.gen (args := [.ptr 99 0 []]) (lvH o.last o.max l 100) (lvH o.last o.max l 100) 102 rfl fok19 (by simp -dsimp -implicitDefEqProofs only [↓j25, ↓j29, j173, j174, ↓reduceIte, Int.reduceNeg]) (notup1 fun vs h => by cases h) hrh (SubH.of (by simp -dsimp -implicitDefEqProofs only [↓j27, ↓reduceIte, Nat.reduceEqDiff, j182, j204, j205, lvH])) ⟨by simp, put_lv⟩ ?_
                simp -dsimp -implicitDefEqProofs only [↓j3, ↓j4, ↓j5, j17, j18, j20, j21, j22, j23, j24, ↓j25, ↓j29, ↓j30, j32, ↓j40, ↓j48, j83, ↓j89, ↓j145, ↓j146, ↓j148, ↓j151, j158, j163, j164, j170, j171, j172, j173, j174, j175, ↓reduceIte, Nat.reduceEqDiff, j185, j195, Int.reduceNeg, nn, lvH]
                refine ⟨by kernel_rfl, ?_⟩
                simp -dsimp -implicitDefEqProofs only [↓j1, ↓j7, ↓j9, ↓j12, ↓j13, ↓j15, j17, j18, j20, ↓j25, ↓j29, ↓j38, ↓j53, ↓j145, ↓j148, ↓j149, j171, ↓reduceIte, Nat.reduceEqDiff, Int.reduceNeg]
                refine CallTo.gen (args := [.ptr 2 0 []]) (orH o) (orH o) 102 rfl fok21 (by simp -dsimp -implicitDefEqProofs only [↓j25, ↓j29, j173, j174, ↓reduceIte, Int.reduceNeg]) (notup1 fun vs h => by cases h) hlv (SubH.of (by simp -dsimp -implicitDefEqProofs only [↓j27, ↓reduceIte, Nat.reduceEqDiff, j182, j204, j205])) ⟨by simp, put_or⟩ ?_
                simp -dsimp -implicitDefEqProofs only [↓j1, j17, j18, j20, j21, j22, j23, ↓j25, ↓j29, ↓j38, ↓j53, ↓j145, j170, j171, j173, j174, ↓reduceIte, Nat.reduceEqDiff, Int.reduceNeg]
                refine CallTo.gen (args := [keysAV (keysIn o.live), .ptr 99 0 []]) (lvH o.last o.max l 100) (lvH o.last o.max l 100) 102 rfl fok20 (by simp -dsimp -implicitDefEqProofs only [↓j25, ↓j29, j173, j174, ↓reduceIte, Nat.reduceEqDiff, Int.reduceNeg]) (notup2 (fun vs h => by cases h) fun vs h => by cases h) hli (SubH.of (by simp -dsimp -implicitDefEqProofs only [↓j27, ↓reduceIte, Nat.reduceEqDiff, j182, j204, j205, lvH])) ⟨by simp, put_lv⟩ ?_
                simp -dsimp -implicitDefEqProofs only [↓j0, ↓j1, ↓j7, ↓j9, ↓j13, ↓j15, j17, j18, j20, j21, j22, j23, ↓j25, ↓j29, ↓j30, j33, ↓j38, ↓j39, ↓j48, ↓j55, j84, ↓j89, ↓j145, ↓j146, ↓j148, ↓j149, j154, j170, j171, j173, j174, ↓reduceIte, Nat.reduceEqDiff, j185, j193, Int.reduceNeg, lvH]
                exact ⟨n - 1, plSt last o.max ops o l (i + 1), by omega, ⟨o, l, i + 1, ho1, hrel1, by omega, hcnt1, hmx1, rfl⟩, Wk.trans (Wk.mk (s' := ⟨237, plT last o.max ops (i + 1), plG o l 100, 102⟩) (SubT.spec (by simp -dsimp -implicitDefEqProofs only [↓j25, reduceCtorEq, ↓reduceIte, Nat.reduceEqDiff, j182, Int.reduceNeg, j202, j203, plT, hw] <;> simp)) (SubH.spec (by simp -dsimp -implicitDefEqProofs only [↓j27, ↓reduceIte, Nat.reduceEqDiff, j182, j204, j205, plG, ro_lv hp1, lvH] <;> simp)) (Nat.le_refl _) rfl) pl_gc⟩
        have g2 : (x.1 == 2) = false := by rw [beq_eq_false_iff_ne]; exact k2
        by_cases k3 : x.1 = 3
        · have g3 : (x.1 == 3) = true := by rw [beq_iff_eq]; exact k3
          rcases Nat.lt_or_ge o.last o.max with hq | hq
          · first
              | exfalso; omega
              | skip
                rw [if_neg hlm3] at fNx
                have hpp : o.pubP (o.last + 1) = (0, { o with last := o.last + 1 }) := by rw [fPub, fNx, if_neg (by simp)]
                have hpb := pub_spec o ho (o.last + 1) (by omega)
                have hpo := pub_ok ho (o.last + 1)
                rw [hpp] at hpb hpo
                obtain ⟨o1, ho1e⟩ : ∃ o1, ({ o with last := (o.last + 1) } : OS) = o1 := ⟨_, rfl⟩
                have ho1 : o1.Ok := ho1e ▸ hpo
                have hrel1 : Rel o1 l := ho1e ▸ hrel.pub (o.last + 1)
                have hcnt1 : o1.count ≤ i + 1 := by rw [← ho1e]; show o.count ≤ i + 1; omega
                have hl1 : o1.last = (o.last + 1) := by rw [← ho1e]
                have hmx1 : o1.max = o.max := by rw [← ho1e]
                have hpb : ACall Try.prog 11 [.ptr 2 0 [], .int .u32 ((o.last + 1 : Nat) : Int)] (orH o) (.int .i64 0) (orH o1) := by rw [← ho1e]; exact hpb
                have hp1 := hp
                simp -dsimp -implicitDefEqProofs only [↓j0, ↓j1, ↓j2, ↓j7, ↓j9, ↓j12, ↓j13, ↓j14, ↓j15, j17, j18, j20, j21, j22, j23, ↓j25, ↓j27, ↓j29, ↓j30, j32, j33, ↓j38, ↓j39, ↓j40, ↓j43, ↓j45, ↓j48, ↓j50, ↓j53, ↓j55, ↓j57, ↓j76, ↓j79, j82, j83, j84, j85, ↓j89, ↓j90, j130, ↓j145, ↓j146, ↓j147, ↓j148, ↓j149, ↓j150, ↓j151, ↓j153, j157, j158, j162, AV.proj, AV.offOf, AV.size, AV.sizeL, j163, j164, j166, j167, j170, j171, j173, j174, j175, ↓reduceIte, Nat.reduceEqDiff, Int.reduceLE, j182, j185, j192, j194, j195, j196, j197, Int.reduceNeg, j212, ↓j225, j250, j261, j291, j296, j299, j370, j380, bb1, n0, g0, g1, g2, g3, wy]
                refine CallTo.gen (args := [.ptr 2 0 [], .int .u32 ((o.last + 1 : Nat) : Int)]) (orH o) (orH o1) 102 rfl fok11 (by simp -dsimp -implicitDefEqProofs only [↓j25, ↓j29, j173, j174, ↓reduceIte, Nat.reduceEqDiff, Int.reduceNeg]) (notup2 (fun vs h => by cases h) fun vs h => by cases h) hpb (SubH.of (by simp -dsimp -implicitDefEqProofs only [↓j27, ↓reduceIte, Nat.reduceEqDiff, j182, j204, j205])) ⟨by simp, put_or⟩ ?_
                have ye : ((((o.last + 1) : Nat) : Int) == ((o.last + 1 : Nat) : Int)) = true := by rw [beq_iff_eq] <;> omega
                simp -dsimp -implicitDefEqProofs only [↓j0, ↓j1, ↓j2, ↓j4, ↓j7, ↓j8, ↓j9, ↓j12, ↓j13, ↓j15, j17, j18, j19, j20, j21, j22, j23, j24, ↓j25, ↓j27, ↓j29, ↓j30, j32, j33, ↓j38, ↓j39, ↓j40, ↓j43, ↓j44, ↓j45, ↓j48, ↓j53, ↓j56, ↓j76, ↓j78, ↓j79, j83, ↓j89, j130, ↓j145, ↓j146, ↓j147, ↓j148, ↓j149, ↓j150, ↓j153, j154, j157, j158, j159, AV.proj, AV.offOf, AV.upd, AV.size, AV.sizeL, AV.layable, j163, j164, j167, j169, j170, j171, j172, j173, j174, j175, reduceCtorEq, ↓reduceIte, Nat.reduceEqDiff, j182, j185, j197, Int.reduceNeg, j259, j260, j282, n0, b2, w1, ye]
                have hls := last_spec o1
                have hho := hz_spec o1 ho1
                have hrz := hrel1.hz ho1
                have hks := hrel1.keys ho1
                have hk8 : (keysIn o1.live).length ≤ 8 := by rw [keysIn_len]; exact ho1.few
                have hlv := live_spec o1 ho1
                have hcl1 : (l : List Tx).length ≤ 1000 := by rw [hrel1.cnt]; have := hcnt1; omega
                have hrh := rhz100 (o.last + 1) o.max l hcl1 hp1
                have hli := lives100 (keysIn o1.live) (o.last + 1) o.max l hcl1 hp1 hks hk8
                rw [hl1] at hrz hls
                rw [hrz] at hrh
                refine CallTo.gen (args := [.ptr 2 0 []]) (orH o1) (orH o1) 102 rfl fok12 (by simp -dsimp -implicitDefEqProofs only [↓j25, ↓j29, j173, j174, ↓reduceIte, Int.reduceNeg]) (notup1 fun vs h => by cases h) hls (SubH.of (by simp -dsimp -implicitDefEqProofs only [↓j27, ↓reduceIte, Nat.reduceEqDiff, j182, j204, j205])) ⟨by simp, put_or⟩ ?_
                simp -dsimp -implicitDefEqProofs only [↓j4, ↓j5, j17, j18, j20, j21, j22, j23, j24, ↓j25, ↓j27, ↓j29, ↓j38, ↓j43, ↓j45, ↓j48, ↓j53, ↓j56, ↓j76, ↓j79, ↓j89, j130, ↓j145, ↓j146, ↓j148, ↓j151, ↓j153, j158, AV.proj, AV.offOf, AV.sizeL, j163, j164, j167, j170, j171, j172, j173, j174, j175, ↓reduceIte, Nat.reduceEqDiff, j182, j185, j197, Int.reduceNeg, j260, j282, nn]
                refine CallTo.gen (args := [.ptr 2 0 []]) (orH o1) (orH o1) 102 rfl fok18 (by simp -dsimp -implicitDefEqProofs only [↓j25, ↓j29, j173, j174, ↓reduceIte, Int.reduceNeg]) (notup1 fun vs h => by cases h) hho (SubH.of (by simp -dsimp -implicitDefEqProofs only [↓j27, ↓reduceIte, Nat.reduceEqDiff, j182, j204, j205])) ⟨by simp, put_or⟩ ?_
                simp -dsimp -implicitDefEqProofs only [↓j5, j17, j18, j20, j21, j22, j23, j24, ↓j25, ↓j29, ↓j38, ↓j53, ↓j145, ↓j148, ↓j151, j163, j164, j170, j171, j172, j173, j174, j175, ↓reduceIte, Nat.reduceEqDiff, Int.reduceNeg]
                refine CallTo.gen (args := [.ptr 99 0 []]) (lvH (o.last + 1) o.max l 100) (lvH (o.last + 1) o.max l 100) 102 rfl fok19 (by simp -dsimp -implicitDefEqProofs only [↓j25, ↓j29, j173, j174, ↓reduceIte, Int.reduceNeg]) (notup1 fun vs h => by cases h) hrh (SubH.of (by simp -dsimp -implicitDefEqProofs only [↓j27, ↓reduceIte, Nat.reduceEqDiff, j182, j204, j205, lvH])) ⟨by simp, put_lv⟩ ?_
                simp -dsimp -implicitDefEqProofs only [↓j3, ↓j4, ↓j5, j17, j18, j20, j21, j22, j23, j24, ↓j25, ↓j29, ↓j30, j32, ↓j40, ↓j48, j83, ↓j89, ↓j145, ↓j146, ↓j148, ↓j151, j158, j163, j164, j170, j171, j172, j173, j174, j175, ↓reduceIte, Nat.reduceEqDiff, j185, j195, Int.reduceNeg, nn, lvH]
                refine ⟨by kernel_rfl, ?_⟩
                simp -dsimp -implicitDefEqProofs only [↓j1, ↓j7, ↓j9, ↓j12, ↓j13, ↓j15, j17, j18, j20, ↓j25, ↓j29, ↓j38, ↓j53, ↓j145, ↓j148, ↓j149, j171, ↓reduceIte, Nat.reduceEqDiff, Int.reduceNeg]
                refine CallTo.gen (args := [.ptr 2 0 []]) (orH o1) (orH o1) 102 rfl fok21 (by simp -dsimp -implicitDefEqProofs only [↓j25, ↓j29, j173, j174, ↓reduceIte, Int.reduceNeg]) (notup1 fun vs h => by cases h) hlv (SubH.of (by simp -dsimp -implicitDefEqProofs only [↓j27, ↓reduceIte, Nat.reduceEqDiff, j182, j204, j205])) ⟨by simp, put_or⟩ ?_
                simp -dsimp -implicitDefEqProofs only [↓j1, j17, j18, j20, j21, j22, j23, ↓j25, ↓j29, ↓j38, ↓j53, ↓j145, j170, j171, j173, j174, ↓reduceIte, Nat.reduceEqDiff, Int.reduceNeg]
                refine CallTo.gen (args := [keysAV (keysIn o1.live), .ptr 99 0 []]) (lvH (o.last + 1) o.max l 100) (lvH (o.last + 1) o.max l 100) 102 rfl fok20 (by simp -dsimp -implicitDefEqProofs only [↓j25, ↓j29, j173, j174, ↓reduceIte, Nat.reduceEqDiff, Int.reduceNeg]) (notup2 (fun vs h => by cases h) fun vs h => by cases h) hli (SubH.of (by simp -dsimp -implicitDefEqProofs only [↓j27, ↓reduceIte, Nat.reduceEqDiff, j182, j204, j205, lvH])) ⟨by simp, put_lv⟩ ?_
                simp -dsimp -implicitDefEqProofs only [↓j0, ↓j1, ↓j7, ↓j9, ↓j13, ↓j15, j17, j18, j20, j21, j22, j23, ↓j25, ↓j29, ↓j30, j33, ↓j38, ↓j39, ↓j48, ↓j55, j84, ↓j89, ↓j145, ↓j146, ↓j148, ↓j149, j154, j170, j171, j173, j174, ↓reduceIte, Nat.reduceEqDiff, j185, j193, Int.reduceNeg, lvH]
                exact ⟨n - 1, plSt last o.max ops o1 l (i + 1), by omega, ⟨o1, l, i + 1, ho1, hrel1, by omega, hcnt1, hmx1, rfl⟩, Wk.trans (Wk.mk (s' := ⟨237, plT last o.max ops (i + 1), plG o1 l 100, 102⟩) (SubT.spec (by simp -dsimp -implicitDefEqProofs only [↓j25, reduceCtorEq, ↓reduceIte, Nat.reduceEqDiff, j182, Int.reduceNeg, j202, j203, plT, hw] <;> simp)) (SubH.spec (by simp -dsimp -implicitDefEqProofs only [↓j27, ↓reduceIte, Nat.reduceEqDiff, j182, j204, j205, plG, ro_lv hp1, lvH, hl1, hmx1] <;> simp)) (Nat.le_refl _) rfl) pl_gc⟩
          · first
              | exfalso; omega
              | skip
                rw [if_pos hlm3] at fNx
                have hpp : o.pubP 0 = (1, o) := by rw [fPub, fNx, if_pos (.inl (by decide))]
                have hpb := pub_spec o ho 0 (by omega)
                rw [hpp] at hpb
                have hpb : ACall Try.prog 11 [.ptr 2 0 [], .int .u32 0] (orH o) (.int .i64 1) (orH o) := hpb
                have ho1 := ho
                have hrel1 := hrel
                have hcnt1 : o.count ≤ i + 1 := by omega
                have hl1 : o.last = o.last := rfl
                have hmx1 : o.max = o.max := rfl
                have hp1 := hp
                simp -dsimp -implicitDefEqProofs only [↓j0, ↓j1, ↓j2, ↓j7, ↓j9, ↓j12, ↓j13, ↓j14, ↓j15, j17, j18, j20, j21, j22, j23, ↓j25, ↓j27, ↓j29, ↓j30, j32, j33, ↓j38, ↓j39, ↓j40, ↓j43, ↓j45, ↓j48, ↓j50, ↓j53, ↓j55, ↓j57, ↓j76, ↓j79, j82, j83, j84, j85, ↓j89, ↓j90, j130, ↓j145, ↓j146, ↓j147, ↓j148, ↓j149, ↓j150, ↓j151, ↓j153, j157, j158, j162, AV.proj, AV.offOf, AV.size, AV.sizeL, j163, j164, j166, j167, j170, j171, j173, j174, j175, ↓reduceIte, Nat.reduceEqDiff, Int.reduceLE, j182, j185, j192, j194, j195, j196, j197, Int.reduceNeg, j212, ↓j225, j250, j261, j291, j296, j299, j370, j380, bb1, n0, g0, g1, g2, g3, wy]
                refine CallTo.gen (args := [.ptr 2 0 [], .int .u32 0]) (orH o) (orH o) 102 rfl fok11 (by simp -dsimp -implicitDefEqProofs only [↓j25, ↓j29, j173, j174, ↓reduceIte, Nat.reduceEqDiff, Int.reduceNeg]) (notup2 (fun vs h => by cases h) fun vs h => by cases h) hpb (SubH.of (by simp -dsimp -implicitDefEqProofs only [↓j27, ↓reduceIte, Nat.reduceEqDiff, j182, j204, j205])) ⟨by simp, put_or⟩ ?_
                simp -dsimp -implicitDefEqProofs only [↓j0, ↓j1, ↓j2, ↓j4, ↓j7, ↓j8, ↓j9, ↓j12, ↓j13, ↓j15, j17, j18, j20, j21, j22, j23, j24, ↓j25, ↓j27, ↓j29, ↓j30, j32, j33, ↓j38, ↓j39, ↓j40, ↓j43, ↓j45, ↓j48, ↓j53, ↓j56, ↓j76, ↓j79, j82, ↓j89, j130, ↓j145, ↓j146, ↓j148, ↓j149, ↓j150, ↓j153, j158, j159, AV.proj, AV.offOf, AV.sizeL, j163, j164, j167, j170, j171, j172, j173, j174, j175, reduceCtorEq, ↓reduceIte, Nat.reduceEqDiff, j182, j185, j197, Int.reduceNeg, j260, j282, n1, b2]
                have hls := last_spec o
                have hho := hz_spec o ho1
                have hrz := hrel1.hz ho1
                have hks := hrel1.keys ho1
                have hk8 : (keysIn o.live).length ≤ 8 := by rw [keysIn_len]; exact ho1.few
                have hlv := live_spec o ho1
                have hcl1 : (l : List Tx).length ≤ 1000 := by rw [hrel1.cnt]; have := hcnt1; omega
                have hrh := rhz100 o.last o.max l hcl1 hp1
                have hli := lives100 (keysIn o.live) o.last o.max l hcl1 hp1 hks hk8
                rw [hl1] at hrz hls
                rw [hrz] at hrh
                refine CallTo.gen (args := [.ptr 2 0 []]) (orH o) (orH o) 102 rfl fok12 (by simp -dsimp -implicitDefEqProofs only [↓j25, ↓j29, j173, j174, ↓reduceIte, Int.reduceNeg]) (notup1 fun vs h => by cases h) hls (SubH.of (by simp -dsimp -implicitDefEqProofs only [↓j27, ↓reduceIte, Nat.reduceEqDiff, j182, j204, j205])) ⟨by simp, put_or⟩ ?_
                simp -dsimp -implicitDefEqProofs only [↓j4, ↓j5, j17, j18, j20, j21, j22, j23, j24, ↓j25, ↓j27, ↓j29, ↓j38, ↓j43, ↓j45, ↓j48, ↓j53, ↓j56, ↓j76, ↓j79, ↓j89, j130, ↓j145, ↓j146, ↓j148, ↓j151, ↓j153, j158, AV.proj, AV.offOf, AV.sizeL, j163, j164, j167, j170, j171, j172, j173, j174, j175, ↓reduceIte, Nat.reduceEqDiff, j182, j185, j197, Int.reduceNeg, j260, j282, nn]
                refine CallTo.gen (args := [.ptr 2 0 []]) (orH o) (orH o) 102 rfl fok18 (by simp -dsimp -implicitDefEqProofs only [↓j25, ↓j29, j173, j174, ↓reduceIte, Int.reduceNeg]) (notup1 fun vs h => by cases h) hho (SubH.of (by simp -dsimp -implicitDefEqProofs only [↓j27, ↓reduceIte, Nat.reduceEqDiff, j182, j204, j205])) ⟨by simp, put_or⟩ ?_
                simp -dsimp -implicitDefEqProofs only [↓j5, j17, j18, j20, j21, j22, j23, j24, ↓j25, ↓j29, ↓j38, ↓j53, ↓j145, ↓j148, ↓j151, j163, j164, j170, j171, j172, j173, j174, j175, ↓reduceIte, Nat.reduceEqDiff, Int.reduceNeg]
                refine CallTo.gen (args := [.ptr 99 0 []]) (lvH o.last o.max l 100) (lvH o.last o.max l 100) 102 rfl fok19 (by simp -dsimp -implicitDefEqProofs only [↓j25, ↓j29, j173, j174, ↓reduceIte, Int.reduceNeg]) (notup1 fun vs h => by cases h) hrh (SubH.of (by simp -dsimp -implicitDefEqProofs only [↓j27, ↓reduceIte, Nat.reduceEqDiff, j182, j204, j205, lvH])) ⟨by simp, put_lv⟩ ?_
                simp -dsimp -implicitDefEqProofs only [↓j3, ↓j4, ↓j5, j17, j18, j20, j21, j22, j23, j24, ↓j25, ↓j29, ↓j30, j32, ↓j40, ↓j48, j83, ↓j89, ↓j145, ↓j146, ↓j148, ↓j151, j158, j163, j164, j170, j171, j172, j173, j174, j175, ↓reduceIte, Nat.reduceEqDiff, j185, j195, Int.reduceNeg, nn, lvH]
                refine ⟨by kernel_rfl, ?_⟩
                simp -dsimp -implicitDefEqProofs only [↓j1, ↓j7, ↓j9, ↓j12, ↓j13, ↓j15, j17, j18, j20, ↓j25, ↓j29, ↓j38, ↓j53, ↓j145, ↓j148, ↓j149, j171, ↓reduceIte, Nat.reduceEqDiff, Int.reduceNeg]
                refine CallTo.gen (args := [.ptr 2 0 []]) (orH o) (orH o) 102 rfl fok21 (by simp -dsimp -implicitDefEqProofs only [↓j25, ↓j29, j173, j174, ↓reduceIte, Int.reduceNeg]) (notup1 fun vs h => by cases h) hlv (SubH.of (by simp -dsimp -implicitDefEqProofs only [↓j27, ↓reduceIte, Nat.reduceEqDiff, j182, j204, j205])) ⟨by simp, put_or⟩ ?_
                simp -dsimp -implicitDefEqProofs only [↓j1, j17, j18, j20, j21, j22, j23, ↓j25, ↓j29, ↓j38, ↓j53, ↓j145, j170, j171, j173, j174, ↓reduceIte, Nat.reduceEqDiff, Int.reduceNeg]
                refine CallTo.gen (args := [keysAV (keysIn o.live), .ptr 99 0 []]) (lvH o.last o.max l 100) (lvH o.last o.max l 100) 102 rfl fok20 (by simp -dsimp -implicitDefEqProofs only [↓j25, ↓j29, j173, j174, ↓reduceIte, Nat.reduceEqDiff, Int.reduceNeg]) (notup2 (fun vs h => by cases h) fun vs h => by cases h) hli (SubH.of (by simp -dsimp -implicitDefEqProofs only [↓j27, ↓reduceIte, Nat.reduceEqDiff, j182, j204, j205, lvH])) ⟨by simp, put_lv⟩ ?_
                simp -dsimp -implicitDefEqProofs only [↓j0, ↓j1, ↓j7, ↓j9, ↓j13, ↓j15, j17, j18, j20, j21, j22, j23, ↓j25, ↓j29, ↓j30, j33, ↓j38, ↓j39, ↓j48, ↓j55, j84, ↓j89, ↓j145, ↓j146, ↓j148, ↓j149, j154, j170, j171, j173, j174, ↓reduceIte, Nat.reduceEqDiff, j185, j193, Int.reduceNeg, lvH]
                exact ⟨n - 1, plSt last o.max ops o l (i + 1), by omega, ⟨o, l, i + 1, ho1, hrel1, by omega, hcnt1, hmx1, rfl⟩, Wk.trans (Wk.mk (s' := ⟨237, plT last o.max ops (i + 1), plG o l 100, 102⟩) (SubT.spec (by simp -dsimp -implicitDefEqProofs only [↓j25, reduceCtorEq, ↓reduceIte, Nat.reduceEqDiff, j182, Int.reduceNeg, j202, j203, plT, hw] <;> simp)) (SubH.spec (by simp -dsimp -implicitDefEqProofs only [↓j27, ↓reduceIte, Nat.reduceEqDiff, j182, j204, j205, plG, ro_lv hp1, lvH] <;> simp)) (Nat.le_refl _) rfl) pl_gc⟩
        have g3 : (x.1 == 3) = false := by rw [beq_eq_false_iff_ne]; exact k3
        have ho1 := ho
        have hrel1 := hrel
        have hcnt1 : o.count ≤ i + 1 := by omega
        have hl1 : o.last = o.last := rfl
        have hmx1 : o.max = o.max := rfl
        have hp1 := hp
        simp -dsimp -implicitDefEqProofs only [↓j0, ↓j1, ↓j2, ↓j4, ↓j7, ↓j8, ↓j9, ↓j12, ↓j13, ↓j14, ↓j15, j17, j18, j20, j21, j22, j23, j24, ↓j25, ↓j27, ↓j29, ↓j30, j32, j33, ↓j38, ↓j39, ↓j40, ↓j43, ↓j45, ↓j48, ↓j53, ↓j55, ↓j57, ↓j76, ↓j79, j82, j83, j84, j85, ↓j89, ↓j90, j130, ↓j145, ↓j146, ↓j147, ↓j148, ↓j149, ↓j150, ↓j151, ↓j153, j157, j158, j162, AV.proj, AV.offOf, AV.sizeL, j163, j164, j167, j170, j171, j172, j173, j174, j175, ↓reduceIte, Nat.reduceEqDiff, Int.reduceLE, j182, j185, j192, j194, j195, j197, Int.reduceNeg, j212, j250, j296, j370, bb1, n0, g0, g1, g2, g3]
        have hls := last_spec o
        have hho := hz_spec o ho1
        have hrz := hrel1.hz ho1
        have hks := hrel1.keys ho1
        have hk8 : (keysIn o.live).length ≤ 8 := by rw [keysIn_len]; exact ho1.few
        have hlv := live_spec o ho1
        have hcl1 : (l : List Tx).length ≤ 1000 := by rw [hrel1.cnt]; have := hcnt1; omega
        have hrh := rhz100 o.last o.max l hcl1 hp1
        have hli := lives100 (keysIn o.live) o.last o.max l hcl1 hp1 hks hk8
        rw [hl1] at hrz hls
        rw [hrz] at hrh
        refine CallTo.gen (args := [.ptr 2 0 []]) (orH o) (orH o) 102 rfl fok12 (by simp -dsimp -implicitDefEqProofs only [↓j25, ↓j29, j173, j174, ↓reduceIte, Int.reduceNeg]) (notup1 fun vs h => by cases h) hls (SubH.of (by simp -dsimp -implicitDefEqProofs only [↓j27, ↓reduceIte, Nat.reduceEqDiff, j182, j204, j205])) ⟨by simp, put_or⟩ ?_
        simp -dsimp -implicitDefEqProofs only [↓j4, ↓j5, j17, j18, j20, j21, j22, j23, j24, ↓j25, ↓j27, ↓j29, ↓j38, ↓j43, ↓j45, ↓j48, ↓j53, ↓j56, ↓j76, ↓j79, ↓j89, j130, ↓j145, ↓j146, ↓j148, ↓j151, ↓j153, j158, AV.proj, AV.offOf, AV.sizeL, j163, j164, j167, j170, j171, j172, j173, j174, j175, ↓reduceIte, Nat.reduceEqDiff, j182, j185, j197, Int.reduceNeg, j260, j282, nn]
        refine CallTo.gen (args := [.ptr 2 0 []]) (orH o) (orH o) 102 rfl fok18 (by simp -dsimp -implicitDefEqProofs only [↓j25, ↓j29, j173, j174, ↓reduceIte, Int.reduceNeg]) (notup1 fun vs h => by cases h) hho (SubH.of (by simp -dsimp -implicitDefEqProofs only [↓j27, ↓reduceIte, Nat.reduceEqDiff, j182, j204, j205])) ⟨by simp, put_or⟩ ?_
        simp -dsimp -implicitDefEqProofs only [↓j5, j17, j18, j20, j21, j22, j23, j24, ↓j25, ↓j29, ↓j38, ↓j53, ↓j145, ↓j148, ↓j151, j163, j164, j170, j171, j172, j173, j174, j175, ↓reduceIte, Nat.reduceEqDiff, Int.reduceNeg]
        refine CallTo.gen (args := [.ptr 99 0 []]) (lvH o.last o.max l 100) (lvH o.last o.max l 100) 102 rfl fok19 (by simp -dsimp -implicitDefEqProofs only [↓j25, ↓j29, j173, j174, ↓reduceIte, Int.reduceNeg]) (notup1 fun vs h => by cases h) hrh (SubH.of (by simp -dsimp -implicitDefEqProofs only [↓j27, ↓reduceIte, Nat.reduceEqDiff, j182, j204, j205, lvH])) ⟨by simp, put_lv⟩ ?_
        simp -dsimp -implicitDefEqProofs only [↓j3, ↓j4, ↓j5, j17, j18, j20, j21, j22, j23, j24, ↓j25, ↓j29, ↓j30, j32, ↓j40, ↓j48, j83, ↓j89, ↓j145, ↓j146, ↓j148, ↓j151, j158, j163, j164, j170, j171, j172, j173, j174, j175, ↓reduceIte, Nat.reduceEqDiff, j185, j195, Int.reduceNeg, nn, lvH]
        refine ⟨by kernel_rfl, ?_⟩
        simp -dsimp -implicitDefEqProofs only [↓j1, ↓j7, ↓j9, ↓j12, ↓j13, ↓j15, j17, j18, j20, ↓j25, ↓j29, ↓j38, ↓j53, ↓j145, ↓j148, ↓j149, j171, ↓reduceIte, Nat.reduceEqDiff, Int.reduceNeg]
        refine CallTo.gen (args := [.ptr 2 0 []]) (orH o) (orH o) 102 rfl fok21 (by simp -dsimp -implicitDefEqProofs only [↓j25, ↓j29, j173, j174, ↓reduceIte, Int.reduceNeg]) (notup1 fun vs h => by cases h) hlv (SubH.of (by simp -dsimp -implicitDefEqProofs only [↓j27, ↓reduceIte, Nat.reduceEqDiff, j182, j204, j205])) ⟨by simp, put_or⟩ ?_
        simp -dsimp -implicitDefEqProofs only [↓j1, j17, j18, j20, j21, j22, j23, ↓j25, ↓j29, ↓j38, ↓j53, ↓j145, j170, j171, j173, j174, ↓reduceIte, Nat.reduceEqDiff, Int.reduceNeg]
        refine CallTo.gen (args := [keysAV (keysIn o.live), .ptr 99 0 []]) (lvH o.last o.max l 100) (lvH o.last o.max l 100) 102 rfl fok20 (by simp -dsimp -implicitDefEqProofs only [↓j25, ↓j29, j173, j174, ↓reduceIte, Nat.reduceEqDiff, Int.reduceNeg]) (notup2 (fun vs h => by cases h) fun vs h => by cases h) hli (SubH.of (by simp -dsimp -implicitDefEqProofs only [↓j27, ↓reduceIte, Nat.reduceEqDiff, j182, j204, j205, lvH])) ⟨by simp, put_lv⟩ ?_
        simp -dsimp -implicitDefEqProofs only [↓j0, ↓j1, ↓j7, ↓j9, ↓j13, ↓j15, j17, j18, j20, j21, j22, j23, ↓j25, ↓j29, ↓j30, j33, ↓j38, ↓j39, ↓j48, ↓j55, j84, ↓j89, ↓j145, ↓j146, ↓j148, ↓j149, j154, j170, j171, j173, j174, ↓reduceIte, Nat.reduceEqDiff, j185, j193, Int.reduceNeg, lvH]
        exact ⟨n - 1, plSt last o.max ops o l (i + 1), by omega, ⟨o, l, i + 1, ho1, hrel1, by omega, hcnt1, hmx1, rfl⟩, Wk.trans (Wk.mk (s' := ⟨237, plT last o.max ops (i + 1), plG o l 100, 102⟩) (SubT.spec (by simp -dsimp -implicitDefEqProofs only [↓j25, reduceCtorEq, ↓reduceIte, Nat.reduceEqDiff, j182, Int.reduceNeg, j202, j203, plT, hw] <;> simp)) (SubH.spec (by simp -dsimp -implicitDefEqProofs only [↓j27, ↓reduceIte, Nat.reduceEqDiff, j182, j204, j205, plG, ro_lv hp1, lvH] <;> simp)) (Nat.le_refl _) rfl) pl_gc⟩
  | some s =>
    obtain ⟨k, hk, hnk, hkl, hat0⟩ := hrel.found ho hg
    rw [hg] at fSt
    have hst0 : o.startP x.2 = (s, true) := fSt
    rw [hst0] at hst
    have hst : ACall Try.prog 14 [.ptr 2 0 [], .int .u64 x.2] (orH o) (.tuple [.int .u32 (s : Nat), .bool true]) (orH o) := hst
    have hp : 0 < l.length := by omega
    skip
    have hfacts : ((((o.last : Int) == (o.max : Int)) = true ∧ decide ((o.last : Int) < (o.max : Int)) = false ∧ ((0 : Int) != 0) = false ∧ ACall Try.prog 10 [.ptr 2 0 []] (orH o) (.tuple [.int .u32 0, .int .i64 8]) (orH o) ∧ o.last = o.max) ∨
        (((o.last : Int) == (o.max : Int)) = false ∧ decide ((o.last : Int) < (o.max : Int)) = true ∧ IntKind.u32.wrap ((o.last : Int) + 1) = ((o.last + 1 : Nat) : Int) ∧ ACall Try.prog 10 [.ptr 2 0 []] (orH o) (.tuple [.int .u32 ((o.last + 1 : Nat) : Int), .int .i64 0]) (orH o) ∧ ¬ o.last = o.max)) := by
      by_cases hlm3 : o.last = o.max
      · rw [fNx, if_pos hlm3] at hnx
        exact .inl ⟨by rw [beq_iff_eq]; omega, decide_eq_false (by omega), rfl, hnx, hlm3⟩
      · rw [fNx, if_neg hlm3] at hnx
        exact .inr ⟨by rw [beq_eq_false_iff_ne]; omega, decide_eq_true (by omega), w1 (by omega), hnx, hlm3⟩
    clear hnx w1
    have gk : decide ((0 : Int) ≤ (k : Int)) = true := decide_eq_true (by omega)
    have hkl2 : (k : Int) < (l.length : Int) := by omega
    have hszk := (unif_tx l).sizeL_take (k := k) (by simp; omega)
    have hat := at100 x.2 o.last o.max l (by omega) hp
    rw [hat0] at hat
    have hat : ACall Try.prog 13 [.ptr 99 0 [], .int .u64 x.2] (lvH o.last o.max l 100) (.int .i64 (k : Int)) (lvH o.last o.max l 100) := hat
    rcases hfacts with ⟨b1, b2, w1, hnx, hlm3⟩ | ⟨b1, b2, w1, hnx, hlm3⟩
    all_goals
      simp -dsimp -implicitDefEqProofs only [↓j0, ↓j1, ↓j2, ↓j7, ↓j9, ↓j12, ↓j13, ↓j14, ↓j15, j17, j18, j19, j20, j21, j22, j23, ↓j25, ↓j27, ↓j29, ↓j30, j32, j33, ↓j38, ↓j40, ↓j41, ↓j43, ↓j44, ↓j45, ↓j46, ↓j48, ↓j53, ↓j58, ↓j62, ↓j76, ↓j77, ↓j78, ↓j79, j83, ↓j89, ↓j92, j129, j130, j142, ↓j145, ↓j146, ↓j147, ↓j149, ↓j150, ↓j153, j159, AV.proj, AV.offOf, AV.upd, AV.size, AV.sizeL, AV.layable, j163, j164, j166, j167, j170, j171, j175, j177, reduceCtorEq, ↓reduceIte, Nat.reduceAdd, Nat.reduceEqDiff, j182, j185, j191, j196, j197, j206, j207, j208, j270, j291, j293, j294, j299, j350, j376, e2, hx, hsz, hlt2, plSt, plT, plG, ro_lv hp, lvH]
      refine CallTo.gen (args := [.ptr 99 0 [], .int .u64 x.2]) (lvH o.last o.max l 100) (lvH o.last o.max l 100) 102 rfl fok13 (by simp -dsimp -implicitDefEqProofs only [↓j25, ↓j29, j173, j174, ↓reduceIte, Nat.reduceEqDiff]) (notup2 (fun vs h => by cases h) fun vs h => by cases h) hat (SubH.of (by simp -dsimp -implicitDefEqProofs only [↓j27, ↓reduceIte, Nat.reduceEqDiff, j182, j204, j205, lvH])) ⟨by simp, put_lv⟩ ?_
      simp -dsimp -implicitDefEqProofs only [↓j0, ↓j1, ↓j7, ↓j12, ↓j15, j17, j18, j20, j21, j22, j23, ↓j25, ↓j29, ↓j38, ↓j39, ↓j53, ↓j145, j170, j171, j173, j174, ↓reduceIte, Nat.reduceEqDiff, lvH]
      refine CallTo.gen (args := [.ptr 2 0 []]) (orH o) (orH o) 102 rfl fok10 (by simp -dsimp -implicitDefEqProofs only [↓j25, ↓j29, j173, j174, ↓reduceIte]) (notup1 fun vs h => by cases h) hnx (SubH.of (by simp -dsimp -implicitDefEqProofs only [↓j27, ↓reduceIte, Nat.reduceEqDiff, j182, j204, j205])) ⟨by simp, put_or⟩ ?_
      simp -dsimp -implicitDefEqProofs only [↓j0, ↓j1, ↓j2, ↓j7, ↓j9, ↓j12, ↓j13, ↓j15, j17, j18, j20, j21, j22, j23, ↓j25, ↓j27, ↓j29, ↓j30, j32, j33, ↓j38, ↓j39, ↓j40, ↓j43, ↓j45, ↓j48, ↓j53, ↓j56, ↓j57, ↓j76, ↓j79, j82, j83, j85, ↓j89, j130, ↓j145, ↓j146, ↓j147, ↓j148, ↓j149, ↓j150, ↓j151, ↓j152, ↓j153, j154, j157, j158, j159, AV.proj, AV.offOf, AV.size, AV.sizeL, j163, j164, j166, j167, j170, j171, j173, j174, j175, reduceCtorEq, ↓reduceIte, Nat.reduceEqDiff, j182, j185, j195, j196, j197, j260, j282, j291, j299, n0, n8, nn, b1, b2, w1]
      refine CallTo.gen (args := [.ptr 2 0 [], .int .u64 x.2]) (orH o) (orH o) 102 rfl fok14 (by simp -dsimp -implicitDefEqProofs only [↓j25, ↓j29, j173, j174, ↓reduceIte, Nat.reduceEqDiff]) (notup2 (fun vs h => by cases h) fun vs h => by cases h) hst (SubH.of (by simp -dsimp -implicitDefEqProofs only [↓j27, ↓reduceIte, Nat.reduceEqDiff, j182, j204, j205])) ⟨by simp, put_or⟩ ?_
      by_cases k0 : x.1 = 0
      · have g0 : (x.1 == 0) = true := by rw [beq_iff_eq]; exact k0
        have hb := begin_spec o ho (by omega)
        have hbo := begin_ok ho (by omega)
        have hbc := (begin_count o).1
        obtain ⟨hr1, hr2, hr3, hr4⟩ := hrel.begin ho
        have hrb := rbegin_spec o.last o.max l (by have := hcl; omega)
        have fRb : rbegP o.last l = if 8 ≤ (liveL l).length then ((0, 0, 10), l) else ((l.length + 1, o.last, 0), l ++ [⟨l.length + 1, o.last, true⟩]) := rfl
        have fRn : rbegN l = if 8 ≤ (liveL l).length then 4 else 101 := rfl
        rw [hr2] at hb
        obtain ⟨⟨⟨p, q, f⟩, l1⟩, hr⟩ : ∃ r, rbegP o.last l = r := ⟨_, rfl⟩
        rw [hr] at hb hrb hr1 fRb
        obtain ⟨o1, ho1e⟩ : ∃ o1, o.beginP.2 = o1 := ⟨_, rfl⟩
        rw [ho1e] at hb hbo hbc hr1 hr3 hr4
        have ho1 := hbo
        have hrel1 : Rel o1 l1 := hr1
        have hcnt1 : o1.count ≤ i + 1 := by omega
        have hl1 := hr3
        have hmx1 := hr4
        have hb : ACall Try.prog 15 [.ptr 2 0 []] (orH o) (.tuple [.int .u64 (p : Nat), .int .u32 (q : Nat), .int .i64 (f : Nat)]) (orH o1) := hb
        have hrb : ACall Try.prog 16 [.ptr 99 0 []] (roH o.last o.max l 4) (.tuple [.int .u64 (p : Nat), .int .u32 (q : Nat), .int .i64 (f : Nat)]) (roH o.last o.max l1 (rbegN l)) := hrb
        simp -dsimp -implicitDefEqProofs only [↓j0, ↓j1, ↓j2, ↓j7, ↓j9, ↓j12, ↓j13, ↓j14, ↓j15, j17, j18, j20, j21, j22, j23, ↓j25, ↓j27, ↓j29, ↓j30, j32, j33, ↓j38, ↓j39, ↓j40, ↓j43, ↓j45, ↓j46, ↓j48, ↓j53, ↓j55, ↓j56, ↓j57, ↓j76, ↓j79, j82, j83, j84, j85, ↓j89, ↓j90, ↓j93, j130, j135, ↓j145, ↓j146, ↓j147, ↓j148, ↓j149, ↓j150, ↓j151, ↓j153, j157, j158, j162, AV.proj, AV.offOf, AV.size, AV.sizeL, j163, j164, j166, j167, j170, j171, j173, j174, j175, j177, ↓reduceIte, Nat.reduceAdd, Nat.reduceEqDiff, j182, j185, j191, j193, j195, j196, j197, j206, j207, j208, j212, j250, j260, j276, j277, j288, j296, j309, j370, bb2, nn, hk, hszk, hkl2, g0]
        refine CallTo.gen (args := [.ptr 2 0 []]) (orH o) (orH o1) 102 rfl fok15 (by simp -dsimp -implicitDefEqProofs only [↓j25, ↓j29, j173, j174, ↓reduceIte]) (notup1 fun vs h => by cases h) hb (SubH.of (by simp -dsimp -implicitDefEqProofs only [↓j27, ↓reduceIte, Nat.reduceEqDiff, j182, j204, j205])) ⟨by simp, put_or⟩ ?_
        simp -dsimp -implicitDefEqProofs only [↓j0, ↓j1, ↓j7, ↓j12, ↓j15, j17, j18, j20, j21, j22, j23, ↓j25, ↓j29, ↓j38, ↓j39, ↓j53, ↓j57, j85, ↓j145, j163, j164, j170, j171, j173, j174, ↓reduceIte, Nat.reduceEqDiff]
        by_cases h8 : 8 ≤ (liveL l).length
        · rw [if_pos h8] at fRn fRb
          have hll : l1 = l := by cases fRb; rfl
          subst hll
          have hp1 := hp
          rw [fRn, ro_lv hp] at hrb
          have hrb := hrb.ren swA_swA
          rw [lvH_ren (m := 4) (m' := 100) rfl rfl] at hrb
          have hrb : ACall Try.prog 16 [.ptr 99 0 []] (lvH o.last o.max l1 100) (.tuple [.int .u64 (p : Nat), .int .u32 (q : Nat), .int .i64 (f : Nat)]) (lvH o.last o.max l1 100) := hrb
          refine CallTo.gen (args := [.ptr 99 0 []]) (lvH o.last o.max l1 100) (lvH o.last o.max l1 100) 102 rfl fok16 (by simp -dsimp -implicitDefEqProofs only [↓j25, ↓j29, j173, j174, ↓reduceIte]) (notup1 fun vs h => by cases h) hrb (SubH.of (by simp -dsimp -implicitDefEqProofs only [↓j27, ↓reduceIte, Nat.reduceEqDiff, j182, j204, j205, lvH])) ⟨by simp, put_lv⟩ ?_
          simp -dsimp -implicitDefEqProofs only [↓j0, ↓j1, ↓j2, ↓j4, ↓j7, ↓j8, ↓j9, ↓j12, ↓j13, ↓j15, j17, j18, j20, j21, j22, j23, j24, ↓j25, ↓j29, ↓j30, j32, ↓j38, ↓j39, ↓j40, ↓j48, ↓j53, ↓j57, j83, j85, ↓j89, ↓j145, ↓j146, ↓j148, ↓j149, ↓j151, j158, j163, j164, j170, j171, j172, j173, j174, j175, ↓reduceIte, Nat.reduceEqDiff, j185, j195, nn, lvH]
          have hls := last_spec o1
          have hho := hz_spec o1 ho1
          have hrz := hrel1.hz ho1
          have hks := hrel1.keys ho1
          have hk8 : (keysIn o1.live).length ≤ 8 := by rw [keysIn_len]; exact ho1.few
          have hlv := live_spec o1 ho1
          have hcl1 : (l1 : List Tx).length ≤ 1000 := by rw [hrel1.cnt]; have := hcnt1; omega
          have hrh := rhz100 o.last o.max l1 hcl1 hp1
          have hli := lives100 (keysIn o1.live) o.last o.max l1 hcl1 hp1 hks hk8
          rw [hl1] at hrz hls
          rw [hrz] at hrh
          refine CallTo.gen (args := [.ptr 2 0 []]) (orH o1) (orH o1) 102 rfl fok12 (by simp -dsimp -implicitDefEqProofs only [↓j25, ↓j29, j173, j174, ↓reduceIte]) (notup1 fun vs h => by cases h) hls (SubH.of (by simp -dsimp -implicitDefEqProofs only [↓j27, ↓reduceIte, Nat.reduceEqDiff, j182, j204, j205])) ⟨by simp, put_or⟩ ?_
          simp -dsimp -implicitDefEqProofs only [↓j4, ↓j5, j17, j18, j20, j21, j22, j23, j24, ↓j25, ↓j27, ↓j29, ↓j38, ↓j43, ↓j45, ↓j48, ↓j53, ↓j56, ↓j76, ↓j79, ↓j89, j130, ↓j145, ↓j146, ↓j148, ↓j151, ↓j153, j158, AV.proj, AV.offOf, AV.sizeL, j163, j164, j167, j170, j171, j172, j173, j174, j175, ↓reduceIte, Nat.reduceEqDiff, j182, j185, j197, j260, j282, nn]
          refine CallTo.gen (args := [.ptr 2 0 []]) (orH o1) (orH o1) 102 rfl fok18 (by simp -dsimp -implicitDefEqProofs only [↓j25, ↓j29, j173, j174, ↓reduceIte]) (notup1 fun vs h => by cases h) hho (SubH.of (by simp -dsimp -implicitDefEqProofs only [↓j27, ↓reduceIte, Nat.reduceEqDiff, j182, j204, j205])) ⟨by simp, put_or⟩ ?_
          simp -dsimp -implicitDefEqProofs only [↓j5, j17, j18, j20, j21, j22, j23, j24, ↓j25, ↓j29, ↓j38, ↓j53, ↓j145, ↓j148, ↓j151, j163, j164, j170, j171, j172, j173, j174, j175, ↓reduceIte, Nat.reduceEqDiff]
          refine CallTo.gen (args := [.ptr 99 0 []]) (lvH o.last o.max l1 100) (lvH o.last o.max l1 100) 102 rfl fok19 (by simp -dsimp -implicitDefEqProofs only [↓j25, ↓j29, j173, j174, ↓reduceIte]) (notup1 fun vs h => by cases h) hrh (SubH.of (by simp -dsimp -implicitDefEqProofs only [↓j27, ↓reduceIte, Nat.reduceEqDiff, j182, j204, j205, lvH])) ⟨by simp, put_lv⟩ ?_
          simp -dsimp -implicitDefEqProofs only [↓j3, ↓j4, ↓j5, j17, j18, j20, j21, j22, j23, j24, ↓j25, ↓j29, ↓j30, j32, ↓j40, ↓j48, j83, ↓j89, ↓j145, ↓j146, ↓j148, ↓j151, j158, j163, j164, j170, j171, j172, j173, j174, j175, ↓reduceIte, Nat.reduceEqDiff, j185, j195, nn, lvH]
          refine ⟨by kernel_rfl, ?_⟩
          simp -dsimp -implicitDefEqProofs only [↓j1, ↓j7, ↓j9, ↓j12, ↓j13, ↓j15, j17, j18, j20, ↓j25, ↓j29, ↓j38, ↓j53, ↓j145, ↓j148, ↓j149, j171, ↓reduceIte, Nat.reduceEqDiff]
          refine CallTo.gen (args := [.ptr 2 0 []]) (orH o1) (orH o1) 102 rfl fok21 (by simp -dsimp -implicitDefEqProofs only [↓j25, ↓j29, j173, j174, ↓reduceIte]) (notup1 fun vs h => by cases h) hlv (SubH.of (by simp -dsimp -implicitDefEqProofs only [↓j27, ↓reduceIte, Nat.reduceEqDiff, j182, j204, j205])) ⟨by simp, put_or⟩ ?_
          simp -dsimp -implicitDefEqProofs only [↓j1, j17, j18, j20, j21, j22, j23, ↓j25, ↓j29, ↓j38, ↓j53, ↓j145, j170, j171, j173, j174, ↓reduceIte, Nat.reduceEqDiff]
          refine CallTo.gen (args := [keysAV (keysIn o1.live), .ptr 99 0 []]) (lvH o.last o.max l1 100) (lvH o.last o.max l1 100) 102 rfl fok20 (by simp -dsimp -implicitDefEqProofs only [↓j25, ↓j29, j173, j174, ↓reduceIte, Nat.reduceEqDiff]) (notup2 (fun vs h => by cases h) fun vs h => by cases h) hli (SubH.of (by simp -dsimp -implicitDefEqProofs only [↓j27, ↓reduceIte, Nat.reduceEqDiff, j182, j204, j205, lvH])) ⟨by simp, put_lv⟩ ?_
          simp -dsimp -implicitDefEqProofs only [↓j0, ↓j1, ↓j7, ↓j9, ↓j13, ↓j15, j17, j18, j20, j21, j22, j23, ↓j25, ↓j29, ↓j30, j33, ↓j38, ↓j39, ↓j48, ↓j55, j84, ↓j89, ↓j145, ↓j146, ↓j148, ↓j149, j154, j170, j171, j173, j174, ↓reduceIte, Nat.reduceEqDiff, j185, j193, lvH]
          exact ⟨n - 1, plSt last o.max ops o1 l1 (i + 1), by omega, ⟨o1, l1, i + 1, ho1, hrel1, by omega, hcnt1, hmx1, rfl⟩, Wk.trans (Wk.mk (s' := ⟨237, plT last o.max ops (i + 1), plG o1 l1 100, 102⟩) (SubT.spec (by simp -dsimp -implicitDefEqProofs only [↓j25, reduceCtorEq, ↓reduceIte, Nat.reduceEqDiff, j182, j202, j203, plT, hw] <;> simp)) (SubH.spec (by simp -dsimp -implicitDefEqProofs only [↓j27, ↓reduceIte, Nat.reduceEqDiff, j182, j204, j205, plG, ro_lv hp1, lvH, hl1, hmx1] <;> simp)) (Nat.le_refl _) rfl) pl_gc⟩
        · rw [if_neg h8] at fRn fRb
          have hp1 : 0 < l1.length := by
            have := congrArg (fun r : (Nat × Nat × Nat) × List Tx => r.2.length) fRb
            simp only [List.length_append, List.length_cons, List.length_nil] at this
            omega
          rw [fRn, ro_lv hp, ro_lv hp1] at hrb
          have hrb := hrb.ren swA_swA
          rw [lvH_ren (m := 4) (m' := 100) rfl rfl, lvH_ren (m := 101) (m' := 102) rfl rfl] at hrb
          have hrb : ACall Try.prog 16 [.ptr 99 0 []] (lvH o.last o.max l 100) (.tuple [.int .u64 (p : Nat), .int .u32 (q : Nat), .int .i64 (f : Nat)]) (lvH o.last o.max l1 102) := hrb
          refine CallTo.gen (args := [.ptr 99 0 []]) (lvH o.last o.max l 100) (lvH o.last o.max l1 102) 103 rfl fok16 (by simp -dsimp -implicitDefEqProofs only [↓j25, ↓j29, j173, j174, ↓reduceIte]) (notup1 fun vs h => by cases h) hrb (SubH.of (by simp -dsimp -implicitDefEqProofs only [↓j27, ↓reduceIte, Nat.reduceEqDiff, j182, j204, j205, lvH])) ⟨by simp, put_lvv (Nat.le_refl 102)⟩ ?_
          simp -dsimp -implicitDefEqProofs only [↓j0, ↓j1, ↓j2, ↓j4, ↓j7, ↓j8, ↓j9, ↓j12, ↓j13, ↓j15, j17, j18, j20, j21, j22, j23, j24, ↓j25, ↓j29, ↓j30, j32, ↓j38, ↓j39, ↓j40, ↓j48, ↓j53, ↓j57, j83, j85, ↓j89, ↓j145, ↓j146, ↓j148, ↓j149, ↓j151, j158, j163, j164, j170, j171, j172, j173, j174, j175, ↓reduceIte, Nat.reduceEqDiff, j185, j195, nn, lvH]
          have hls := last_spec o1
          have hho := hz_spec o1 ho1
          have hrz := hrel1.hz ho1
          have hks := hrel1.keys ho1
          have hk8 : (keysIn o1.live).length ≤ 8 := by rw [keysIn_len]; exact ho1.few
          have hlv := live_spec o1 ho1
          have hcl1 : (l1 : List Tx).length ≤ 1000 := by rw [hrel1.cnt]; have := hcnt1; omega
          have hrh := rhz102 o.last o.max l1 hcl1 hp1
          have hli := lives102 (keysIn o1.live) o.last o.max l1 hcl1 hp1 hks hk8
          rw [hl1] at hrz hls
          rw [hrz] at hrh
          refine CallTo.gen (args := [.ptr 2 0 []]) (orH o1) (orH o1) 103 rfl fok12 (by simp -dsimp -implicitDefEqProofs only [↓j25, ↓j29, j173, j174, ↓reduceIte]) (notup1 fun vs h => by cases h) hls (SubH.of (by simp -dsimp -implicitDefEqProofs only [↓j27, ↓reduceIte, Nat.reduceEqDiff, j182, j204, j205])) ⟨by simp, put_or⟩ ?_
          simp -dsimp -implicitDefEqProofs only [↓j4, ↓j5, j17, j18, j20, j21, j22, j23, j24, ↓j25, ↓j27, ↓j29, ↓j38, ↓j43, ↓j45, ↓j48, ↓j53, ↓j56, ↓j76, ↓j79, ↓j89, j130, ↓j145, ↓j146, ↓j148, ↓j151, ↓j153, j158, AV.proj, AV.offOf, AV.sizeL, j163, j164, j167, j170, j171, j172, j173, j174, j175, ↓reduceIte, Nat.reduceEqDiff, j182, j185, j197, j260, j282, nn]
          refine CallTo.gen (args := [.ptr 2 0 []]) (orH o1) (orH o1) 103 rfl fok18 (by simp -dsimp -implicitDefEqProofs only [↓j25, ↓j29, j173, j174, ↓reduceIte]) (notup1 fun vs h => by cases h) hho (SubH.of (by simp -dsimp -implicitDefEqProofs only [↓j27, ↓reduceIte, Nat.reduceEqDiff, j182, j204, j205])) ⟨by simp, put_or⟩ ?_
          simp -dsimp -implicitDefEqProofs only [↓j5, j17, j18, j20, j21, j22, j23, j24, ↓j25, ↓j29, ↓j38, ↓j53, ↓j145, ↓j148, ↓j151, j163, j164, j170, j171, j172, j173, j174, j175, ↓reduceIte, Nat.reduceEqDiff]
          refine CallTo.gen (args := [.ptr 99 0 []]) (lvH o.last o.max l1 102) (lvH o.last o.max l1 102) 103 rfl fok19 (by simp -dsimp -implicitDefEqProofs only [↓j25, ↓j29, j173, j174, ↓reduceIte]) (notup1 fun vs h => by cases h) hrh (SubH.of (by simp -dsimp -implicitDefEqProofs only [↓j27, ↓reduceIte, Nat.reduceEqDiff, j182, j204, j205, lvH])) ⟨by simp, put_lv⟩ ?_
          simp -dsimp -implicitDefEqProofs only [↓j3, ↓j4, ↓j5, j17, j18, j20, j21, j22, j23, j24, ↓j25, ↓j29, ↓j30, j32, ↓j40, ↓j48, j83, ↓j89, ↓j145, ↓j146, ↓j148, ↓j151, j158, j163, j164, j170, j171, j172, j173, j174, j175, ↓reduceIte, Nat.reduceEqDiff, j185, j195, nn, lvH]
          refine ⟨by kernel_rfl, ?_⟩
          simp -dsimp -implicitDefEqProofs only [↓j1, ↓j7, ↓j9, ↓j12, ↓j13, ↓j15, j17, j18, j20, ↓j25, ↓j29, ↓j38, ↓j53, ↓j145, ↓j148, ↓j149, j171, ↓reduceIte, Nat.reduceEqDiff]
          refine CallTo.gen (args := [.ptr 2 0 []]) (orH o1) (orH o1) 103 rfl fok21 (by simp -dsimp -implicitDefEqProofs only [↓j25, ↓j29, j173, j174, ↓reduceIte]) (notup1 fun vs h => by cases h) hlv (SubH.of (by simp -dsimp -implicitDefEqProofs only [↓j27, ↓reduceIte, Nat.reduceEqDiff, j182, j204, j205])) ⟨by simp, put_or⟩ ?_
          simp -dsimp -implicitDefEqProofs only [↓j1, j17, j18, j20, j21, j22, j23, ↓j25, ↓j29, ↓j38, ↓j53, ↓j145, j170, j171, j173, j174, ↓reduceIte, Nat.reduceEqDiff]
          refine CallTo.gen (args := [keysAV (keysIn o1.live), .ptr 99 0 []]) (lvH o.last o.max l1 102) (lvH o.last o.max l1 102) 103 rfl fok20 (by simp -dsimp -implicitDefEqProofs only [↓j25, ↓j29, j173, j174, ↓reduceIte, Nat.reduceEqDiff]) (notup2 (fun vs h => by cases h) fun vs h => by cases h) hli (SubH.of (by simp -dsimp -implicitDefEqProofs only [↓j27, ↓reduceIte, Nat.reduceEqDiff, j182, j204, j205, lvH])) ⟨by simp, put_lv⟩ ?_
          simp -dsimp -implicitDefEqProofs only [↓j0, ↓j1, ↓j7, ↓j9, ↓j13, ↓j15, j17, j18, j20, j21, j22, j23, ↓j25, ↓j29, ↓j30, j33, ↓j38, ↓j39, ↓j48, ↓j55, j84, ↓j89, ↓j145, ↓j146, ↓j148, ↓j149, j154, j170, j171, j173, j174, ↓reduceIte, Nat.reduceEqDiff, j185, j193, lvH]
          exact ⟨n - 1, plSt last o.max ops o1 l1 (i + 1), by omega, ⟨o1, l1, i + 1, ho1, hrel1, by omega, hcnt1, hmx1, rfl⟩, Wk.trans (Wk.mk (s' := ⟨237, plT last o.max ops (i + 1), plG o1 l1 102, 103⟩) (SubT.spec (by simp -dsimp -implicitDefEqProofs only [↓j25, reduceCtorEq, ↓reduceIte, Nat.reduceEqDiff, j182, j202, j203, plT, hw] <;> simp)) (SubH.spec (by simp -dsimp -implicitDefEqProofs only [↓j27, ↓reduceIte, Nat.reduceEqDiff, j182, j204, j205, plG, ro_lv hp1, lvH, hl1, hmx1] <;> simp)) (Nat.le_refl _) rfl) (pl_ren hp1 _)⟩
      have g0 : (x.1 == 0) = false := by rw [beq_eq_false_iff_ne]; exact k0
      by_cases k1 : x.1 = 1
      · have g1 : (x.1 == 1) = true := by rw [beq_iff_eq]; exact k1
        have hgo := hrel.gone ho hg hk
        rw [hst0, if_pos rfl] at fEn
        rw [fEn] at hen heo
        obtain ⟨o1, ho1e⟩ : ∃ o1, ({ o with live := aDel o.live x.2 } : OS) = o1 := ⟨_, rfl⟩
        have ho1 : o1.Ok := ho1e ▸ heo
        have hrel1 : Rel o1 (l.set k ⟨x.2, s, false⟩) := ho1e ▸ hgo
        have hcnt1 : o1.count ≤ i + 1 := by rw [← ho1e]; show o.count ≤ i + 1; omega
        have hl1 : o1.last = o.last := by rw [← ho1e]
        have hmx1 : o1.max = o.max := by rw [← ho1e]
        have hen : ACall Try.prog 17 [.ptr 2 0 [], .int .u64 x.2] (orH o) (.int .i64 0) (orH o1) := by rw [← ho1e]; exact hen
        have hse : (l.map Tx.av).set k (AV.agg [.int .u64 x.2, .int .u32 s, .bool false]) = (l.set k ⟨x.2, s, false⟩).map Tx.av := by rw [List.map_set]
        have hsl : (l.set k ⟨x.2, s, false⟩).length = l.length := List.length_set
        obtain ⟨l1, hl1e⟩ : ∃ l1, l.set k ⟨x.2, s, false⟩ = l1 := ⟨_, rfl⟩
        rw [hl1e] at hrel1 hse hsl
        have hp1 : 0 < l1.length := by omega
        simp -dsimp -implicitDefEqProofs only [↓j0, ↓j1, ↓j2, ↓j7, ↓j9, ↓j12, ↓j13, ↓j14, ↓j15, j17, j18, j20, j21, j22, j23, ↓j25, ↓j27, ↓j29, ↓j30, j32, j33, ↓j38, ↓j39, ↓j40, ↓j43, ↓j45, ↓j46, ↓j48, ↓j53, ↓j55, ↓j56, ↓j57, ↓j76, ↓j79, j82, j83, j84, j85, ↓j89, ↓j90, ↓j93, j130, j135, ↓j145, ↓j146, ↓j147, ↓j148, ↓j149, ↓j150, ↓j151, ↓j153, j157, j158, j162, AV.proj, AV.offOf, AV.size, AV.sizeL, j163, j164, j166, j167, j170, j171, j173, j174, j175, j177, ↓reduceIte, Nat.reduceAdd, Nat.reduceEqDiff, j182, j185, j191, j193, j195, j196, j197, j206, j207, j208, j212, j250, j260, j276, j277, j288, j291, j296, j299, j309, j370, bb2, nn, hk, hszk, hkl2, g0, g1]
        refine CallTo.gen (args := [.ptr 2 0 [], .int .u64 x.2]) (orH o) (orH o1) 102 rfl fok17 (by simp -dsimp -implicitDefEqProofs only [↓j25, ↓j29, j173, j174, ↓reduceIte, Nat.reduceEqDiff]) (notup2 (fun vs h => by cases h) fun vs h => by cases h) hen (SubH.of (by simp -dsimp -implicitDefEqProofs only [↓j27, ↓reduceIte, Nat.reduceEqDiff, j182, j204, j205])) ⟨by simp, put_or⟩ ?_
        simp -dsimp -implicitDefEqProofs only [↓j0, ↓j1, ↓j4, ↓j7, ↓j8, ↓j9, ↓j12, ↓j13, ↓j15, j17, j18, j19, j20, j21, j22, j23, j24, ↓j25, ↓j27, ↓j29, ↓j30, j32, j33, ↓j38, ↓j43, ↓j44, ↓j45, ↓j46, ↓j48, ↓j53, ↓j56, ↓j76, ↓j78, ↓j79, ↓j89, ↓j90, ↓j93, j135, ↓j145, ↓j146, ↓j147, ↓j148, ↓j149, ↓j153, j157, j162, AV.proj, AV.offOf, AV.upd, AV.size, AV.sizeL, AV.layable, j163, j164, j166, j167, j168, j169, j170, j171, j172, j173, j174, j177, ↓reduceIte, Nat.reduceAdd, Nat.reduceEqDiff, j182, j185, j191, j196, j197, j206, j207, j208, j212, j252, j276, j277, j288, j312, j370, bb2, n00, hk, hszk, hkl2, hse]
        rw [← hsl]
        have hls := last_spec o1
        have hho := hz_spec o1 ho1
        have hrz := hrel1.hz ho1
        have hks := hrel1.keys ho1
        have hk8 : (keysIn o1.live).length ≤ 8 := by rw [keysIn_len]; exact ho1.few
        have hlv := live_spec o1 ho1
        have hcl1 : (l1 : List Tx).length ≤ 1000 := by rw [hrel1.cnt]; have := hcnt1; omega
        have hrh := rhz100 o.last o.max l1 hcl1 hp1
        have hli := lives100 (keysIn o1.live) o.last o.max l1 hcl1 hp1 hks hk8
        rw [hl1] at hrz hls
        rw [hrz] at hrh
        refine CallTo.gen (args := [.ptr 2 0 []]) (orH o1) (orH o1) 102 rfl fok12 (by simp -dsimp -implicitDefEqProofs only [↓j25, ↓j29, j173, j174, ↓reduceIte]) (notup1 fun vs h => by cases h) hls (SubH.of (by simp -dsimp -implicitDefEqProofs only [↓j27, ↓reduceIte, Nat.reduceEqDiff, j182, j204, j205])) ⟨by simp, put_or⟩ ?_
        simp -dsimp -implicitDefEqProofs only [↓j4, ↓j5, j17, j18, j20, j21, j22, j23, j24, ↓j25, ↓j27, ↓j29, ↓j38, ↓j43, ↓j45, ↓j48, ↓j53, ↓j56, ↓j76, ↓j79, ↓j89, j130, ↓j145, ↓j146, ↓j148, ↓j151, ↓j153, j158, AV.proj, AV.offOf, AV.sizeL, j163, j164, j167, j170, j171, j172, j173, j174, j175, ↓reduceIte, Nat.reduceEqDiff, j182, j185, j197, j260, j282, nn]
        refine CallTo.gen (args := [.ptr 2 0 []]) (orH o1) (orH o1) 102 rfl fok18 (by simp -dsimp -implicitDefEqProofs only [↓j25, ↓j29, j173, j174, ↓reduceIte]) (notup1 fun vs h => by cases h) hho (SubH.of (by simp -dsimp -implicitDefEqProofs only [↓j27, ↓reduceIte, Nat.reduceEqDiff, j182, j204, j205])) ⟨by simp, put_or⟩ ?_
        simp -dsimp -implicitDefEqProofs only [↓j5, j17, j18, j20, j21, j22, j23, j24, ↓j25, ↓j29, ↓j38, ↓j53, ↓j145, ↓j148, ↓j151, j163, j164, j170, j171, j172, j173, j174, j175, ↓reduceIte, Nat.reduceEqDiff]
        refine CallTo.gen (args := [.ptr 99 0 []]) (lvH o.last o.max l1 100) (lvH o.last o.max l1 100) 102 rfl fok19 (by simp -dsimp -implicitDefEqProofs only [↓j25, ↓j29, j173, j174, ↓reduceIte]) (notup1 fun vs h => by cases h) hrh (SubH.of (by simp -dsimp -implicitDefEqProofs only [↓j27, ↓reduceIte, Nat.reduceEqDiff, j182, j204, j205, lvH])) ⟨by simp, put_lv⟩ ?_
        simp -dsimp -implicitDefEqProofs only [↓j3, ↓j4, ↓j5, j17, j18, j20, j21, j22, j23, j24, ↓j25, ↓j29, ↓j30, j32, ↓j40, ↓j48, j83, ↓j89, ↓j145, ↓j146, ↓j148, ↓j151, j158, j163, j164, j170, j171, j172, j173, j174, j175, ↓reduceIte, Nat.reduceEqDiff, j185, j195, nn, lvH]
        refine ⟨by kernel_rfl, ?_⟩
        simp -dsimp -implicitDefEqProofs only [↓j1, ↓j7, ↓j9, ↓j12, ↓j13, ↓j15, j17, j18, j20, ↓j25, ↓j29, ↓j38, ↓j53, ↓j145, ↓j148, ↓j149, j171, ↓reduceIte, Nat.reduceEqDiff]
        refine CallTo.gen (args := [.ptr 2 0 []]) (orH o1) (orH o1) 102 rfl fok21 (by simp -dsimp -implicitDefEqProofs only [↓j25, ↓j29, j173, j174, ↓reduceIte]) (notup1 fun vs h => by cases h) hlv (SubH.of (by simp -dsimp -implicitDefEqProofs only [↓j27, ↓reduceIte, Nat.reduceEqDiff, j182, j204, j205])) ⟨by simp, put_or⟩ ?_
        simp -dsimp -implicitDefEqProofs only [↓j1, j17, j18, j20, j21, j22, j23, ↓j25, ↓j29, ↓j38, ↓j53, ↓j145, j170, j171, j173, j174, ↓reduceIte, Nat.reduceEqDiff]
        refine CallTo.gen (args := [keysAV (keysIn o1.live), .ptr 99 0 []]) (lvH o.last o.max l1 100) (lvH o.last o.max l1 100) 102 rfl fok20 (by simp -dsimp -implicitDefEqProofs only [↓j25, ↓j29, j173, j174, ↓reduceIte, Nat.reduceEqDiff]) (notup2 (fun vs h => by cases h) fun vs h => by cases h) hli (SubH.of (by simp -dsimp -implicitDefEqProofs only [↓j27, ↓reduceIte, Nat.reduceEqDiff, j182, j204, j205, lvH])) ⟨by simp, put_lv⟩ ?_
        simp -dsimp -implicitDefEqProofs only [↓j0, ↓j1, ↓j7, ↓j9, ↓j13, ↓j15, j17, j18, j20, j21, j22, j23, ↓j25, ↓j29, ↓j30, j33, ↓j38, ↓j39, ↓j48, ↓j55, j84, ↓j89, ↓j145, ↓j146, ↓j148, ↓j149, j154, j170, j171, j173, j174, ↓reduceIte, Nat.reduceEqDiff, j185, j193, lvH]
        exact ⟨n - 1, plSt last o.max ops o1 l1 (i + 1), by omega, ⟨o1, l1, i + 1, ho1, hrel1, by omega, hcnt1, hmx1, rfl⟩, Wk.trans (Wk.mk (s' := ⟨237, plT last o.max ops (i + 1), plG o1 l1 100, 102⟩) (SubT.spec (by simp -dsimp -implicitDefEqProofs only [↓j25, reduceCtorEq, ↓reduceIte, Nat.reduceEqDiff, j182, j202, j203, plT, hw] <;> simp)) (SubH.spec (by simp -dsimp -implicitDefEqProofs only [↓j27, ↓reduceIte, Nat.reduceEqDiff, j182, j204, j205, plG, ro_lv hp1, lvH, hl1, hmx1] <;> simp)) (Nat.le_refl _) rfl) pl_gc⟩
      have g1 : (x.1 == 1) = false := by rw [beq_eq_false_iff_ne]; exact k1
      by_cases k2 : x.1 = 2
      · have g2 : (x.1 == 2) = true := by rw [beq_iff_eq]; exact k2
        have g3 : (x.1 == 3) = false := by rw [beq_eq_false_iff_ne]; omega
        rcases Nat.lt_or_ge o.last o.max with hq | hq
        · first
            | exfalso; omega
            | skip
              rw [if_neg hlm3] at fNx
              by_cases hyy : y = o.last + 1
              · have hpp : o.pubP y = (0, { o with last := y }) := by rw [fPub, fNx, if_neg (by simp <;> omega)]
                have hpb := pub_spec o ho y (by omega)
                have hpo := pub_ok ho y
                rw [hpp] at hpb hpo
                obtain ⟨o1, ho1e⟩ : ∃ o1, ({ o with last := y } : OS) = o1 := ⟨_, rfl⟩
                have ho1 : o1.Ok := ho1e ▸ hpo
                have hrel1 : Rel o1 l := ho1e ▸ hrel.pub y
                have hcnt1 : o1.count ≤ i + 1 := by rw [← ho1e]; show o.count ≤ i + 1; omega
                have hl1 : o1.last = y := by rw [← ho1e]
                have hmx1 : o1.max = o.max := by rw [← ho1e]
                have hpb : ACall Try.prog 11 [.ptr 2 0 [], .int .u32 (y : Nat)] (orH o) (.int .i64 0) (orH o1) := by rw [← ho1e]; exact hpb
                have hp1 := hp
                simp -dsimp -implicitDefEqProofs only [↓j0, ↓j1, ↓j2, ↓j7, ↓j9, ↓j12, ↓j13, ↓j14, ↓j15, j17, j18, j20, j21, j22, j23, ↓j25, ↓j27, ↓j29, ↓j30, j32, j33, ↓j38, ↓j39, ↓j40, ↓j43, ↓j45, ↓j46, ↓j48, ↓j50, ↓j53, ↓j55, ↓j56, ↓j57, ↓j76, ↓j79, j82, j83, j84, j85, ↓j89, ↓j90, ↓j93, j130, j135, ↓j145, ↓j146, ↓j147, ↓j148, ↓j149, ↓j150, ↓j151, ↓j153, j157, j158, j162, AV.proj, AV.offOf, AV.size, AV.sizeL, j163, j164, j166, j167, j170, j171, j173, j174, j175, j177, ↓reduceIte, Nat.reduceAdd, Nat.reduceEqDiff, j182, j185, j191, j193, j195, j196, j197, j206, j207, j208, j212, ↓j225, j250, j260, j261, j276, j277, j288, j291, j296, j299, j309, j370, j380, bb2, nn, hk, hszk, hkl2, g0, g1, g2, wy, g3]
                refine CallTo.gen (args := [.ptr 2 0 [], .int .u32 (y : Nat)]) (orH o) (orH o1) 102 rfl fok11 (by simp -dsimp -implicitDefEqProofs only [↓j25, ↓j29, j173, j174, ↓reduceIte, Nat.reduceEqDiff]) (notup2 (fun vs h => by cases h) fun vs h => by cases h) hpb (SubH.of (by simp -dsimp -implicitDefEqProofs only [↓j27, ↓reduceIte, Nat.reduceEqDiff, j182, j204, j205])) ⟨by simp, put_or⟩ ?_
                have ye : (((y : Nat) : Int) == ((o.last + 1 : Nat) : Int)) = true := by rw [beq_iff_eq] <;> omega
                simp -dsimp -implicitDefEqProofs only [↓j0, ↓j1, ↓j2, ↓j4, ↓j7, ↓j8, ↓j9, ↓j12, ↓j13, ↓j15, j17, j18, j19, j20, j21, j22, j23, j24, ↓j25, ↓j27, ↓j29, ↓j30, j32, j33, ↓j38, ↓j39, ↓j40, ↓j43, ↓j44, ↓j45, ↓j48, ↓j53, ↓j56, ↓j76, ↓j78, ↓j79, j83, ↓j89, j130, ↓j145, ↓j146, ↓j147, ↓j148, ↓j149, ↓j150, ↓j153, j154, j157, j158, j159, AV.proj, AV.offOf, AV.upd, AV.size, AV.sizeL, AV.layable, j163, j164, j167, j169, j170, j171, j172, j173, j174, j175, reduceCtorEq, ↓reduceIte, Nat.reduceEqDiff, j182, j185, j197, j259, j260, j282, n0, b2, w1, ye]
                have hls := last_spec o1
                have hho := hz_spec o1 ho1
                have hrz := hrel1.hz ho1
                have hks := hrel1.keys ho1
                have hk8 : (keysIn o1.live).length ≤ 8 := by rw [keysIn_len]; exact ho1.few
                have hlv := live_spec o1 ho1
                have hcl1 : (l : List Tx).length ≤ 1000 := by rw [hrel1.cnt]; have := hcnt1; omega
                have hrh := rhz100 y o.max l hcl1 hp1
                have hli := lives100 (keysIn o1.live) y o.max l hcl1 hp1 hks hk8
                rw [hl1] at hrz hls
                rw [hrz] at hrh
                refine CallTo.gen (args := [.ptr 2 0 []]) (orH o1) (orH o1) 102 rfl fok12 (by simp -dsimp -implicitDefEqProofs only [↓j25, ↓j29, j173, j174, ↓reduceIte]) (notup1 fun vs h => by cases h) hls (SubH.of (by simp -dsimp -implicitDefEqProofs only [↓j27, ↓reduceIte, Nat.reduceEqDiff, j182, j204, j205])) ⟨by simp, put_or⟩ ?_
                simp -dsimp -implicitDefEqProofs only [↓j4, ↓j5, j17, j18, j20, j21, j22, j23, j24, ↓j25, ↓j27, ↓j29, ↓j38, ↓j43, ↓j45, ↓j48, ↓j53, ↓j56, ↓j76, ↓j79, ↓j89, j130, ↓j145, ↓j146, ↓j148, ↓j151, ↓j153, j158, AV.proj, AV.offOf, AV.sizeL, j163, j164, j167, j170, j171, j172, j173, j174, j175, ↓reduceIte, Nat.reduceEqDiff, j182, j185, j197, j260, j282, nn]
                refine CallTo.gen (args := [.ptr 2 0 []]) (orH o1) (orH o1) 102 rfl fok18 (by simp -dsimp -implicitDefEqProofs only [↓j25, ↓j29, j173, j174, ↓reduceIte]) (notup1 fun vs h => by cases h) hho (SubH.of (by simp -dsimp -implicitDefEqProofs only [↓j27, ↓reduceIte, Nat.reduceEqDiff, j182, j204, j205])) ⟨by simp, put_or⟩ ?_
                simp -dsimp -implicitDefEqProofs only [↓j5, j17, j18, j20, j21, j22, j23, j24, ↓j25, ↓j29, ↓j38, ↓j53, ↓j145, ↓j148, ↓j151, j163, j164, j170, j171, j172, j173, j174, j175, ↓reduceIte, Nat.reduceEqDiff]
                refine CallTo.gen (args := [.ptr 99 0 []]) (lvH y o.max l 100) (lvH y o.max l 100) 102 rfl fok19 (by simp -dsimp -implicitDefEqProofs only [↓j25, ↓j29, j173, j174, ↓reduceIte]) (notup1 fun vs h => by cases h) hrh (SubH.of (by simp -dsimp -implicitDefEqProofs only [↓j27, ↓reduceIte, Nat.reduceEqDiff, j182, j204, j205, lvH])) ⟨by simp, put_lv⟩ ?_
                simp -dsimp -implicitDefEqProofs only [↓j3, ↓j4, ↓j5, j17, j18, j20, j21, j22, j23, j24, ↓j25, ↓j29, ↓j30, j32, ↓j40, ↓j48, j83, ↓j89, ↓j145, ↓j146, ↓j148, ↓j151, j158, j163, j164, j170, j171, j172, j173, j174, j175, ↓reduceIte, Nat.reduceEqDiff, j185, j195, nn, lvH]
                refine ⟨by kernel_rfl, ?_⟩
                simp -dsimp -implicitDefEqProofs only [↓j1, ↓j7, ↓j9, ↓j12, ↓j13, ↓j15, j17, j18, j20, ↓j25, ↓j29, ↓j38, ↓j53, ↓j145, ↓j148, ↓j149, j171, ↓reduceIte, Nat.reduceEqDiff]
                refine CallTo.gen (args := [.ptr 2 0 []]) (orH o1) (orH o1) 102 rfl fok21 (by simp -dsimp -implicitDefEqProofs only [↓j25, ↓j29, j173, j174, ↓reduceIte]) (notup1 fun vs h => by cases h) hlv (SubH.of (by simp -dsimp -implicitDefEqProofs only [↓j27, ↓reduceIte, Nat.reduceEqDiff, j182, j204, j205])) ⟨by simp, put_or⟩ ?_
                simp -dsimp -implicitDefEqProofs only [↓j1, j17, j18, j20, j21, j22, j23, ↓j25, ↓j29, ↓j38, ↓j53, ↓j145, j170, j171, j173, j174, ↓reduceIte, Nat.reduceEqDiff]
                refine CallTo.gen (args := [keysAV (keysIn o1.live), .ptr 99 0 []]) (lvH y o.max l 100) (lvH y o.max l 100) 102 rfl fok20 (by simp -dsimp -implicitDefEqProofs only [↓j25, ↓j29, j173, j174, ↓reduceIte, Nat.reduceEqDiff]) (notup2 (fun vs h => by cases h) fun vs h => by cases h) hli (SubH.of (by simp -dsimp -implicitDefEqProofs only [↓j27, ↓reduceIte, Nat.reduceEqDiff, j182, j204, j205, lvH])) ⟨by simp, put_lv⟩ ?_
                simp -dsimp -implicitDefEqProofs only [↓j0, ↓j1, ↓j7, ↓j9, ↓j13, ↓j15, j17, j18, j20, j21, j22, j23, ↓j25, ↓j29, ↓j30, j33, ↓j38, ↓j39, ↓j48, ↓j55, j84, ↓j89, ↓j145, ↓j146, ↓j148, ↓j149, j154, j170, j171, j173, j174, ↓reduceIte, Nat.reduceEqDiff, j185, j193, lvH]
                exact ⟨n - 1, plSt last o.max ops o1 l (i + 1), by omega, ⟨o1, l, i + 1, ho1, hrel1, by omega, hcnt1, hmx1, rfl⟩, Wk.trans (Wk.mk (s' := ⟨237, plT last o.max ops (i + 1), plG o1 l 100, 102⟩) (SubT.spec (by simp -dsimp -implicitDefEqProofs only [↓j25, reduceCtorEq, ↓reduceIte, Nat.reduceEqDiff, j182, j202, j203, plT, hw] <;> simp)) (SubH.spec (by simp -dsimp -implicitDefEqProofs only [↓j27, ↓reduceIte, Nat.reduceEqDiff, j182, j204, j205, plG, ro_lv hp1, lvH, hl1, hmx1] <;> simp)) (Nat.le_refl _) rfl) pl_gc⟩
              · have hpp : o.pubP y = (1, o) := by rw [fPub, fNx, if_pos (.inr (by simp only; omega))]
                have yy : ((y : Int) == ((o.last + 1 : Nat) : Int)) = false := by rw [beq_eq_false_iff_ne]; omega
                have hpb := pub_spec o ho y (by omega)
                rw [hpp] at hpb
                have hpb : ACall Try.prog 11 [.ptr 2 0 [], .int .u32 (y : Nat)] (orH o) (.int .i64 1) (orH o) := hpb
                have ho1 := ho
                have hrel1 := hrel
                have hcnt1 : o.count ≤ i + 1 := by omega
                have hl1 : o.last = o.last := rfl
                have hmx1 : o.max = o.max := rfl
                have hp1 := hp
                simp -dsimp -implicitDefEqProofs only [↓j0, ↓j1, ↓j2, ↓j7, ↓j9, ↓j12, ↓j13, ↓j14, ↓j15, j17, j18, j20, j21, j22, j23, ↓j25, ↓j27, ↓j29, ↓j30, j32, j33, ↓j38, ↓j39, ↓j40, ↓j43, ↓j45, ↓j46, ↓j48, ↓j50, ↓j53, ↓j55, ↓j56, ↓j57, ↓j76, ↓j79, j82, j83, j84, j85, ↓j89, ↓j90, ↓j93, j130, j135, ↓j145, ↓j146, ↓j147, ↓j148, ↓j149, ↓j150, ↓j151, ↓j153, j157, j158, j162, AV.proj, AV.offOf, AV.size, AV.sizeL, j163, j164, j166, j167, j170, j171, j173, j174, j175, j177, ↓reduceIte, Nat.reduceAdd, Nat.reduceEqDiff, j182, j185, j191, j193, j195, j196, j197, j206, j207, j208, j212, ↓j225, j250, j260, j261, j276, j277, j288, j291, j296, j299, j309, j370, j380, bb2, nn, hk, hszk, hkl2, g0, g1, g2, wy, g3]
                refine CallTo.gen (args := [.ptr 2 0 [], .int .u32 (y : Nat)]) (orH o) (orH o) 102 rfl fok11 (by simp -dsimp -implicitDefEqProofs only [↓j25, ↓j29, j173, j174, ↓reduceIte, Nat.reduceEqDiff]) (notup2 (fun vs h => by cases h) fun vs h => by cases h) hpb (SubH.of (by simp -dsimp -implicitDefEqProofs only [↓j27, ↓reduceIte, Nat.reduceEqDiff, j182, j204, j205])) ⟨by simp, put_or⟩ ?_
                simp -dsimp -implicitDefEqProofs only [↓j0, ↓j1, ↓j2, ↓j4, ↓j7, ↓j8, ↓j9, ↓j12, ↓j13, ↓j15, j17, j18, j20, j21, j22, j23, j24, ↓j25, ↓j27, ↓j29, ↓j30, j32, j33, ↓j38, ↓j39, ↓j40, ↓j43, ↓j45, ↓j48, ↓j53, ↓j56, ↓j76, ↓j79, j83, ↓j89, j130, ↓j145, ↓j146, ↓j147, ↓j148, ↓j149, ↓j150, ↓j153, j154, j157, j158, j159, AV.proj, AV.offOf, AV.sizeL, j163, j164, j167, j170, j171, j172, j173, j174, j175, reduceCtorEq, ↓reduceIte, Nat.reduceEqDiff, j182, j185, j197, j260, j282, n1, b2, w1, yy]
                have hls := last_spec o
                have hho := hz_spec o ho1
                have hrz := hrel1.hz ho1
                have hks := hrel1.keys ho1
                have hk8 : (keysIn o.live).length ≤ 8 := by rw [keysIn_len]; exact ho1.few
                have hlv := live_spec o ho1
                have hcl1 : (l : List Tx).length ≤ 1000 := by rw [hrel1.cnt]; have := hcnt1; omega
                have hrh := rhz100 o.last o.max l hcl1 hp1
                have hli := lives100 (keysIn o.live) o.last o.max l hcl1 hp1 hks hk8
                rw [hl1] at hrz hls
                rw [hrz] at hrh
                refine CallTo.gen (args := [.ptr 2 0 []]) (orH o) (orH o) 102 rfl fok12 (by simp -dsimp -implicitDefEqProofs only [↓j25, ↓j29, j173, j174, ↓reduceIte]) (notup1 fun vs h => by cases h) hls (SubH.of (by simp -dsimp -implicitDefEqProofs only [↓j27, ↓reduceIte, Nat.reduceEqDiff, j182, j204, j205])) ⟨by simp, put_or⟩ ?_
                simp -dsimp -implicitDefEqProofs only [↓j4, ↓j5, j17, j18, j20, j21, j22, j23, j24, ↓j25, ↓j27, ↓j29, ↓j38, ↓j43, ↓j45, ↓j48, ↓j53, ↓j56, ↓j76, ↓j79, ↓j89, j130, ↓j145, ↓j146, ↓j148, ↓j151, ↓j153, j158, AV.proj, AV.offOf, AV.sizeL, j163, j164, j167, j170, j171, j172, j173, j174, j175, ↓reduceIte, Nat.reduceEqDiff, j182, j185, j197, j260, j282, nn]
                refine CallTo.gen (args := [.ptr 2 0 []]) (orH o) (orH o) 102 rfl fok18 (by simp -dsimp -implicitDefEqProofs only [↓j25, ↓j29, j173, j174, ↓reduceIte]) (notup1 fun vs h => by cases h) hho (SubH.of (by simp -dsimp -implicitDefEqProofs only [↓j27, ↓reduceIte, Nat.reduceEqDiff, j182, j204, j205])) ⟨by simp, put_or⟩ ?_
                simp -dsimp -implicitDefEqProofs only [↓j5, j17, j18, j20, j21, j22, j23, j24, ↓j25, ↓j29, ↓j38, ↓j53, ↓j145, ↓j148, ↓j151, j163, j164, j170, j171, j172, j173, j174, j175, ↓reduceIte, Nat.reduceEqDiff]
                refine CallTo.gen (args := [.ptr 99 0 []]) (lvH o.last o.max l 100) (lvH o.last o.max l 100) 102 rfl fok19 (by simp -dsimp -implicitDefEqProofs only [↓j25, ↓j29, j173, j174, ↓reduceIte]) (notup1 fun vs h => by cases h) hrh (SubH.of (by simp -dsimp -implicitDefEqProofs only [↓j27, ↓reduceIte, Nat.reduceEqDiff, j182, j204, j205, lvH])) ⟨by simp, put_lv⟩ ?_
                simp -dsimp -implicitDefEqProofs only [↓j3, ↓j4, ↓j5, j17, j18, j20, j21, j22, j23, j24, ↓j25, ↓j29, ↓j30, j32, ↓j40, ↓j48, j83, ↓j89, ↓j145, ↓j146, ↓j148, ↓j151, j158, j163, j164, j170, j171, j172, j173, j174, j175, ↓reduceIte, Nat.reduceEqDiff, j185, j195, nn, lvH]
                refine ⟨by kernel_rfl, ?_⟩
                simp -dsimp -implicitDefEqProofs only [↓j1, ↓j7, ↓j9, ↓j12, ↓j13, ↓j15, j17, j18, j20, ↓j25, ↓j29, ↓j38, ↓j53, ↓j145, ↓j148, ↓j149, j171, ↓reduceIte, Nat.reduceEqDiff]
                refine CallTo.gen (args := [.ptr 2 0 []]) (orH o) (orH o) 102 rfl fok21 (by simp -dsimp -implicitDefEqProofs only [↓j25, ↓j29, j173, j174, ↓reduceIte]) (notup1 fun vs h => by cases h) hlv (SubH.of (by simp -dsimp -implicitDefEqProofs only [↓j27, ↓reduceIte, Nat.reduceEqDiff, j182, j204, j205])) ⟨by simp, put_or⟩ ?_
                simp -dsimp -implicitDefEqProofs only [↓j1, j17, j18, j20, j21, j22, j23, ↓j25, ↓j29, ↓j38, ↓j53, ↓j145, j170, j171, j173, j174, ↓reduceIte, Nat.reduceEqDiff]
                refine CallTo.gen (args := [keysAV (keysIn o.live), .ptr 99 0 []]) (lvH o.last o.max l 100) (lvH o.last o.max l 100) 102 rfl fok20 (by simp -dsimp -implicitDefEqProofs only [↓j25, ↓j29, j173, j174, ↓reduceIte, Nat.reduceEqDiff]) (notup2 (fun vs h => by cases h) fun vs h => by cases h) hli (SubH.of (by simp -dsimp -implicitDefEqProofs only [↓j27, ↓reduceIte, Nat.reduceEqDiff, j182, j204, j205, lvH])) ⟨by simp, put_lv⟩ ?_
                simp -dsimp -implicitDefEqProofs only [↓j0, ↓j1, ↓j7, ↓j9, ↓j13, ↓j15, j17, j18, j20, j21, j22, j23, ↓j25, ↓j29, ↓j30, j33, ↓j38, ↓j39, ↓j48, ↓j55, j84, ↓j89, ↓j145, ↓j146, ↓j148, ↓j149, j154, j170, j171, j173, j174, ↓reduceIte, Nat.reduceEqDiff, j185, j193, lvH]
                exact ⟨n - 1, plSt last o.max ops o l (i + 1), by omega, ⟨o, l, i + 1, ho1, hrel1, by omega, hcnt1, hmx1, rfl⟩, Wk.trans (Wk.mk (s' := ⟨237, plT last o.max ops (i + 1), plG o l 100, 102⟩) (SubT.spec (by simp -dsimp -implicitDefEqProofs only [↓j25, reduceCtorEq, ↓reduceIte, Nat.reduceEqDiff, j182, j202, j203, plT, hw] <;> simp)) (SubH.spec (by simp -dsimp -implicitDefEqProofs only [↓j27, ↓reduceIte, Nat.reduceEqDiff, j182, j204, j205, plG, ro_lv hp1, lvH] <;> simp)) (Nat.le_refl _) rfl) pl_gc⟩
        · first
            | exfalso; omega
            | skip
              rw [if_pos hlm3] at fNx
              have hpp : o.pubP y = (1, o) := by rw [fPub, fNx, if_pos (.inl (by decide))]
              have hpb := pub_spec o ho y (by omega)
              rw [hpp] at hpb
              have hpb : ACall Try.prog 11 [.ptr 2 0 [], .int .u32 (y : Nat)] (orH o) (.int .i64 1) (orH o) := hpb
              have ho1 := ho
              have hrel1 := hrel
              have hcnt1 : o.count ≤ i + 1 := by omega
              have hl1 : o.last = o.last := rfl
              have hmx1 : o.max = o.max := rfl
              have hp1 := hp
              simp -dsimp -implicitDefEqProofs only [↓j0, ↓j1, ↓j2, ↓j7, ↓j9, ↓j12, ↓j13, ↓j14, ↓j15, j17, j18, j20, j21, j22, j23, ↓j25, ↓j27, ↓j29, ↓j30, j32, j33, ↓j38, ↓j39, ↓j40, ↓j43, ↓j45, ↓j46, ↓j48, ↓j50, ↓j53, ↓j55, ↓j56, ↓j57, ↓j76, ↓j79, j82, j83, j84, j85, ↓j89, ↓j90, ↓j93, j130, j135, ↓j145, ↓j146, ↓j147, ↓j148, ↓j149, ↓j150, ↓j151, ↓j153, j157, j158, j162, AV.proj, AV.offOf, AV.size, AV.sizeL, j163, j164, j166, j167, j170, j171, j173, j174, j175, j177, ↓reduceIte, Nat.reduceAdd, Nat.reduceEqDiff, j182, j185, j191, j193, j195, j196, j197, j206, j207, j208, j212, ↓j225, j250, j260, j261, j276, j277, j288, j291, j296, j299, j309, j370, j380, bb2, nn, hk, hszk, hkl2, g0, g1, g2, wy, g3]
              refine CallTo.gen (args := [.ptr 2 0 [], .int .u32 (y : Nat)]) (orH o) (orH o) 102 rfl fok11 (by simp -dsimp -implicitDefEqProofs only [↓j25, ↓j29, j173, j174, ↓reduceIte, Nat.reduceEqDiff]) (notup2 (fun vs h => by cases h) fun vs h => by cases h) hpb (SubH.of (by simp -dsimp -implicitDefEqProofs only [↓j27, ↓reduceIte, Nat.reduceEqDiff, j182, j204, j205])) ⟨by simp, put_or⟩ ?_
              simp -dsimp -implicitDefEqProofs only [↓j0, ↓j1, ↓j2, ↓j4, ↓j7, ↓j8, ↓j9, ↓j12, ↓j13, ↓j15, j17, j18, j20, j21, j22, j23, j24, ↓j25, ↓j27, ↓j29, ↓j30, j32, j33, ↓j38, ↓j39, ↓j40, ↓j43, ↓j45, ↓j48, ↓j53, ↓j56, ↓j76, ↓j79, j82, ↓j89, j130, ↓j145, ↓j146, ↓j148, ↓j149, ↓j150, ↓j153, j158, j159, AV.proj, AV.offOf, AV.sizeL, j163, j164, j167, j170, j171, j172, j173, j174, j175, reduceCtorEq, ↓reduceIte, Nat.reduceEqDiff, j182, j185, j197, j260, j282, n1, b2]
              have hls := last_spec o
              have hho := hz_spec o ho1
              have hrz := hrel1.hz ho1
              have hks := hrel1.keys ho1
              have hk8 : (keysIn o.live).length ≤ 8 := by rw [keysIn_len]; exact ho1.few
              have hlv := live_spec o ho1
              have hcl1 : (l : List Tx).length ≤ 1000 := by rw [hrel1.cnt]; have := hcnt1; omega
              have hrh := rhz100 o.last o.max l hcl1 hp1
              have hli := lives100 (keysIn o.live) o.last o.max l hcl1 hp1 hks hk8
              rw [hl1] at hrz hls
              rw [hrz] at hrh
              refine CallTo.gen (args := [.ptr 2 0 []]) (orH o) (orH o) 102 rfl fok12 (by simp -dsimp -implicitDefEqProofs only [↓j25, ↓j29, j173, j174, ↓reduceIte]) (notup1 fun vs h => by cases h) hls (SubH.of (by simp -dsimp -implicitDefEqProofs only [↓j27, ↓reduceIte, Nat.reduceEqDiff, j182, j204, j205])) ⟨by simp, put_or⟩ ?_
              simp -dsimp -implicitDefEqProofs only [↓j4, ↓j5, j17, j18, j20, j21, j22, j23, j24, ↓j25, ↓j27, ↓j29, ↓j38, ↓j43, ↓j45, ↓j48, ↓j53, ↓j56, ↓j76, ↓j79, ↓j89, j130, ↓j145, ↓j146, ↓j148, ↓j151, ↓j153, j158, AV.proj, AV.offOf, AV.sizeL, j163, j164, j167, j170, j171, j172, j173, j174, j175, ↓reduceIte, Nat.reduceEqDiff, j182, j185, j197, j260, j282, nn]
              refine CallTo.gen (args := [.ptr 2 0 []]) (orH o) (orH o) 102 rfl fok18 (by simp -dsimp -implicitDefEqProofs only [↓j25, ↓j29, j173, j174, ↓reduceIte]) (notup1 fun vs h => by cases h) hho (SubH.of (by simp -dsimp -implicitDefEqProofs only [↓j27, ↓reduceIte, Nat.reduceEqDiff, j182, j204, j205])) ⟨by simp, put_or⟩ ?_
              simp -dsimp -implicitDefEqProofs only [↓j5, j17, j18, j20, j21, j22, j23, j24, ↓j25, ↓j29, ↓j38, ↓j53, ↓j145, ↓j148, ↓j151, j163, j164, j170, j171, j172, j173, j174, j175, ↓reduceIte, Nat.reduceEqDiff]
              refine CallTo.gen (args := [.ptr 99 0 []]) (lvH o.last o.max l 100) (lvH o.last o.max l 100) 102 rfl fok19 (by simp -dsimp -implicitDefEqProofs only [↓j25, ↓j29, j173, j174, ↓reduceIte]) (notup1 fun vs h => by cases h) hrh (SubH.of (by simp -dsimp -implicitDefEqProofs only [↓j27, ↓reduceIte, Nat.reduceEqDiff, j182, j204, j205, lvH])) ⟨by simp, put_lv⟩ ?_
              simp -dsimp -implicitDefEqProofs only [↓j3, ↓j4, ↓j5, j17, j18, j20, j21, j22, j23, j24, ↓j25, ↓j29, ↓j30, j32, ↓j40, ↓j48, j83, ↓j89, ↓j145, ↓j146, ↓j148, ↓j151, j158, j163, j164, j170, j171, j172, j173, j174, j175, ↓reduceIte, Nat.reduceEqDiff, j185, j195, nn, lvH]
              refine ⟨by kernel_rfl, ?_⟩
              simp -dsimp -implicitDefEqProofs only [↓j1, ↓j7, ↓j9, ↓j12, ↓j13, ↓j15, j17, j18, j20, ↓j25, ↓j29, ↓j38, ↓j53, ↓j145, ↓j148, ↓j149, j171, ↓reduceIte, Nat.reduceEqDiff]
              refine CallTo.gen (args := [.ptr 2 0 []]) (orH o) (orH o) 102 rfl fok21 (by simp -dsimp -implicitDefEqProofs only [↓j25, ↓j29, j173, j174, ↓reduceIte]) (notup1 fun vs h => by cases h) hlv (SubH.of (by simp -dsimp -implicitDefEqProofs only [↓j27, ↓reduceIte, Nat.reduceEqDiff, j182, j204, j205])) ⟨by simp, put_or⟩ ?_
              simp -dsimp -implicitDefEqProofs only [↓j1, j17, j18, j20, j21, j22, j23, ↓j25, ↓j29, ↓j38, ↓j53, ↓j145, j170, j171, j173, j174, ↓reduceIte, Nat.reduceEqDiff]
              refine CallTo.gen (args := [keysAV (keysIn o.live), .ptr 99 0 []]) (lvH o.last o.max l 100) (lvH o.last o.max l 100) 102 rfl fok20 (by simp -dsimp -implicitDefEqProofs only [↓j25, ↓j29, j173, j174, ↓reduceIte, Nat.reduceEqDiff]) (notup2 (fun vs h => by cases h) fun vs h => by cases h) hli (SubH.of (by simp -dsimp -implicitDefEqProofs only [↓j27, ↓reduceIte, Nat.reduceEqDiff, j182, j204, j205, lvH])) ⟨by simp, put_lv⟩ ?_
              simp -dsimp -implicitDefEqProofs only [↓j0, ↓j1, ↓j7, ↓j9, ↓j13, ↓j15, j17, j18, j20, j21, j22, j23, ↓j25, ↓j29, ↓j30, j33, ↓j38, ↓j39, ↓j48, ↓j55, j84, ↓j89, ↓j145, ↓j146, ↓j148, ↓j149, j154, j170, j171, j173, j174, ↓reduceIte, Nat.reduceEqDiff, j185, j193, lvH]
              exact ⟨n - 1, plSt last o.max ops o l (i + 1), by omega, ⟨o, l, i + 1, ho1, hrel1, by omega, hcnt1, hmx1, rfl⟩, Wk.trans (Wk.mk (s' := ⟨237, plT last o.max ops (i + 1), plG o l 100, 102⟩) (SubT.spec (by simp -dsimp -implicitDefEqProofs only [↓j25, reduceCtorEq, ↓reduceIte, Nat.reduceEqDiff, j182, j202, j203, plT, hw] <;> simp)) (SubH.spec (by simp -dsimp -implicitDefEqProofs only [↓j27, ↓reduceIte, Nat.reduceEqDiff, j182, j204, j205, plG, ro_lv hp1, lvH] <;> simp)) (Nat.le_refl _) rfl) pl_gc⟩
      have g2 : (x.1 == 2) = false := by rw [beq_eq_false_iff_ne]; exact k2
      by_cases k3 : x.1 = 3
      · have g3 : (x.1 == 3) = true := by rw [beq_iff_eq]; exact k3
        rcases Nat.lt_or_ge o.last o.max with hq | hq
        · first
            | exfalso; omega
            | skip
              rw [if_neg hlm3] at fNx
              have hpp : o.pubP (o.last + 1) = (0, { o with last := o.last + 1 }) := by rw [fPub, fNx, if_neg (by simp)]
              have hpb := pub_spec o ho (o.last + 1) (by omega)
              have hpo := pub_ok ho (o.last + 1)
              rw [hpp] at hpb hpo
              obtain ⟨o1, ho1e⟩ : ∃ o1, ({ o with last := (o.last + 1) } : OS) = o1 := ⟨_, rfl⟩
              have ho1 : o1.Ok := ho1e ▸ hpo
              have hrel1 : Rel o1 l := ho1e ▸ hrel.pub (o.last + 1)
              have hcnt1 : o1.count ≤ i + 1 := by rw [← ho1e]; show o.count ≤ i + 1; omega
              have hl1 : o1.last = (o.last + 1) := by rw [← ho1e]
              have hmx1 : o1.max = o.max := by rw [← ho1e]
              have hpb : ACall Try.prog 11 [.ptr 2 0 [], .int .u32 ((o.last + 1 : Nat) : Int)] (orH o) (.int .i64 0) (orH o1) := by rw [← ho1e]; exact hpb
              have hp1 := hp
              simp -dsimp -implicitDefEqProofs only [↓j0, ↓j1, ↓j2, ↓j7, ↓j9, ↓j12, ↓j13, ↓j14, ↓j15, j17, j18, j20, j21, j22, j23, ↓j25, ↓j27, ↓j29, ↓j30, j32, j33, ↓j38, ↓j39, ↓j40, ↓j43, ↓j45, ↓j46, ↓j48, ↓j50, ↓j53, ↓j55, ↓j56, ↓j57, ↓j76, ↓j79, j82, j83, j84, j85, ↓j89, ↓j90, ↓j93, j130, j135, ↓j145, ↓j146, ↓j147, ↓j148, ↓j149, ↓j150, ↓j151, ↓j153, j157, j158, j162, AV.proj, AV.offOf, AV.size, AV.sizeL, j163, j164, j166, j167, j170, j171, j173, j174, j175, j177, ↓reduceIte, Nat.reduceAdd, Nat.reduceEqDiff, j182, j185, j191, j193, j195, j196, j197, j206, j207, j208, j212, ↓j225, j250, j260, j261, j276, j277, j288, j291, j296, j299, j309, j370, j380, bb2, nn, hk, hszk, hkl2, g0, g1, g2, g3, wy]
              refine CallTo.gen (args := [.ptr 2 0 [], .int .u32 ((o.last + 1 : Nat) : Int)]) (orH o) (orH o1) 102 rfl fok11 (by simp -dsimp -implicitDefEqProofs only [↓j25, ↓j29, j173, j174, ↓reduceIte, Nat.reduceEqDiff]) (notup2 (fun vs h => by cases h) fun vs h => by cases h) hpb (SubH.of (by simp -dsimp -implicitDefEqProofs only [↓j27, ↓reduceIte, Nat.reduceEqDiff, j182, j204, j205])) ⟨by simp, put_or⟩ ?_
              have ye : ((((o.last + 1) : Nat) : Int) == ((o.last + 1 : Nat) : Int)) = true := by rw [beq_iff_eq] <;> omega
              simp -dsimp -implicitDefEqProofs only [↓j0, ↓j1, ↓j2, ↓j4, ↓j7, ↓j8, ↓j9, ↓j12, ↓j13, ↓j15, j17, j18, j19, j20, j21, j22, j23, j24, ↓j25, ↓j27, ↓j29, ↓j30, j32, j33, ↓j38, ↓j39, ↓j40, ↓j43, ↓j44, ↓j45, ↓j48, ↓j53, ↓j56, ↓j76, ↓j78, ↓j79, j83, ↓j89, j130, ↓j145, ↓j146, ↓j147, ↓j148, ↓j149, ↓j150, ↓j153, j154, j157, j158, j159, AV.proj, AV.offOf, AV.upd, AV.size, AV.sizeL, AV.layable, j163, j164, j167, j169, j170, j171, j172, j173, j174, j175, reduceCtorEq, ↓reduceIte, Nat.reduceEqDiff, j182, j185, j197, j259, j260, j282, n0, b2, w1, ye]
              have hls := last_spec o1
              have hho := hz_spec o1 ho1
              have hrz := hrel1.hz ho1
              have hks := hrel1.keys ho1
              have hk8 : (keysIn o1.live).length ≤ 8 := by rw [keysIn_len]; exact ho1.few
              have hlv := live_spec o1 ho1
              have hcl1 : (l : List Tx).length ≤ 1000 := by rw [hrel1.cnt]; have := hcnt1; omega
              have hrh := rhz100 (o.last + 1) o.max l hcl1 hp1
              have hli := lives100 (keysIn o1.live) (o.last + 1) o.max l hcl1 hp1 hks hk8
              rw [hl1] at hrz hls
              rw [hrz] at hrh
              refine CallTo.gen (args := [.ptr 2 0 []]) (orH o1) (orH o1) 102 rfl fok12 (by simp -dsimp -implicitDefEqProofs only [↓j25, ↓j29, j173, j174, ↓reduceIte]) (notup1 fun vs h => by cases h) hls (SubH.of (by simp -dsimp -implicitDefEqProofs only [↓j27, ↓reduceIte, Nat.reduceEqDiff, j182, j204, j205])) ⟨by simp, put_or⟩ ?_
              simp -dsimp -implicitDefEqProofs only [↓j4, ↓j5, j17, j18, j20, j21, j22, j23, j24, ↓j25, ↓j27, ↓j29, ↓j38, ↓j43, ↓j45, ↓j48, ↓j53, ↓j56, ↓j76, ↓j79, ↓j89, j130, ↓j145, ↓j146, ↓j148, ↓j151, ↓j153, j158, AV.proj, AV.offOf, AV.sizeL, j163, j164, j167, j170, j171, j172, j173, j174, j175, ↓reduceIte, Nat.reduceEqDiff, j182, j185, j197, j260, j282, nn]
              refine CallTo.gen (args := [.ptr 2 0 []]) (orH o1) (orH o1) 102 rfl fok18 (by simp -dsimp -implicitDefEqProofs only [↓j25, ↓j29, j173, j174, ↓reduceIte]) (notup1 fun vs h => by cases h) hho (SubH.of (by simp -dsimp -implicitDefEqProofs only [↓j27, ↓reduceIte, Nat.reduceEqDiff, j182, j204, j205])) ⟨by simp, put_or⟩ ?_
              simp -dsimp -implicitDefEqProofs only [↓j5, j17, j18, j20, j21, j22, j23, j24, ↓j25, ↓j29, ↓j38, ↓j53, ↓j145, ↓j148, ↓j151, j163, j164, j170, j171, j172, j173, j174, j175, ↓reduceIte, Nat.reduceEqDiff]
              refine CallTo.gen (args := [.ptr 99 0 []]) (lvH (o.last + 1) o.max l 100) (lvH (o.last + 1) o.max l 100) 102 rfl fok19 (by simp -dsimp -implicitDefEqProofs only [↓j25, ↓j29, j173, j174, ↓reduceIte]) (notup1 fun vs h => by cases h) hrh (SubH.of (by simp -dsimp -implicitDefEqProofs only [↓j27, ↓reduceIte, Nat.reduceEqDiff, j182, j204, j205, lvH])) ⟨by simp, put_lv⟩ ?_
              simp -dsimp -implicitDefEqProofs only [↓j3, ↓j4, ↓j5, j17, j18, j20, j21, j22, j23, j24, ↓j25, ↓j29, ↓j30, j32, ↓j40, ↓j48, j83, ↓j89, ↓j145, ↓j146, ↓j148, ↓j151, j158, j163, j164, j170, j171, j172, j173, j174, j175, ↓reduceIte, Nat.reduceEqDiff, j185, j195, nn, lvH]
              refine ⟨by kernel_rfl, ?_⟩
              simp -dsimp -implicitDefEqProofs only [↓j1, ↓j7, ↓j9, ↓j12, ↓j13, ↓j15, j17, j18, j20, ↓j25, ↓j29, ↓j38, ↓j53, ↓j145, ↓j148, ↓j149, j171, ↓reduceIte, Nat.reduceEqDiff]
              refine CallTo.gen (args := [.ptr 2 0 []]) (orH o1) (orH o1) 102 rfl fok21 (by simp -dsimp -implicitDefEqProofs only [↓j25, ↓j29, j173, j174, ↓reduceIte]) (notup1 fun vs h => by cases h) hlv (SubH.of (by simp -dsimp -implicitDefEqProofs only [↓j27, ↓reduceIte, Nat.reduceEqDiff, j182, j204, j205])) ⟨by simp, put_or⟩ ?_
              simp -dsimp -implicitDefEqProofs only [↓j1, j17, j18, j20, j21, j22, j23, ↓j25, ↓j29, ↓j38, ↓j53, ↓j145, j170, j171, j173, j174, ↓reduceIte, Nat.reduceEqDiff]
              refine CallTo.gen (args := [keysAV (keysIn o1.live), .ptr 99 0 []]) (lvH (o.last + 1) o.max l 100) (lvH (o.last + 1) o.max l 100) 102 rfl fok20 (by simp -dsimp -implicitDefEqProofs only [↓j25, ↓j29, j173, j174, ↓reduceIte, Nat.reduceEqDiff]) (notup2 (fun vs h => by cases h) fun vs h => by cases h) hli (SubH.of (by simp -dsimp -implicitDefEqProofs only [↓j27, ↓reduceIte, Nat.reduceEqDiff, j182, j204, j205, lvH])) ⟨by simp, put_lv⟩ ?_
              simp -dsimp -implicitDefEqProofs only [↓j0, ↓j1, ↓j7, ↓j9, ↓j13, ↓j15, j17, j18, j20, j21, j22, j23, ↓j25, ↓j29, ↓j30, j33, ↓j38, ↓j39, ↓j48, ↓j55, j84, ↓j89, ↓j145, ↓j146, ↓j148, ↓j149, j154, j170, j171, j173, j174, ↓reduceIte, Nat.reduceEqDiff, j185, j193, lvH]
              exact ⟨n - 1, plSt last o.max ops o1 l (i + 1), by omega, ⟨o1, l, i + 1, ho1, hrel1, by omega, hcnt1, hmx1, rfl⟩, Wk.trans (Wk.mk (s' := ⟨237, plT last o.max ops (i + 1), plG o1 l 100, 102⟩) (SubT.spec (by simp -dsimp -implicitDefEqProofs only [↓j25, reduceCtorEq, ↓reduceIte, Nat.reduceEqDiff, j182, j202, j203, plT, hw] <;> simp)) (SubH.spec (by simp -dsimp -implicitDefEqProofs only [↓j27, ↓reduceIte, Nat.reduceEqDiff, j182, j204, j205, plG, ro_lv hp1, lvH, hl1, hmx1] <;> simp)) (Nat.le_refl _) rfl) pl_gc⟩
        · first
            | exfalso; omega
            | skip
              rw [if_pos hlm3] at fNx
              have hpp : o.pubP 0 = (1, o) := by rw [fPub, fNx, if_pos (.inl (by decide))]
              have hpb := pub_spec o ho 0 (by omega)
              rw [hpp] at hpb
              have hpb : ACall Try.prog 11 [.ptr 2 0 [], .int .u32 0] (orH o) (.int .i64 1) (orH o) := hpb
              have ho1 := ho
              have hrel1 := hrel
              have hcnt1 : o.count ≤ i + 1 := by omega
              have hl1 : o.last = o.last := rfl
              have hmx1 : o.max = o.max := rfl
              have hp1 := hp
              simp -dsimp -implicitDefEqProofs only [↓j0, ↓j1, ↓j2, ↓j7, ↓j9, ↓j12, ↓j13, ↓j14, ↓j15, j17, j18, j20, j21, j22, j23, ↓j25, ↓j27, ↓j29, ↓j30, j32, j33, ↓j38, ↓j39, ↓j40, ↓j43, ↓j45, ↓j46, ↓j48, ↓j50, ↓j53, ↓j55, ↓j56, ↓j57, ↓j76, ↓j79, j82, j83, j84, j85, ↓j89, ↓j90, ↓j93, j130, j135, ↓j145, ↓j146, ↓j147, ↓j148, ↓j149, ↓j150, ↓j151, ↓j153, j157, j158, j162, AV.proj, AV.offOf, AV.size, AV.sizeL, j163, j164, j166, j167, j170, j171, j173, j174, j175, j177, ↓reduceIte, Nat.reduceAdd, Nat.reduceEqDiff, j182, j185, j191, j193, j195, j196, j197, j206, j207, j208, j212, ↓j225, j250, j260, j261, j276, j277, j288, j291, j296, j299, j309, j370, j380, bb2, nn, hk, hszk, hkl2, g0, g1, g2, g3, wy]
              refine CallTo.gen (args := [.ptr 2 0 [], .int .u32 0]) (orH o) (orH o) 102 rfl fok11 (by simp -dsimp -implicitDefEqProofs only [↓j25, ↓j29, j173, j174, ↓reduceIte, Nat.reduceEqDiff]) (notup2 (fun vs h => by cases h) fun vs h => by cases h) hpb (SubH.of (by simp -dsimp -implicitDefEqProofs only [↓j27, ↓reduceIte, Nat.reduceEqDiff, j182, j204, j205])) ⟨by simp, put_or⟩ ?_
              simp -dsimp -implicitDefEqProofs only [↓j0, ↓j1, ↓j2, ↓j4, ↓j7, ↓j8, ↓j9, ↓j12, ↓j13, ↓j15, j17, j18, j20, j21, j22, j23, j24, ↓j25, ↓j27, ↓j29, ↓j30, j32, j33, ↓j38, ↓j39, ↓j40, ↓j43, ↓j45, ↓j48, ↓j53, ↓j56, ↓j76, ↓j79, j82, ↓j89, j130, ↓j145, ↓j146, ↓j148, ↓j149, ↓j150, ↓j153, j158, j159, AV.proj, AV.offOf, AV.sizeL, j163, j164, j167, j170, j171, j172, j173, j174, j175, reduceCtorEq, ↓reduceIte, Nat.reduceEqDiff, j182, j185, j197, j260, j282, n1, b2]
              have hls := last_spec o
              have hho := hz_spec o ho1
              have hrz := hrel1.hz ho1
              have hks := hrel1.keys ho1
              have hk8 : (keysIn o.live).length ≤ 8 := by rw [keysIn_len]; exact ho1.few
              have hlv := live_spec o ho1
              have hcl1 : (l : List Tx).length ≤ 1000 := by rw [hrel1.cnt]; have := hcnt1; omega
              have hrh := rhz100 o.last o.max l hcl1 hp1
              have hli := lives100 (keysIn o.live) o.last o.max l hcl1 hp1 hks hk8
              rw [hl1] at hrz hls
              rw [hrz] at hrh
              refine CallTo.gen (args := [.ptr 2 0 []]) (orH o) (orH o) 102 rfl fok12 (by simp -dsimp -implicitDefEqProofs only [↓j25, ↓j29, j173, j174, ↓reduceIte]) (notup1 fun vs h => by cases h) hls (SubH.of (by simp -dsimp -implicitDefEqProofs only [↓j27, ↓reduceIte, Nat.reduceEqDiff, j182, j204, j205])) ⟨by simp, put_or⟩ ?_
              simp -dsimp -implicitDefEqProofs only [↓j4, ↓j5, j17, j18, j20, j21, j22, j23, j24, ↓j25, ↓j27, ↓j29, ↓j38, ↓j43, ↓j45, ↓j48, ↓j53, ↓j56, ↓j76, ↓j79, ↓j89, j130, ↓j145, ↓j146, ↓j148, ↓j151, ↓j153, j158, AV.proj, AV.offOf, AV.sizeL, j163, j164, j167, j170, j171, j172, j173, j174, j175, ↓reduceIte, Nat.reduceEqDiff, j182, j185, j197, j260, j282, nn]
              refine CallTo.gen (args := [.ptr 2 0 []]) (orH o) (orH o) 102 rfl fok18 (by simp -dsimp -implicitDefEqProofs only [↓j25, ↓j29, j173, j174, ↓reduceIte]) (notup1 fun vs h => by cases h) hho (SubH.of (by simp -dsimp -implicitDefEqProofs only [↓j27, ↓reduceIte, Nat.reduceEqDiff, j182, j204, j205])) ⟨by simp, put_or⟩ ?_
              simp -dsimp -implicitDefEqProofs only [↓j5, j17, j18, j20, j21, j22, j23, j24, ↓j25, ↓j29, ↓j38, ↓j53, ↓j145, ↓j148, ↓j151, j163, j164, j170, j171, j172, j173, j174, j175, ↓reduceIte, Nat.reduceEqDiff]
              refine CallTo.gen (args := [.ptr 99 0 []]) (lvH o.last o.max l 100) (lvH o.last o.max l 100) 102 rfl fok19 (by simp -dsimp -implicitDefEqProofs only [↓j25, ↓j29, j173, j174, ↓reduceIte]) (notup1 fun vs h => by cases h) hrh (SubH.of (by simp -dsimp -implicitDefEqProofs only [↓j27, ↓reduceIte, Nat.reduceEqDiff, j182, j204, j205, lvH])) ⟨by simp, put_lv⟩ ?_
              simp -dsimp -implicitDefEqProofs only [↓j3, ↓j4, ↓j5, j17, j18, j20, j21, j22, j23, j24, ↓j25, ↓j29, ↓j30, j32, ↓j40, ↓j48, j83, ↓j89, ↓j145, ↓j146, ↓j148, ↓j151, j158, j163, j164, j170, j171, j172, j173, j174, j175, ↓reduceIte, Nat.reduceEqDiff, j185, j195, nn, lvH]
              refine ⟨by kernel_rfl, ?_⟩
              simp -dsimp -implicitDefEqProofs only [↓j1, ↓j7, ↓j9, ↓j12, ↓j13, ↓j15, j17, j18, j20, ↓j25, ↓j29, ↓j38, ↓j53, ↓j145, ↓j148, ↓j149, j171, ↓reduceIte, Nat.reduceEqDiff]
              refine CallTo.gen (args := [.ptr 2 0 []]) (orH o) (orH o) 102 rfl fok21 (by simp -dsimp -implicitDefEqProofs only [↓j25, ↓j29, j173, j174, ↓reduceIte]) (notup1 fun vs h => by cases h) hlv (SubH.of (by simp -dsimp -implicitDefEqProofs only [↓j27, ↓reduceIte, Nat.reduceEqDiff, j182, j204, j205])) ⟨by simp, put_or⟩ ?_
              simp -dsimp -implicitDefEqProofs only [↓j1, j17, j18, j20, j21, j22, j23, ↓j25, ↓j29, ↓j38, ↓j53, ↓j145, j170, j171, j173, j174, ↓reduceIte, Nat.reduceEqDiff]
              refine CallTo.gen (args := [keysAV (keysIn o.live), .ptr 99 0 []]) (lvH o.last o.max l 100) (lvH o.last o.max l 100) 102 rfl fok20 (by simp -dsimp -implicitDefEqProofs only [↓j25, ↓j29, j173, j174, ↓reduceIte, Nat.reduceEqDiff]) (notup2 (fun vs h => by cases h) fun vs h => by cases h) hli (SubH.of (by simp -dsimp -implicitDefEqProofs only [↓j27, ↓reduceIte, Nat.reduceEqDiff, j182, j204, j205, lvH])) ⟨by simp, put_lv⟩ ?_
              simp -dsimp -implicitDefEqProofs only [↓j0, ↓j1, ↓j7, ↓j9, ↓j13, ↓j15, j17, j18, j20, j21, j22, j23, ↓j25, ↓j29, ↓j30, j33, ↓j38, ↓j39, ↓j48, ↓j55, j84, ↓j89, ↓j145, ↓j146, ↓j148, ↓j149, j154, j170, j171, j173, j174, ↓reduceIte, Nat.reduceEqDiff, j185, j193, lvH]
              exact ⟨n - 1, plSt last o.max ops o l (i + 1), by omega, ⟨o, l, i + 1, ho1, hrel1, by omega, hcnt1, hmx1, rfl⟩, Wk.trans (Wk.mk (s' := ⟨237, plT last o.max ops (i + 1), plG o l 100, 102⟩) (SubT.spec (by simp -dsimp -implicitDefEqProofs only [↓j25, reduceCtorEq, ↓reduceIte, Nat.reduceEqDiff, j182, j202, j203, plT, hw] <;> simp)) (SubH.spec (by simp -dsimp -implicitDefEqProofs only [↓j27, ↓reduceIte, Nat.reduceEqDiff, j182, j204, j205, plG, ro_lv hp1, lvH] <;> simp)) (Nat.le_refl _) rfl) pl_gc⟩
      have g3 : (x.1 == 3) = false := by rw [beq_eq_false_iff_ne]; exact k3
      have ho1 := ho
      have hrel1 := hrel
      have hcnt1 : o.count ≤ i + 1 := by omega
      have hl1 : o.last = o.last := rfl
      have hmx1 : o.max = o.max := rfl
      have hp1 := hp
      simp -dsimp -implicitDefEqProofs only [↓j0, ↓j1, ↓j2, ↓j4, ↓j7, ↓j8, ↓j9, ↓j12, ↓j13, ↓j14, ↓j15, j17, j18, j20, j21, j22, j23, j24, ↓j25, ↓j27, ↓j29, ↓j30, j32, j33, ↓j38, ↓j39, ↓j40, ↓j43, ↓j45, ↓j46, ↓j48, ↓j53, ↓j55, ↓j56, ↓j57, ↓j76, ↓j79, j82, j83, j84, j85, ↓j89, ↓j90, ↓j93, j130, j135, ↓j145, ↓j146, ↓j147, ↓j148, ↓j149, ↓j150, ↓j151, ↓j153, j157, j158, j162, AV.proj, AV.offOf, AV.size, AV.sizeL, j163, j164, j166, j167, j170, j171, j172, j173, j174, j175, j177, ↓reduceIte, Nat.reduceAdd, Nat.reduceEqDiff, j182, j185, j191, j193, j195, j196, j197, j206, j207, j208, j212, j250, j260, j276, j277, j288, j296, j309, j370, bb2, nn, hk, hszk, hkl2, g0, g1, g2, g3]
      have hls := last_spec o
      have hho := hz_spec o ho1
      have hrz := hrel1.hz ho1
      have hks := hrel1.keys ho1
      have hk8 : (keysIn o.live).length ≤ 8 := by rw [keysIn_len]; exact ho1.few
      have hlv := live_spec o ho1
      have hcl1 : (l : List Tx).length ≤ 1000 := by rw [hrel1.cnt]; have := hcnt1; omega
      have hrh := rhz100 o.last o.max l hcl1 hp1
      have hli := lives100 (keysIn o.live) o.last o.max l hcl1 hp1 hks hk8
      rw [hl1] at hrz hls
      rw [hrz] at hrh
      refine CallTo.gen (args := [.ptr 2 0 []]) (orH o) (orH o) 102 rfl fok12 (by simp -dsimp -implicitDefEqProofs only [↓j25, ↓j29, j173, j174, ↓reduceIte]) (notup1 fun vs h => by cases h) hls (SubH.of (by simp -dsimp -implicitDefEqProofs only [↓j27, ↓reduceIte, Nat.reduceEqDiff, j182, j204, j205])) ⟨by simp, put_or⟩ ?_
      simp -dsimp -implicitDefEqProofs only [↓j4, ↓j5, j17, j18, j20, j21, j22, j23, j24, ↓j25, ↓j27, ↓j29, ↓j38, ↓j43, ↓j45, ↓j48, ↓j53, ↓j56, ↓j76, ↓j79, ↓j89, j130, ↓j145, ↓j146, ↓j148, ↓j151, ↓j153, j158, AV.proj, AV.offOf, AV.sizeL, j163, j164, j167, j170, j171, j172, j173, j174, j175, ↓reduceIte, Nat.reduceEqDiff, j182, j185, j197, j260, j282, nn]
      refine CallTo.gen (args := [.ptr 2 0 []]) (orH o) (orH o) 102 rfl fok18 (by simp -dsimp -implicitDefEqProofs only [↓j25, ↓j29, j173, j174, ↓reduceIte]) (notup1 fun vs h => by cases h) hho (SubH.of (by simp -dsimp -implicitDefEqProofs only [↓j27, ↓reduceIte, Nat.reduceEqDiff, j182, j204, j205])) ⟨by simp, put_or⟩ ?_
      simp -dsimp -implicitDefEqProofs only [↓j5, j17, j18, j20, j21, j22, j23, j24, ↓j25, ↓j29, ↓j38, ↓j53, ↓j145, ↓j148, ↓j151, j163, j164, j170, j171, j172, j173, j174, j175, ↓reduceIte, Nat.reduceEqDiff]
      refine CallTo.gen (args := [.ptr 99 0 []]) (lvH o.last o.max l 100) (lvH o.last o.max l 100) 102 rfl fok19 (by simp -dsimp -implicitDefEqProofs only [↓j25, ↓j29, j173, j174, ↓reduceIte]) (notup1 fun vs h => by cases h) hrh (SubH.of (by simp -dsimp -implicitDefEqProofs only [↓j27, ↓reduceIte, Nat.reduceEqDiff, j182, j204, j205, lvH])) ⟨by simp, put_lv⟩ ?_
      simp -dsimp -implicitDefEqProofs only [↓j3, ↓j4, ↓j5, j17, j18, j20, j21, j22, j23, j24, ↓j25, ↓j29, ↓j30, j32, ↓j40, ↓j48, j83, ↓j89, ↓j145, ↓j146, ↓j148, ↓j151, j158, j163, j164, j170, j171, j172, j173, j174, j175, ↓reduceIte, Nat.reduceEqDiff, j185, j195, nn, lvH]
      refine ⟨by kernel_rfl, ?_⟩
      simp -dsimp -implicitDefEqProofs only [↓j1, ↓j7, ↓j9, ↓j12, ↓j13, ↓j15, j17, j18, j20, ↓j25, ↓j29, ↓j38, ↓j53, ↓j145, ↓j148, ↓j149, j171, ↓reduceIte, Nat.reduceEqDiff]
      refine CallTo.gen (args := [.ptr 2 0 []]) (orH o) (orH o) 102 rfl fok21 (by simp -dsimp -implicitDefEqProofs only [↓j25, ↓j29, j173, j174, ↓reduceIte]) (notup1 fun vs h => by cases h) hlv (SubH.of (by simp -dsimp -implicitDefEqProofs only [↓j27, ↓reduceIte, Nat.reduceEqDiff, j182, j204, j205])) ⟨by simp, put_or⟩ ?_
      simp -dsimp -implicitDefEqProofs only [↓j1, j17, j18, j20, j21, j22, j23, ↓j25, ↓j29, ↓j38, ↓j53, ↓j145, j170, j171, j173, j174, ↓reduceIte, Nat.reduceEqDiff]
      refine CallTo.gen (args := [keysAV (keysIn o.live), .ptr 99 0 []]) (lvH o.last o.max l 100) (lvH o.last o.max l 100) 102 rfl fok20 (by simp -dsimp -implicitDefEqProofs only [↓j25, ↓j29, j173, j174, ↓reduceIte, Nat.reduceEqDiff]) (notup2 (fun vs h => by cases h) fun vs h => by cases h) hli (SubH.of (by simp -dsimp -implicitDefEqProofs only [↓j27, ↓reduceIte, Nat.reduceEqDiff, j182, j204, j205, lvH])) ⟨by simp, put_lv⟩ ?_
      simp -dsimp -implicitDefEqProofs only [↓j0, ↓j1, ↓j7, ↓j9, ↓j13, ↓j15, j17, j18, j20, j21, j22, j23, ↓j25, ↓j29, ↓j30, j33, ↓j38, ↓j39, ↓j48, ↓j55, j84, ↓j89, ↓j145, ↓j146, ↓j148, ↓j149, j154, j170, j171, j173, j174, ↓reduceIte, Nat.reduceEqDiff, j185, j193, lvH]
      exact ⟨n - 1, plSt last o.max ops o l (i + 1), by omega, ⟨o, l, i + 1, ho1, hrel1, by omega, hcnt1, hmx1, rfl⟩, Wk.trans (Wk.mk (s' := ⟨237, plT last o.max ops (i + 1), plG o l 100, 102⟩) (SubT.spec (by simp -dsimp -implicitDefEqProofs only [↓j25, reduceCtorEq, ↓reduceIte, Nat.reduceEqDiff, j182, j202, j203, plT, hw] <;> simp)) (SubH.spec (by simp -dsimp -implicitDefEqProofs only [↓j27, ↓reduceIte, Nat.reduceEqDiff, j182, j204, j205, plG, ro_lv hp1, lvH] <;> simp)) (Nat.le_refl _) rfl) pl_gc⟩
end Go.Proofs.Ytiolhncfnoafeaa
