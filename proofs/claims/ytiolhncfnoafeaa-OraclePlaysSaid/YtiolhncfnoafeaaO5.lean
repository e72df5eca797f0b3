/- do; the laws OracleNumbers, OracleEnds, OracleNone. -/
import Derived.Test.YtiolhncfnoafeaaO4
set_option linter.unusedVariables false
set_option linter.unusedSimpArgs false
namespace Go.Proofs.Ytiolhncfnoafeaa
open Go Go.RowKit

abbrev Op' := Int × Nat
abbrev opAV (x : Op') : AV := .agg [.int .i64 x.1, .int .u64 x.2]
def opOk' (x : Op') : Prop := kOk x.2
abbrev opsAV (l : List Op') : AV := .vsl (l.map opAV) l.length
theorem on_ops (S : Nat → Prop) (l : List Op') : AV.onL S (l.map opAV) := by
  rw [AV.onL_iff]
  intro x hx
  obtain ⟨o, _, rfl⟩ := List.mem_map.1 hx; exact ⟨trivial, trivial, trivial⟩
theorem unif_ops (l : List Op') : Unif 2 (l.map opAV) := fun x hx => by
  obtain ⟨o, _, rfl⟩ := List.mem_map.1 hx; rfl
def OS.doP (o : OS) (x : Op') : OS :=
  if x.1 = 0 then o.beginP.2 else if x.1 = 1 then (o.endP x.2).2 else if x.1 = 2 then (o.pubP (x.2 % 4294967296)).2 else
  if x.1 = 3 then (if o.nextP.2 = 0 then (o.pubP o.nextP.1).2 else o) else o
theorem next_lt {o : OS} (ho : o.Ok) : o.nextP.1 < 4294967296 := by
  have h1 := ho.lm
  have h2 := ho.max
  unfold OS.nextP
  split
  · show (0 : Nat) < 4294967296; decide
  · rename_i h; show o.last + 1 < 4294967296; omega
theorem do_ok {o : OS} (ho : o.Ok) (hc : o.count < 1000) (x : Op') : (o.doP x).Ok := by
  unfold OS.doP
  split
  · exact begin_ok ho hc
  split
  · exact end_ok ho _
  split
  · exact pub_ok ho _
  split
  · split
    · exact pub_ok ho _
    · exact ho
  · exact ho
theorem begin_count (o : OS) : o.beginP.2.count ≤ o.count + 1 ∧ o.count ≤ o.beginP.2.count := by
  unfold OS.beginP
  split
  · exact ⟨Nat.le_succ _, Nat.le_refl _⟩
  · exact ⟨Nat.le_refl _, Nat.le_succ _⟩
theorem end_count (o : OS) (n : Nat) : (o.endP n).2.count = o.count := by
  unfold OS.endP; split <;> rfl
theorem pub_count (o : OS) (n : Nat) : (o.pubP n).2.count = o.count := by
  unfold OS.pubP; split <;> rfl
theorem do_count (o : OS) (x : Op') : (o.doP x).count ≤ o.count + 1 ∧ o.count ≤ (o.doP x).count := by
  unfold OS.doP
  split
  · exact begin_count o
  split
  · rw [end_count]; omega
  split
  · rw [pub_count]; omega
  split
  · split
    · rw [pub_count]; omega
    · omega
  · omega
theorem args_do {o : OS} {x : Op'} : ∀ y, y ∈ AV.ptr 2 0 [] :: [opAV x] → AV.on (fun n => n ∈ (orH o).map (·.1)) y ∧ ∀ vs, y ≠ .tuple vs := or_args fun y hy => by
  simp only [List.mem_singleton] at hy; subst hy; exact ⟨⟨trivial, trivial, trivial⟩, fun vs h => by cases h⟩
theorem do_spec (o : OS) (ho : o.Ok) (hc : o.count < 1000) (x : Op') (hx : opOk' x) : ACall Try.prog 22 [.ptr 2 0 [], opAV x] (orH o) (.tuple []) (orH (o.doP x)) := by
  refine ACall.runH (Z := Z) (N := 37) mixed hZ Try.func22 rfl rfl (by kernel_rfl) (by simp) args_do (or_on (by simp)) 3 or_lt ?_
  have hD : o.doP x = if x.1 = 0 then o.beginP.2 else if x.1 = 1 then (o.endP x.2).2 else if x.1 = 2 then (o.pubP (x.2 % 4294967296)).2 else
    if x.1 = 3 then (if o.nextP.2 = 0 then (o.pubP o.nextP.1).2 else o) else o := rfl
  have fin : ∀ (o' : OS) (t : Env) (H : Heap) (m : Nat), o' = o.doP x → Heap.get H 2 = some (orC o') → Heap.get H 1 = some (mapB o'.live) → Final Try.prog Try.f22 (.tuple []) (orH (o.doP x)) .normal ⟨37, t, H, m⟩ := fun o' t H m h h1 h2 => by
    rw [← h]
    exact Final.manyH (.inl rfl) (rs := []) (us := []) rfl trivial (by simp) trivial (or_keep h1 h2)
  by_cases k0 : x.1 = 0
  · have e0 : (x.1 == 0) = true := by rw [beq_iff_eq]; exact k0
    have hb := begin_spec o ho hc
    rw [if_pos k0] at hD
    obtain ⟨r, hr⟩ : ∃ r, o.beginP = r := ⟨_, rfl⟩
    rw [hr] at hb hD
    simp -dsimp -implicitDefEqProofs only [↓j0, ↓j1, ↓j7, ↓j12, ↓j13, ↓j14, ↓j15, j17, j18, j20, ↓j25, ↓j27, ↓j29, ↓j30, j33, ↓j38, ↓j39, ↓j42, ↓j43, ↓j45, ↓j48, ↓j53, ↓j76, ↓j79, ↓j89, j130, ↓j145, ↓j146, ↓j147, ↓j149, ↓j153, j157, AV.proj, AV.offOf, AV.sizeL, AV.layable, argEnv, j163, j167, j170, j171, reduceCtorEq, ↓reduceIte, Nat.reduceAdd, j182, j185, j196, j197, j250, j296, e0]
    refine CallTo.gen (args := [.ptr 2 0 []]) (orH o) (orH r.2) 4 rfl fok15 (by simp -dsimp -implicitDefEqProofs only [↓j25, ↓j29, j173, j174, ↓reduceIte]) (notup1 fun vs h => by cases h) hb (SubH.of (by simp -dsimp -implicitDefEqProofs only [↓j27, ↓reduceIte, Nat.reduceEqDiff, j182, j204, j205])) ⟨by simp, put_or⟩ ?_
    simp -dsimp -implicitDefEqProofs only [↓j0, j17, j18, j20, j21, j22, j23, j170, j171, j173, j174, ↓reduceIte, Nat.reduceEqDiff]
    exact fin _ _ _ _ hD.symm rfl rfl
  have e0 : (x.1 == 0) = false := by rw [beq_eq_false_iff_ne]; exact k0
  rw [if_neg k0] at hD
  by_cases k1 : x.1 = 1
  · have e1 : (x.1 == 1) = true := by rw [beq_iff_eq]; exact k1
    have hb := end_spec o ho x.2 hx
    rw [if_pos k1] at hD
    obtain ⟨r, hr⟩ : ∃ r, o.endP x.2 = r := ⟨_, rfl⟩
    rw [hr] at hb hD
    simp -dsimp -implicitDefEqProofs only [↓j0, ↓j1, ↓j7, ↓j12, ↓j13, ↓j14, ↓j15, j17, j18, j20, ↓j25, ↓j27, ↓j29, ↓j30, j33, ↓j38, ↓j39, ↓j42, ↓j43, ↓j45, ↓j48, ↓j53, ↓j76, ↓j79, ↓j89, j130, ↓j145, ↓j146, ↓j147, ↓j148, ↓j149, ↓j153, j157, AV.proj, AV.offOf, AV.size, AV.sizeL, AV.layable, argEnv, j163, j164, j166, j167, j170, j171, reduceCtorEq, ↓reduceIte, Nat.reduceAdd, Nat.reduceEqDiff, j182, j185, j196, j197, j250, j291, j296, j299, e0, e1]
    refine CallTo.gen (args := [.ptr 2 0 [], .int .u64 x.2]) (orH o) (orH r.2) 4 rfl fok17 (by simp -dsimp -implicitDefEqProofs only [↓j25, ↓j29, j173, j174, ↓reduceIte, Nat.reduceEqDiff]) (notup2 (fun vs h => by cases h) fun vs h => by cases h) hb (SubH.of (by simp -dsimp -implicitDefEqProofs only [↓j27, ↓reduceIte, Nat.reduceEqDiff, j182, j204, j205])) ⟨by simp, put_or⟩ ?_
    simp -dsimp -implicitDefEqProofs only [↓j0, j17, j18, j20, j21, j22, j23, j170, j171, j173, j174, ↓reduceIte, Nat.reduceEqDiff]
    exact fin _ _ _ _ hD.symm rfl rfl
  have e1 : (x.1 == 1) = false := by rw [beq_eq_false_iff_ne]; exact k1
  rw [if_neg k1] at hD
  by_cases k2 : x.1 = 2
  · have e2 : (x.1 == 2) = true := by rw [beq_iff_eq]; exact k2
    have hb := pub_spec o ho (x.2 % 4294967296) (Nat.mod_lt _ (by decide))
    have hw := wrap_u32 x.2
    rw [if_pos k2] at hD
    obtain ⟨r, hr⟩ : ∃ r, o.pubP (x.2 % 4294967296) = r := ⟨_, rfl⟩
    rw [hr] at hb hD
    obtain ⟨y, hy⟩ : ∃ y, x.2 % 4294967296 = y := ⟨_, rfl⟩
    rw [hy] at hb hw
    simp -dsimp -implicitDefEqProofs only [↓j0, ↓j1, ↓j7, ↓j12, ↓j13, ↓j14, ↓j15, j17, j18, j20, ↓j25, ↓j27, ↓j29, ↓j30, j33, ↓j38, ↓j39, ↓j42, ↓j43, ↓j45, ↓j48, ↓j50, ↓j53, ↓j76, ↓j79, ↓j89, j130, ↓j145, ↓j146, ↓j147, ↓j148, ↓j149, ↓j153, j157, AV.proj, AV.offOf, AV.size, AV.sizeL, AV.layable, argEnv, j163, j164, j166, j167, j170, j171, reduceCtorEq, ↓reduceIte, Nat.reduceAdd, Nat.reduceEqDiff, j182, j185, j196, j197, ↓j225, j250, j261, j291, j296, j299, j380, e0, e1, e2, hw]
    refine CallTo.gen (args := [.ptr 2 0 [], .int .u32 y]) (orH o) (orH r.2) 4 rfl fok11 (by simp -dsimp -implicitDefEqProofs only [↓j25, ↓j29, j173, j174, ↓reduceIte, Nat.reduceEqDiff]) (notup2 (fun vs h => by cases h) fun vs h => by cases h) hb (SubH.of (by simp -dsimp -implicitDefEqProofs only [↓j27, ↓reduceIte, Nat.reduceEqDiff, j182, j204, j205])) ⟨by simp, put_or⟩ ?_
    simp -dsimp -implicitDefEqProofs only [↓j0, j17, j18, j20, j21, j22, j23, j170, j171, j173, j174, ↓reduceIte, Nat.reduceEqDiff]
    exact fin _ _ _ _ hD.symm rfl rfl
  have e2 : (x.1 == 2) = false := by rw [beq_eq_false_iff_ne]; exact k2
  rw [if_neg k2] at hD
  by_cases k3 : x.1 = 3
  · have e3 : (x.1 == 3) = true := by rw [beq_iff_eq]; exact k3
    rw [if_pos k3] at hD
    have hb := pub_spec o ho o.nextP.1 (next_lt ho)
    have hn := next_spec o ho
    obtain ⟨⟨y, f⟩, hy⟩ : ∃ r, o.nextP = r := ⟨_, rfl⟩
    rw [hy] at hb hD hn
    simp only at hb hD
    obtain ⟨r, hr⟩ : ∃ r, o.pubP y = r := ⟨_, rfl⟩
    rw [hr] at hb hD
    simp -dsimp -implicitDefEqProofs only [↓j0, ↓j1, ↓j7, ↓j12, ↓j13, ↓j14, ↓j15, j17, j18, j20, ↓j25, ↓j27, ↓j29, ↓j30, j33, ↓j38, ↓j39, ↓j42, ↓j43, ↓j45, ↓j48, ↓j53, ↓j76, ↓j79, ↓j89, j130, ↓j145, ↓j146, ↓j147, ↓j148, ↓j149, ↓j153, j157, AV.proj, AV.offOf, AV.sizeL, AV.layable, argEnv, j163, j167, j170, j171, reduceCtorEq, ↓reduceIte, Nat.reduceAdd, Nat.reduceEqDiff, j182, j185, j196, j197, j250, j296, e0, e1, e2, e3]
    refine CallTo.gen (args := [.ptr 2 0 []]) (orH o) (orH o) 4 rfl fok10 (by simp -dsimp -implicitDefEqProofs only [↓j25, ↓j29, j173, j174, ↓reduceIte]) (notup1 fun vs h => by cases h) hn (SubH.of (by simp -dsimp -implicitDefEqProofs only [↓j27, ↓reduceIte, Nat.reduceEqDiff, j182, j204, j205])) ⟨by simp, put_or⟩ ?_
    by_cases hf : f = 0
    · subst hf
      have e4 : (((0 : Nat) : Int) == 0) = true := rfl
      rw [if_pos rfl] at hD
      simp -dsimp -implicitDefEqProofs only [↓j0, ↓j1, ↓j7, ↓j12, ↓j13, ↓j15, j17, j18, j20, j21, j22, j23, ↓j25, ↓j29, ↓j30, j33, ↓j38, ↓j39, ↓j48, ↓j53, ↓j57, j85, ↓j89, ↓j145, ↓j146, ↓j147, ↓j149, j157, j163, j164, j170, j171, j173, j174, reduceCtorEq, ↓reduceIte, Nat.reduceEqDiff, j185, e4]
      refine CallTo.gen (args := [.ptr 2 0 [], .int .u32 y]) (orH o) (orH r.2) 4 rfl fok11 (by simp -dsimp -implicitDefEqProofs only [↓j25, ↓j29, j173, j174, ↓reduceIte, Nat.reduceEqDiff]) (notup2 (fun vs h => by cases h) fun vs h => by cases h) hb (SubH.of (by simp -dsimp -implicitDefEqProofs only [↓j27, ↓reduceIte, Nat.reduceEqDiff, j182, j204, j205])) ⟨by simp, put_or⟩ ?_
      simp -dsimp -implicitDefEqProofs only [↓j0, j17, j18, j20, j21, j22, j23, j170, j171, j173, j174, ↓reduceIte, Nat.reduceEqDiff]
      exact fin _ _ _ _ hD.symm rfl rfl
    · have e4 : ((f : Int) == 0) = false := by rw [beq_eq_false_iff_ne]; omega
      rw [if_neg hf] at hD
      simp -dsimp -implicitDefEqProofs only [↓j0, ↓j1, ↓j7, ↓j9, ↓j12, ↓j13, ↓j15, j17, j18, j20, j21, j22, j23, ↓j25, ↓j29, ↓j30, j33, ↓j38, ↓j39, ↓j48, ↓j57, j85, ↓j89, ↓j145, ↓j146, ↓j148, ↓j149, j157, j163, j164, j170, j171, j173, j174, ↓reduceIte, Nat.reduceEqDiff, j185, e4]
      exact fin _ _ _ _ hD.symm rfl rfl
  have e3 : (x.1 == 3) = false := by rw [beq_eq_false_iff_ne]; exact k3
  rw [if_neg k3] at hD
  simp -dsimp -implicitDefEqProofs only [↓j0, ↓j1, ↓j7, ↓j9, ↓j12, ↓j13, ↓j14, ↓j15, j17, j18, j20, ↓j25, ↓j27, ↓j29, ↓j30, j33, ↓j39, ↓j42, ↓j43, ↓j45, ↓j48, ↓j76, ↓j79, ↓j89, j130, ↓j145, ↓j146, ↓j148, ↓j149, ↓j153, j157, AV.proj, AV.offOf, AV.sizeL, AV.layable, argEnv, j163, j167, j170, j171, reduceCtorEq, ↓reduceIte, Nat.reduceAdd, Nat.reduceEqDiff, j182, j185, j196, j197, j250, j296, e0, e1, e2, e3]
  exact fin o _ _ _ hD.symm rfl rfl
theorem end_gone {o : OS} (ho : o.Ok) (n : Nat) : (o.endP n).2.startP n = (0, false) := by
  have h : aGet (o.endP n).2.live n = none := by
    unfold OS.endP
    split
    · rw [aGet_none]
      intro hm
      obtain ⟨e, he, hen⟩ := List.mem_map.1 hm
      exact (((aDel_nodup n ho.nodup).2 e).1 he).2 hen
    · rename_i h
      unfold OS.startP at h
      cases hg : aGet o.live n with
      | none => rfl
      | some v => rw [hg] at h; exact absurd rfl h
  unfold OS.startP
  rw [h]
def nuSt (l : List Op') (o : OS) (a i : Nat) : St := ⟨76, [(4, .int .u64 a), (5, .int .i64 i), (0, opsAV l), (3, .ptr 2 0 []), (2, .bool false)], orH o, 3⟩
theorem args_ops {l : List Op'} : ∀ x, x ∈ [opsAV l] → AV.on (fun _ => False) x ∧ ∀ vs, x ≠ .tuple vs := fun x hx => by
  simp only [List.mem_singleton] at hx; subst hx; exact ⟨on_ops _ _, fun vs h => by cases h⟩
theorem put_new {o : OS} {k : Nat} (hk : k ≤ 1) : ∀ n x, Heap.get (orH o) n = some x → n ∉ ([] : Heap).map (·.1) → k ≤ n ∧ n < 3 := fun n x h _ => by rcases get_or h with ⟨rfl, _⟩ | ⟨rfl, _⟩ <;> omega
set_option maxHeartbeats 3200000 in
theorem numbers_spec (l : List Op') (hl : ∀ x, x ∈ l → opOk' x) (hn : l.length ≤ 9223372036854775807) : ACall Try.prog 6 [opsAV l] [] (.bool true) [] := by
  refine ACall.run (Z := Z) (N := 76) mixed hZ Try.func6 rfl rfl (by kernel_rfl) (by simp) args_ops 0 ?_
  have o0 : (new0 0 4294967295).Ok := new_ok (by decide) (by decide)
  have hns := new_spec 0 4294967295 (by decide)
  simp -dsimp -implicitDefEqProofs only [↓j0, ↓j1, ↓j7, ↓j12, ↓j15, j17, j18, j20, ↓j30, j32, ↓j39, ↓j53, ↓j145, argEnv, j172]
  refine CallTo.gen (args := [.int .u32 0, .int .u32 4294967295]) [] (orH (new0 0 4294967295)) 3 rfl fok9 (by simp -dsimp -implicitDefEqProofs only [↓j30, j33, j173, j174]) (notup2 (fun vs h => by cases h) fun vs h => by cases h) hns (fun n b h => by simp [Heap.get] at h) ⟨by simp, put_new (k := 0) (by decide)⟩ ?_
  simp -dsimp -implicitDefEqProofs only [↓j0, ↓j1, ↓j7, ↓j9, ↓j12, ↓j13, ↓j14, ↓j15, ↓j16, j17, j18, j20, ↓j25, ↓j29, ↓j30, j33, j35, ↓j38, ↓j39, ↓j48, ↓j145, ↓j146, ↓j148, ↓j149, j171, j172, j174, ↓reduceIte, j211, ↓j235, j264]
  refine AWp.loopR (Z := Z) mixed hZ (by kernel_rfl) (fun n s => ∃ o a i, OS.Ok o ∧ i + n = 60 ∧ o.count ≤ i ∧ a ≤ o.count ∧ s = nuSt l o a i) (n0 := 60) (s0 := nuSt l (new0 0 4294967295) 0 0) ?_ ⟨_, 0, 0, o0, by omega, Nat.le_refl _, Nat.le_refl _, rfl⟩ ?_ rfl
  · exact Wk.sub (by simp -dsimp -implicitDefEqProofs only [↓j25, ↓j27, j179, reduceCtorEq, ↓reduceIte, Nat.reduceEqDiff, j182, j183, j184, j202, j203, j204, j205, j209, j223] <;> simp)
  rintro n s ⟨o, a, i, ho, hi, hc, ha, rfl⟩
  refine ⟨rfl, ?_⟩
  have done : Run Try.prog Z Code.skip ⟨0, [], [], 0⟩ (fun _ _ => True) := trivial
  by_cases hlt : i < l.length ∧ i < 60
  · obtain ⟨h1, h2⟩ := hlt
    have e1 : decide ((i : Int) < (l.length : Int)) = true := decide_eq_true (by omega)
    have e2 : decide ((i : Int) < 60) = true := decide_eq_true (by omega)
    obtain ⟨x, hx⟩ := list_get (xs := l) (i := i) h1
    have hxo := hl x (List.mem_of_getElem? hx)
    have hsz := (unif_ops l).sizeL_take (k := i) (by simp; omega)
    have hlt2 : (i : Int) < (l.length : Int) := by omega
    have hw : IntKind.i64.wrap ((i : Int) + 1) = ((i + 1 : Nat) : Int) := by rw [wrap_i64 (by omega) (by omega)]; omega
    by_cases k0 : x.1 = 0
    · have g0 : (x.1 == 0) = true := by rw [beq_iff_eq]; exact k0
      have hb := begin_spec o ho (by omega)
      have hbo := begin_ok ho (by omega)
      have hbc := begin_count o
      have hB : o.beginP = if o.live.length = 8 then ((0, 0, 10), o) else ((o.count + 1, o.last, 0), { o with count := o.count + 1, live := aPut o.live (o.count + 1) o.last }) := rfl
      obtain ⟨⟨⟨p, q, f⟩, o'⟩, hr⟩ : ∃ r, o.beginP = r := ⟨_, rfl⟩
      rw [hr] at hb hbo hbc hB
      simp -dsimp -implicitDefEqProofs only [↓j0, ↓j1, ↓j2, ↓j7, ↓j9, ↓j12, ↓j13, ↓j14, ↓j15, j17, j18, j20, ↓j25, ↓j29, ↓j30, j32, j33, ↓j38, ↓j40, ↓j43, ↓j45, ↓j46, ↓j48, ↓j53, ↓j58, ↓j62, ↓j77, ↓j80, j83, ↓j89, ↓j92, j130, j142, ↓j145, ↓j146, ↓j147, ↓j149, ↓j150, j157, j159, AV.proj, AV.offOf, AV.sizeL, j163, j164, j167, j170, j171, j175, j177, reduceCtorEq, ↓reduceIte, Nat.reduceEqDiff, j182, j185, j191, j197, j206, j207, j208, j250, j270, j296, j376, nuSt, e2, hx, hsz, hlt2, g0]
      refine CallTo.gen (args := [.ptr 2 0 []]) (orH o) (orH o') 3 rfl fok15 (by simp -dsimp -implicitDefEqProofs only [↓j25, ↓j29, j173, j174, ↓reduceIte]) (notup1 fun vs h => by cases h) hb (SubH.of (by simp -dsimp -implicitDefEqProofs only [↓j27, ↓reduceIte, Nat.reduceEqDiff, j182, j204, j205])) ⟨by simp, put_or⟩ ?_
      have hbo : o'.Ok := hbo
      have hbc : o'.count ≤ o.count + 1 ∧ o.count ≤ o'.count := hbc
      by_cases h8 : o.live.length = 8
      · rw [if_pos h8] at hB
        cases hB
        have g1 : (((10 : Nat) : Int) == 0) = false := rfl
        simp -dsimp -implicitDefEqProofs only [↓j0, ↓j1, ↓j7, ↓j9, ↓j11, ↓j12, ↓j13, ↓j15, j17, j18, j20, j21, j22, j23, ↓j25, ↓j29, ↓j30, j33, ↓j38, ↓j39, ↓j48, ↓j57, j85, ↓j89, ↓j145, ↓j146, ↓j148, ↓j149, j154, j157, j163, j164, j171, j172, j173, j174, ↓reduceIte, Nat.reduceEqDiff, j185, g1]
        exact ⟨n - 1, nuSt l o a (i + 1), by omega, ⟨o, a, i + 1, ho, by omega, by omega, ha, rfl⟩, Wk.sub (by simp -dsimp -implicitDefEqProofs only [↓j25, ↓j27, reduceCtorEq, ↓reduceIte, Nat.reduceEqDiff, j182, j202, j203, j204, j205, j223, hw] <;> simp)⟩
      · rw [if_neg h8] at hB
        cases hB
        have g1 : (((0 : Nat) : Int) == 0) = true := rfl
        have g2 : decide (((o.count + 1 : Nat) : Int) ≤ (a : Int)) = false := decide_eq_false (by omega)
        obtain ⟨o', ho'⟩ : ∃ o', ({ o with count := o.count + 1, live := aPut o.live (o.count + 1) o.last } : OS) = o' := ⟨_, rfl⟩
        have hcc : o'.count = o.count + 1 := by rw [← ho']
        rw [ho'] at hbo
        have hm : (o'.live = aPut o.live (o.count + 1) o.last) := by rw [← ho']
        simp -dsimp -implicitDefEqProofs only [↓j0, ↓j1, ↓j7, ↓j9, ↓j11, ↓j12, ↓j13, ↓j15, j17, j18, j20, j21, j22, j23, ↓j25, ↓j29, ↓j30, j33, ↓j38, ↓j39, ↓j48, ↓j57, j85, ↓j89, ↓j145, ↓j146, ↓j147, ↓j148, ↓j149, j154, j157, j160, j163, j164, j171, j172, j173, j174, ↓reduceIte, Nat.reduceEqDiff, j185, g1, g2]
        refine ⟨n - 1, nuSt l o' (o.count + 1) (i + 1), by omega, ⟨o', o.count + 1, i + 1, hbo, by omega, by omega, by omega, rfl⟩, ?_⟩
        rw [← ho']
        exact Wk.sub (by simp -dsimp -implicitDefEqProofs only [↓j25, ↓j27, reduceCtorEq, ↓reduceIte, Nat.reduceEqDiff, j182, j202, j203, j204, j205, j223, hw] <;> simp)
    · have g0 : (x.1 == 0) = false := by rw [beq_eq_false_iff_ne]; exact k0
      have hd := do_spec o ho (by omega) x hxo
      have hdo := do_ok ho (by omega) x
      have hdc := do_count o x
      have hdc0 : (o.doP x).count = o.count := by
        unfold OS.doP
        rw [if_neg k0]
        split
        · exact end_count _ _
        split
        · exact pub_count _ _
        split
        · split
          · exact pub_count _ _
          · rfl
        · rfl
      by_cases k1 : x.1 = 1
      · have g1 : (x.1 == 1) = true := by rw [beq_iff_eq]; exact k1
        have hds : o.doP x = (o.endP x.2).2 := by unfold OS.doP; rw [if_neg k0, if_pos k1]
        have hgo := end_gone ho x.2
        rw [← hds] at hgo
        have hst := start_spec (o.doP x) hdo x.2 hxo
        have hen := end_spec (o.doP x) hdo x.2 hxo
        have hee : (o.doP x).endP x.2 = (9, o.doP x) := by unfold OS.endP; rw [hgo]; rfl
        rw [hee] at hen
        rw [hgo] at hst
        obtain ⟨o', ho'⟩ : ∃ o', o.doP x = o' := ⟨_, rfl⟩
        rw [ho'] at hd hdo hdc hst hen hdc0
        have g9 : (((9 : Nat) : Int) != 9) = false := rfl
        simp -dsimp -implicitDefEqProofs only [↓j0, ↓j1, ↓j2, ↓j7, ↓j9, ↓j12, ↓j13, ↓j14, ↓j15, j17, j18, j20, ↓j25, ↓j29, ↓j30, j32, j33, ↓j38, ↓j40, ↓j43, ↓j45, ↓j46, ↓j48, ↓j53, ↓j58, ↓j62, ↓j77, ↓j80, j83, ↓j89, ↓j92, j129, j130, j142, ↓j145, ↓j146, ↓j147, ↓j148, ↓j149, ↓j150, j157, j159, AV.proj, AV.offOf, AV.size, AV.sizeL, j163, j164, j167, j170, j171, j175, j177, reduceCtorEq, ↓reduceIte, Nat.reduceAdd, Nat.reduceEqDiff, j182, j185, j191, j197, j206, j207, j208, j250, j270, j293, j294, j296, j376, nuSt, e2, hx, hsz, hlt2, g0]
        refine CallTo.gen (args := [.ptr 2 0 [], opAV x]) (orH o) (orH o') 3 rfl fok22 (by simp -dsimp -implicitDefEqProofs only [↓j25, ↓j29, j173, j174, ↓reduceIte, Nat.reduceEqDiff]) (notup2 (fun vs h => by cases h) fun vs h => by cases h) hd (SubH.of (by simp -dsimp -implicitDefEqProofs only [↓j27, ↓reduceIte, Nat.reduceEqDiff, j182, j204, j205])) ⟨by simp, put_or⟩ ?_
        simp -dsimp -implicitDefEqProofs only [↓j0, ↓j1, ↓j7, ↓j12, ↓j13, ↓j15, j17, j18, j20, j21, j22, j23, ↓j25, ↓j29, ↓j30, j33, ↓j38, ↓j43, ↓j45, ↓j46, ↓j48, ↓j53, ↓j77, ↓j80, ↓j89, ↓j92, j130, ↓j145, ↓j146, ↓j147, ↓j149, j157, AV.proj, AV.offOf, AV.size, AV.sizeL, j163, j164, j166, j167, j170, j171, j172, j173, j174, j177, reduceCtorEq, ↓reduceIte, Nat.reduceEqDiff, j182, j185, j197, j206, j207, j208, j250, j270, j291, j296, j299, hx, hsz, hlt2, g1]
        refine CallTo.gen (args := [.ptr 2 0 [], .int .u64 x.2]) (orH o') (orH o') 3 rfl fok14 (by simp -dsimp -implicitDefEqProofs only [↓j25, ↓j29, j173, j174, ↓reduceIte, Nat.reduceEqDiff]) (notup2 (fun vs h => by cases h) fun vs h => by cases h) hst (SubH.of (by simp -dsimp -implicitDefEqProofs only [↓j27, ↓reduceIte, Nat.reduceEqDiff, j182, j204, j205])) ⟨by simp, put_or⟩ ?_
        simp -dsimp -implicitDefEqProofs only [↓j0, ↓j1, ↓j2, ↓j7, ↓j12, ↓j15, j17, j18, j20, j21, j22, j23, ↓j25, ↓j29, ↓j38, ↓j39, ↓j43, ↓j45, ↓j46, ↓j53, ↓j57, ↓j77, ↓j80, j85, ↓j92, j130, ↓j145, ↓j146, ↓j148, ↓j151, AV.proj, AV.offOf, AV.size, AV.sizeL, j163, j164, j166, j167, j170, j171, j172, j173, j174, j175, j177, reduceCtorEq, ↓reduceIte, Nat.reduceEqDiff, j182, j197, j206, j207, j208, j270, j291, j299, hx, hsz, hlt2]
        refine CallTo.gen (args := [.ptr 2 0 [], .int .u64 x.2]) (orH o') (orH o') 3 rfl fok17 (by simp -dsimp -implicitDefEqProofs only [↓j25, ↓j29, j173, j174, ↓reduceIte, Nat.reduceEqDiff]) (notup2 (fun vs h => by cases h) fun vs h => by cases h) hen (SubH.of (by simp -dsimp -implicitDefEqProofs only [↓j27, ↓reduceIte, Nat.reduceEqDiff, j182, j204, j205])) ⟨by simp, put_or⟩ ?_
        simp -dsimp -implicitDefEqProofs only [↓j0, ↓j1, ↓j2, ↓j7, ↓j9, ↓j13, ↓j15, j17, j18, j20, j21, j22, j23, ↓j25, ↓j29, ↓j30, j32, j33, ↓j38, ↓j39, ↓j40, ↓j48, j83, ↓j89, ↓j145, ↓j146, ↓j148, ↓j149, ↓j151, j154, j158, j163, j164, j171, j172, j173, j174, j175, ↓reduceIte, Nat.reduceEqDiff, j185, j195, g9]
        exact ⟨n - 1, nuSt l o' a (i + 1), by omega, ⟨o', a, i + 1, hdo, by omega, by omega, by omega, rfl⟩, Wk.sub (by simp -dsimp -implicitDefEqProofs only [↓j25, ↓j27, reduceCtorEq, ↓reduceIte, Nat.reduceEqDiff, j182, j202, j203, j204, j205, j223, hw] <;> simp)⟩
      · have g1 : (x.1 == 1) = false := by rw [beq_eq_false_iff_ne]; exact k1
        obtain ⟨o', ho'⟩ : ∃ o', o.doP x = o' := ⟨_, rfl⟩
        rw [ho'] at hd hdo hdc hdc0
        simp -dsimp -implicitDefEqProofs only [↓j0, ↓j1, ↓j2, ↓j7, ↓j9, ↓j12, ↓j13, ↓j14, ↓j15, j17, j18, j20, ↓j25, ↓j29, ↓j30, j32, j33, ↓j38, ↓j40, ↓j43, ↓j45, ↓j46, ↓j48, ↓j53, ↓j58, ↓j62, ↓j77, ↓j80, j83, ↓j89, ↓j92, j129, j130, j142, ↓j145, ↓j146, ↓j147, ↓j148, ↓j149, ↓j150, j157, j159, AV.proj, AV.offOf, AV.size, AV.sizeL, j163, j164, j167, j170, j171, j175, j177, reduceCtorEq, ↓reduceIte, Nat.reduceAdd, Nat.reduceEqDiff, j182, j185, j191, j197, j206, j207, j208, j250, j270, j293, j294, j296, j376, nuSt, e2, hx, hsz, hlt2, g0]
        refine CallTo.gen (args := [.ptr 2 0 [], opAV x]) (orH o) (orH o') 3 rfl fok22 (by simp -dsimp -implicitDefEqProofs only [↓j25, ↓j29, j173, j174, ↓reduceIte, Nat.reduceEqDiff]) (notup2 (fun vs h => by cases h) fun vs h => by cases h) hd (SubH.of (by simp -dsimp -implicitDefEqProofs only [↓j27, ↓reduceIte, Nat.reduceEqDiff, j182, j204, j205])) ⟨by simp, put_or⟩ ?_
        simp -dsimp -implicitDefEqProofs only [↓j0, ↓j1, ↓j7, ↓j9, ↓j12, ↓j13, ↓j15, j17, j18, j20, j21, j22, j23, ↓j25, ↓j29, ↓j30, j33, ↓j38, ↓j39, ↓j43, ↓j45, ↓j46, ↓j48, ↓j77, ↓j80, ↓j89, ↓j92, j130, ↓j145, ↓j146, ↓j148, ↓j149, j154, j157, AV.proj, AV.offOf, AV.sizeL, j163, j167, j170, j171, j172, j173, j174, j177, reduceCtorEq, ↓reduceIte, Nat.reduceEqDiff, j182, j185, j197, j206, j207, j208, j250, j270, j296, hx, hsz, hlt2, g1]
        exact ⟨n - 1, nuSt l o' a (i + 1), by omega, ⟨o', a, i + 1, hdo, by omega, by omega, by omega, rfl⟩, Wk.sub (by simp -dsimp -implicitDefEqProofs only [↓j25, ↓j27, reduceCtorEq, ↓reduceIte, Nat.reduceEqDiff, j182, j202, j203, j204, j205, j223, hw] <;> simp)⟩
  · have fin : ∀ (t : Env) (H : Heap) (m : Nat), look t 2 = some (.bool true) → Final Try.prog Try.f6 (.bool true) [] .ret ⟨76, t, H, m⟩ := fun t H m h =>
      Final.one (.inr rfl) (r := .tmp 2) rfl ⟨h, fun vs h => by cases h⟩ (fun vs h => by cases h) (fun vs h => by cases h) (.same _ trivial)
    by_cases h1 : i < l.length
    · have h2 : ¬ i < 60 := fun h => hlt ⟨h1, h⟩
      have e1 : decide ((i : Int) < (l.length : Int)) = true := decide_eq_true (by omega)
      have e2 : decide ((i : Int) < 60) = false := decide_eq_false (by omega)
      simp -dsimp -implicitDefEqProofs only [↓j0, ↓j1, ↓j2, ↓j7, ↓j11, ↓j12, ↓j13, ↓j15, j17, j18, j20, ↓j25, ↓j29, ↓j30, j32, j33, ↓j38, ↓j40, ↓j48, ↓j53, ↓j58, ↓j62, j83, ↓j89, j142, ↓j145, ↓j146, ↓j147, ↓j148, ↓j149, ↓j150, j159, j163, j164, j171, j175, reduceCtorEq, ↓reduceIte, Nat.reduceEqDiff, j185, j376, nuSt, e1, e2]
      refine CallTo.pure (args := []) rfl fok8 (by simp -dsimp -implicitDefEqProofs only [j174]) (fun x hx => by cases hx) awake_spec ?_
      simp -dsimp -implicitDefEqProofs only [↓j0, ↓j1, ↓j10, j17, j18, j20, ↓j25, ↓j29, ↓j39, ↓j145, j171, ↓reduceIte]
      exact fin _ _ _ rfl
    · have e1 : decide ((i : Int) < (l.length : Int)) = false := decide_eq_false (by omega)
      simp -dsimp -implicitDefEqProofs only [↓j0, ↓j1, ↓j2, ↓j7, ↓j11, ↓j12, ↓j13, ↓j15, j17, j18, j20, ↓j25, ↓j29, ↓j30, j32, ↓j38, ↓j40, ↓j48, ↓j53, ↓j58, ↓j62, j82, ↓j89, j142, ↓j145, ↓j146, ↓j148, ↓j149, ↓j150, j159, j163, j164, j171, j175, reduceCtorEq, ↓reduceIte, Nat.reduceEqDiff, j185, j376, nuSt, e1]
      refine CallTo.pure (args := []) rfl fok8 (by simp -dsimp -implicitDefEqProofs only [j174]) (fun x hx => by cases hx) awake_spec ?_
      simp -dsimp -implicitDefEqProofs only [↓j0, ↓j1, ↓j10, j17, j18, j20, ↓j25, ↓j29, ↓j39, ↓j145, j171, ↓reduceIte]
      exact fin _ _ _ rfl
end Go.Proofs.Ytiolhncfnoafeaa
