/- The document's set: Pages. -/
import Derived.Test.YtipbgaahpchhbaaX4
set_option maxRecDepth 8000
set_option linter.unusedVariables false
set_option linter.unusedSimpArgs false
namespace Go.Proofs.Ytipbgaahpchhbaa
open Go Go.RowKit

def pgL (l : List Wo) (n : Nat) : List Nat := (List.range n).filter fun p => hasP l p
theorem pgL_succ (l : List Wo) (n : Nat) : pgL l (n + 1) = if hasP l n = true then pgL l n ++ [n] else pgL l n := by
  rw [pgL, List.range_succ, List.filter_append]
  cases h : hasP l n <;> simp [pgL, h]
theorem pgL_mono (l : List Wo) {i n : Nat} (h : i ≤ n) : (pgL l i).length ≤ (pgL l n).length := by
  induction n with
  | zero => rw [Nat.le_zero.1 h]; exact Nat.le_refl _
  | succ n ih =>
    rcases Nat.lt_or_ge i (n + 1) with h1 | h1
    · have := ih (by omega)
      rw [pgL_succ]
      split
      · rw [List.length_append]; omega
      · exact this
    · rw [show i = n + 1 by omega]; exact Nat.le_refl _
def pkV (ks : List Nat) (m : Nat) : AV := match ks with
  | [] => .nilsl
  | _ :: r => .sl m 0 [] 0 (r.length + 1) (r.length + 1) 1
def pkB (ks : List Nat) (m : Nat) : Heap := match ks with
  | [] => []
  | k :: r => [(m, .cells (.agg ((k :: r).map kAV)))]
theorem pkV_ne {ks : List Nat} (h : 0 < ks.length) (m : Nat) : pkV ks m = .sl m 0 [] 0 ks.length ks.length 1 := by
  cases ks with
  | nil => simp at h
  | cons t r => rfl
theorem pkB_ne {ks : List Nat} (h : 0 < ks.length) (m : Nat) : pkB ks m = [(m, .cells (.agg (ks.map kAV)))] := by
  cases ks with
  | nil => simp at h
  | cons t r => rfl
theorem pkV_nil (m : Nat) : pkV [] m = .nilsl := rfl
theorem pkB_nil (m : Nat) : pkB [] m = [] := rfl
theorem on_pkV {S : Nat → Prop} {ks : List Nat} {m : Nat} (h : S m) : AV.on S (pkV ks m) := by
  cases ks with
  | nil => trivial
  | cons x r => exact h
def pgT (ks : List Nat) (i m : Nat) : Env := [(4, .int .i64 i), (3, pkV ks m), (0, .ptr 99 0 []), (2, .nilsl)]
def pgH (l : List Wo) (ks : List Nat) (m : Nat) : Heap := (99, .cells (.agg [.sl 4 0 [] 0 l.length l.length 67])) :: (4, .cells (.agg (l.map Wo.av))) :: pkB ks m
def pgSt (l : List Wo) (ks : List Nat) (i : Nat) : St := ⟨24, pgT ks i 102, pgH l ks 102, 103⟩
theorem pg_ren {l : List Wo} {ks : List Nat} {i m : Nat} : Wk ⟨24, pgT ks i 104, pgH l ks 104, m⟩ (pgSt l ks i) := by
  have h := Wk.rens (n := 24) (nx := m) (K := 103) (t := pgT ks i 104) (H := pgH l ks 104) [(104, 102)] (by decide) (by simp) (by simp)
    (onTL_cons trivial (onTL_cons (on_pkV (.inr (by simp))) (onTL_cons (show okN [(104, 102)] 103 99 from .inl ⟨by omega, by simp⟩) (onTL_cons trivial onTL_nil))))
    (by
      refine onHL_cons (.inl ⟨by omega, by simp⟩) ⟨.inl ⟨by omega, by simp⟩, trivial⟩ (onHL_cons (.inl ⟨by omega, by simp⟩) (on_wos _ _) ?_)
      cases ks with
      | nil => exact onHL_nil
      | cons x r => exact onHL_cons (.inr (by simp)) (on_keys _ _) onHL_nil)
  have r1 : rnL [(104, 102)] 104 = 102 := rfl
  have r2 : rnL [(104, 102)] 99 = 99 := rfl
  have r3 : rnL [(104, 102)] 4 = 4 := rfl
  have e1 : (pgT ks i 104).ren (rnL [(104, 102)]) = pgT ks i 102 := by
    cases ks <;> simp only [pgT, Env.ren, pkV, List.map_cons, List.map_nil, AV.ren, r1, r2]
  have e2 : (pgH l ks 104).ren (rnL [(104, 102)]) = pgH l ks 102 := by
    have hl : AV.renL (rnL [(104, 102)]) (l.map Wo.av) = l.map Wo.av := AV.renL_fix (S := fun _ => False) (fun _ h => h.elim) (on_wos _ _)
    have hk : AV.renL (rnL [(104, 102)]) (ks.map kAV) = ks.map kAV := AV.renL_fix (S := fun _ => False) (fun _ h => h.elim) (on_keys _ _)
    cases ks with
    | nil => simp only [pgH, pkB_nil, Heap.ren, List.map_cons, List.map_nil, ABlk.ren, AV.ren, AV.renL, hl, r2, r3]
    | cons t r =>
      have hp : 0 < (t :: r).length := by simp
      simp only [pgH, pkB_ne hp, Heap.ren, List.map_cons, List.map_nil, ABlk.ren, AV.ren, AV.renL, hl, r1, r2, r3] at hk ⊢
      simp only [hk]
  rw [e1, e2] at h
  exact h
theorem kV_ren {ks : List Nat} : AV.renL (fun n => n) (ks.map kAV) = ks.map kAV := AV.renL_fix (S := fun _ => False) (fun _ h => h.elim) (on_keys _ _)
set_option maxHeartbeats 6400000 in
theorem rpages_spec (l : List Wo) (hl : ∀ o, o ∈ l → o.Ok) (hn : l.length ≤ 1000) (h4 : (pgL l 65536).length ≤ 4) : ACall Try.prog 16 [.ptr 99 0 []] (rsH l 4) (keysAV (pgL l 65536)) (rsH l 4) := by
  refine ACall.runH (Z := Z) (N := 24) mixed hZ Try.func16 rfl rfl (by kernel_rfl) (by simp) (rs_args no_args) rs_on' 100 (rs_lt (by omega)) ?_
  cases hl0 : l with
  | nil =>
    have hno : pgL [] 65536 = [] := by rw [pgL, List.filter_eq_nil_iff]; intro a _; simp [hasP]
    rw [rsH_nil, hno]
    simp -dsimp -implicitDefEqProofs only [↓j0, ↓j1, ↓j7, ↓j12, ↓j14, ↓j15, ↓j16, j17, j18, j20, ↓j30, j33, j36, ↓j39, ↓j145, argEnv, j171]
    refine AWp.loopR (Z := Z) mixed hZ (by kernel_rfl) (fun n s => ∃ i, i + n = 65536 ∧ s = ⟨24, [(4, .int .i64 (i : Nat)), (3, .nilsl), (0, .ptr 99 0 []), (2, .nilsl)], [(99, .cells (.agg [.nilsl]))], 100⟩) (n0 := 65536) (s0 := ⟨24, [(4, .int .i64 ((0 : Nat) : Int)), (3, .nilsl), (0, .ptr 99 0 []), (2, .nilsl)], [(99, .cells (.agg [.nilsl]))], 100⟩) ?_ ⟨0, by omega, rfl⟩ ?_ rfl
    · exact Wk.sub (by simp -dsimp -implicitDefEqProofs only [↓j25, ↓j27, j179, reduceCtorEq, ↓reduceIte, Nat.reduceEqDiff, j182, j183, j184, j202, j203, j204, j205, j209, j223] <;> simp)
    rintro n s ⟨i, hi, rfl⟩
    refine ⟨rfl, ?_⟩
    rcases Nat.lt_or_ge i 65536 with hlt | hge
    · have e1 : decide ((i : Int) < 65536) = true := decide_eq_true (by omega)
      have e2 : decide (((0 : Nat) : Int) < 5) = true := rfl
      have hw : IntKind.i64.wrap ((i : Int) + 1) = ((i + 1 : Nat) : Int) := by rw [wrap_i64 (by omega) (by omega)]; omega
      have hw2 : IntKind.u16.wrap (i : Int) = (i : Int) := by rw [wrap_u16, Nat.mod_eq_of_lt hlt]
      have hhs : ACall Try.prog 19 [.ptr 99 0 [], .int .u16 i] [(99, .cells (.agg [.nilsl]))] (.bool false) [(99, .cells (.agg [.nilsl]))] := has_spec [] (fun o ho => by cases ho) (by decide) i
      simp -dsimp -implicitDefEqProofs only [↓j0, ↓j1, ↓j2, ↓j7, ↓j9, ↓j12, ↓j13, ↓j14, ↓j15, j17, j18, j20, ↓j25, ↓j29, ↓j30, j32, j33, ↓j38, ↓j40, ↓j48, ↓j50, ↓j53, ↓j58, ↓j60, j83, ↓j89, j144, ↓j145, ↓j146, ↓j147, ↓j149, ↓j150, j159, j163, j164, j171, j175, reduceCtorEq, ↓reduceIte, Nat.reduceEqDiff, j185, ↓j225, j268, j417, j429, e1, e2, hw2]
      refine CallTo.gen (args := [.ptr 99 0 [], .int .u16 i]) [(99, .cells (.agg [.nilsl]))] [(99, .cells (.agg [.nilsl]))] 100 rfl fok19 (by simp -dsimp -implicitDefEqProofs only [↓j25, ↓j29, j173, j174, ↓reduceIte, Nat.reduceEqDiff]) (notup2 (fun vs h => by cases h) fun vs h => by cases h) hhs (SubH.of (by simp -dsimp -implicitDefEqProofs only [↓j27, ↓reduceIte, j182, j204, j205])) ⟨by simp, put_any⟩ ?_
      simp -dsimp -implicitDefEqProofs only [↓j0, ↓j1, ↓j7, ↓j9, ↓j13, ↓j15, j17, j18, j20, j21, j22, j23, ↓j25, ↓j29, ↓j30, j33, ↓j38, ↓j39, ↓j48, ↓j89, ↓j145, ↓j146, ↓j148, ↓j149, j154, j171, j172, j173, j174, ↓reduceIte, Nat.reduceEqDiff, j185]
      exact ⟨n - 1, ⟨24, [(4, .int .i64 ((i + 1 : Nat) : Int)), (3, .nilsl), (0, .ptr 99 0 []), (2, .nilsl)], [(99, .cells (.agg [.nilsl]))], 100⟩, by omega, ⟨i + 1, by omega, rfl⟩, Wk.sub (by simp -dsimp -implicitDefEqProofs only [↓j25, ↓j27, reduceCtorEq, ↓reduceIte, Nat.reduceEqDiff, j182, j202, j203, j204, j205, j223, hw] <;> simp)⟩
    · have hi2 : i = 65536 := by omega
      subst hi2
      have e1 : decide (((65536 : Nat) : Int) < 65536) = false := rfl
      simp -dsimp -implicitDefEqProofs only [↓j0, ↓j1, ↓j2, ↓j7, ↓j10, ↓j11, ↓j12, ↓j13, ↓j15, j17, j18, j20, ↓j25, ↓j29, ↓j30, j32, j33, ↓j38, ↓j39, ↓j40, ↓j48, j82, ↓j89, ↓j145, ↓j146, ↓j148, ↓j149, ↓j150, j159, j163, j164, j171, j175, ↓reduceIte, Nat.reduceEqDiff, j185, e1]
      exact Final.oneH (.inr rfl) (r := .tmp 2) rfl ⟨rfl, fun vs h => by cases h⟩ (fun vs h => by cases h) (fun vs h => by cases h) .nil (rs_keep (l := []) (m := 4) rfl (fun h => by simp at h))
  | cons t0 r0 =>
    rw [← hl0]
    have hp : 0 < l.length := by rw [hl0]; simp
    clear hl0
    rw [rs_sl hp]
    simp -dsimp -implicitDefEqProofs only [↓j0, ↓j1, ↓j7, ↓j12, ↓j14, ↓j15, ↓j16, j17, j18, j20, ↓j30, j33, j36, ↓j39, ↓j145, argEnv, j171, slH]
    refine AWp.loopR (Z := Z) mixed hZ (by kernel_rfl) (fun n s => ∃ i, i + n = 65536 ∧ s = pgSt l (pgL l i) i) (n0 := 65536) (s0 := pgSt l [] 0) ?_ ⟨0, by omega, rfl⟩ ?_ rfl
    · exact Wk.sub (by simp -dsimp -implicitDefEqProofs only [↓j25, ↓j27, j179, reduceCtorEq, ↓reduceIte, Nat.reduceEqDiff, Nat.reduceLeDiff, j182, j183, j184, j202, j203, j204, j205, j209, pgT, pgH, pkV_nil, pkB_nil] <;> simp)
    rintro n s ⟨i, hi, rfl⟩
    refine ⟨rfl, ?_⟩
    have hk4 : (pgL l i).length ≤ 4 := Nat.le_trans (pgL_mono l (by omega)) h4
    rcases Nat.lt_or_ge i 65536 with hlt | hge
    · have e1 : decide ((i : Int) < 65536) = true := decide_eq_true (by omega)
      have hw : IntKind.i64.wrap ((i : Int) + 1) = ((i + 1 : Nat) : Int) := by rw [wrap_i64 (by omega) (by omega)]; omega
      have hw2 : IntKind.u16.wrap (i : Int) = (i : Int) := by rw [wrap_u16, Nat.mod_eq_of_lt hlt]
      have hhs := has_spec l hl hn i
      rw [rs_sl hp] at hhs
      have hsu := pgL_succ l i
      obtain ⟨ks, hks⟩ : ∃ ks, pgL l i = ks := ⟨_, rfl⟩
      rw [hks] at hk4 hsu
      have uk1 : Unif 1 [kAV i] := unif_keys [i]
      have uk := unif_keys ks
      have tk1 : List.take 1 (List.drop 0 [kAV i]) = [kAV i] := rfl
      cases hb : hasP l i
      · rw [hb] at hhs hsu
        have hsu : pgL l (i + 1) = ks := hsu
        cases hk0 : ks with
        | nil =>
          rw [hk0] at hsu hks
          have e2 : decide (((0 : Nat) : Int) < 5) = true := rfl
          simp -dsimp -implicitDefEqProofs only [↓j0, ↓j1, ↓j2, ↓j7, ↓j9, ↓j12, ↓j13, ↓j14, ↓j15, j17, j18, j20, ↓j25, ↓j29, ↓j30, j32, j33, ↓j38, ↓j40, ↓j48, ↓j50, ↓j53, ↓j58, ↓j60, j83, ↓j89, j144, ↓j145, ↓j146, ↓j147, ↓j149, ↓j150, j159, j163, j164, j171, j175, reduceCtorEq, ↓reduceIte, Nat.reduceEqDiff, j185, ↓j225, j268, j417, j429, pgSt, pgT, pgH, hks, pkV_nil, pkB_nil, e1, e2, hw2]
          refine CallTo.gen (args := [.ptr 99 0 [], .int .u16 i]) (slH l 4) (slH l 4) 103 rfl fok19 (by simp -dsimp -implicitDefEqProofs only [↓j25, ↓j29, j173, j174, ↓reduceIte, Nat.reduceEqDiff]) (notup2 (fun vs h => by cases h) fun vs h => by cases h) hhs (SubH.of (by simp -dsimp -implicitDefEqProofs only [↓j27, ↓reduceIte, Nat.reduceEqDiff, j182, j204, j205, slH])) ⟨by simp, put_any⟩ ?_
          simp -dsimp -implicitDefEqProofs only [↓j0, ↓j1, ↓j7, ↓j9, ↓j13, ↓j15, j17, j18, j20, j21, j22, j23, ↓j25, ↓j29, ↓j30, j33, ↓j38, ↓j39, ↓j48, ↓j89, ↓j145, ↓j146, ↓j148, ↓j149, j154, j171, j172, j173, j174, ↓reduceIte, Nat.reduceEqDiff, j185, slH]
          exact ⟨n - 1, pgSt l [] (i + 1), by omega, ⟨i + 1, by omega, by simp only [hsu, pgSt, pgT, pgH, pkV_nil, pkB_nil]⟩, Wk.sub (by simp -dsimp -implicitDefEqProofs only [↓j25, ↓j27, reduceCtorEq, ↓reduceIte, Nat.reduceEqDiff, j182, j202, j203, j204, j205, j223, pgT, pgH, pkV_nil, pkB_nil, hw] <;> simp)⟩
        | cons k0 kr =>
          have hpk : 0 < ks.length := by rw [hk0]; simp
          have e2 : decide ((ks.length : Int) < 5) = true := decide_eq_true (by omega)
          simp -dsimp -implicitDefEqProofs only [↓j0, ↓j1, ↓j2, ↓j7, ↓j9, ↓j12, ↓j13, ↓j14, ↓j15, j17, j18, j20, ↓j25, ↓j29, ↓j30, j32, j33, ↓j38, ↓j40, ↓j48, ↓j50, ↓j53, ↓j58, ↓j61, j83, ↓j89, j143, ↓j145, ↓j146, ↓j147, ↓j149, ↓j150, j159, j163, j164, j171, j175, reduceCtorEq, ↓reduceIte, Nat.reduceEqDiff, j185, ↓j225, j268, j417, j429, pgSt, pgT, pgH, hks, pkV_ne hpk, pkB_ne hpk, e1, e2, hw2]
          refine CallTo.gen (args := [.ptr 99 0 [], .int .u16 i]) (slH l 4) (slH l 4) 103 rfl fok19 (by simp -dsimp -implicitDefEqProofs only [↓j25, ↓j29, j173, j174, ↓reduceIte, Nat.reduceEqDiff]) (notup2 (fun vs h => by cases h) fun vs h => by cases h) hhs (SubH.of (by simp -dsimp -implicitDefEqProofs only [↓j27, ↓reduceIte, Nat.reduceEqDiff, j182, j204, j205, slH])) ⟨by simp, put_any⟩ ?_
          simp -dsimp -implicitDefEqProofs only [↓j0, ↓j1, ↓j7, ↓j9, ↓j13, ↓j15, j17, j18, j20, j21, j22, j23, ↓j25, ↓j29, ↓j30, j33, ↓j38, ↓j39, ↓j48, ↓j89, ↓j145, ↓j146, ↓j148, ↓j149, j154, j170, j171, j173, j174, ↓reduceIte, Nat.reduceEqDiff, j185, slH]
          exact ⟨n - 1, pgSt l ks (i + 1), by omega, ⟨i + 1, by omega, by simp only [hsu, pgSt, pgT, pgH, pkV_ne hpk, pkB_ne hpk]⟩, Wk.sub (by simp -dsimp -implicitDefEqProofs only [↓j25, ↓j27, reduceCtorEq, ↓reduceIte, Nat.reduceEqDiff, j182, j202, j203, j204, j205, j223, pgT, pgH, pkV_ne hpk, pkB_ne hpk, hw] <;> simp)⟩
      · rw [hb] at hhs hsu
        have hsu : pgL l (i + 1) = ks ++ [i] := hsu
        obtain ⟨k1, hk1⟩ : ∃ k1, ks ++ [i] = k1 := ⟨_, rfl⟩
        have q1 : ks.map kAV ++ [kAV i] = k1.map kAV := by rw [← hk1, List.map_append]; rfl
        have q2 : ks.length + 1 = k1.length := by rw [← hk1, List.length_append]; rfl
        have hp1 : 0 < k1.length := by omega
        rw [hk1] at hsu
        cases hk0 : ks with
        | nil =>
          rw [hk0] at hks q1 q2
          have q1 : [kAV i] = k1.map kAV := q1
          have q2 : 1 = k1.length := q2
          have e2 : decide (((0 : Nat) : Int) < 5) = true := rfl
          simp -dsimp -implicitDefEqProofs only [↓j0, ↓j1, ↓j2, ↓j7, ↓j9, ↓j12, ↓j13, ↓j14, ↓j15, j17, j18, j20, ↓j25, ↓j29, ↓j30, j32, j33, ↓j38, ↓j40, ↓j48, ↓j50, ↓j53, ↓j58, ↓j60, j83, ↓j89, j144, ↓j145, ↓j146, ↓j147, ↓j149, ↓j150, j159, j163, j164, j171, j175, reduceCtorEq, ↓reduceIte, Nat.reduceEqDiff, j185, ↓j225, j268, j417, j429, pgSt, pgT, pgH, hks, pkV_nil, pkB_nil, e1, e2, hw2]
          refine CallTo.gen (args := [.ptr 99 0 [], .int .u16 i]) (slH l 4) (slH l 4) 103 rfl fok19 (by simp -dsimp -implicitDefEqProofs only [↓j25, ↓j29, j173, j174, ↓reduceIte, Nat.reduceEqDiff]) (notup2 (fun vs h => by cases h) fun vs h => by cases h) hhs (SubH.of (by simp -dsimp -implicitDefEqProofs only [↓j27, ↓reduceIte, Nat.reduceEqDiff, j182, j204, j205, slH])) ⟨by simp, put_any⟩ ?_
          simp -dsimp -implicitDefEqProofs only [↓j0, ↓j1, ↓j7, ↓j13, ↓j15, j17, j18, j20, j21, j22, j23, ↓j25, ↓j29, ↓j38, ↓j50, ↓j51, ↓j74, j125, j126, j127, j128, ↓j145, ↓j146, ↓j147, ↓j149, partsAV, AV.size, AV.sizeL, AV.layable, j163, j167, j169, j170, j171, j172, j173, j174, j179, j180, ↓reduceIte, Nat.reduceAdd, Nat.reduceMul, Nat.reduceEqDiff, Nat.reduceLeDiff, j182, j183, j213, j214, j215, j217, ↓j225, Nat.reducePow, List.replicate, j234, j268, j399, j417, slH, hw2]
          refine DoAppend_of rfl rfl at32 ?_
          simp -dsimp -implicitDefEqProofs only [↓j0, ↓j1, ↓j7, ↓j15, j17, j18, j20, ↓j25, ↓j27, ↓j29, ↓j30, j33, ↓j38, ↓j39, ↓j48, ↓j89, ↓j100, ↓j106, j107, ↓j145, ↓j146, ↓j148, ↓j153, j154, AV.proj, AV.offOf, j166, j170, j171, ↓reduceIte, Nat.reduceAdd, Nat.reduceMul, Nat.reduceEqDiff, Nat.reduceLeDiff, j182, j185, j196, j197, j223, j227, j228, j230, j231, Nat.reduceBEq, j234, uk1]
          exact ⟨n - 1, pgSt l k1 (i + 1), by omega, ⟨i + 1, by omega, by rw [← hsu]; simp only [pgSt, pgT, pgH]⟩, Wk.trans (Wk.mk (s' := ⟨24, pgT k1 (i + 1) 104, pgH l k1 104, 105⟩) (SubT.spec (by simp -dsimp -implicitDefEqProofs only [↓j25, reduceCtorEq, ↓reduceIte, Nat.reduceEqDiff, j182, j202, j203, pgT, pkV_ne hp1, hw, ← q2] <;> simp)) (SubH.spec (by simp -dsimp -implicitDefEqProofs only [↓j27, ↓reduceIte, Nat.reduceEqDiff, j182, j204, j205, pgH, pkB_ne hp1, ← q1] <;> simp)) (Nat.le_refl _) rfl) pg_ren⟩
        | cons k0 kr =>
          have hpk : 0 < ks.length := by rw [hk0]; simp
          clear hk0
          have e2 : decide ((ks.length : Int) < 5) = true := decide_eq_true (by omega)
          have t1 : List.take ks.length (List.map kAV ks) = ks.map kAV := List.take_of_length_le (by simp)
          simp -dsimp -implicitDefEqProofs only [↓j0, ↓j1, ↓j2, ↓j7, ↓j9, ↓j12, ↓j13, ↓j14, ↓j15, j17, j18, j20, ↓j25, ↓j29, ↓j30, j32, j33, ↓j38, ↓j40, ↓j48, ↓j50, ↓j53, ↓j58, ↓j61, j83, ↓j89, j143, ↓j145, ↓j146, ↓j147, ↓j149, ↓j150, j159, j163, j164, j171, j175, reduceCtorEq, ↓reduceIte, Nat.reduceEqDiff, j185, ↓j225, j268, j417, j429, pgSt, pgT, pgH, hks, pkV_ne hpk, pkB_ne hpk, e1, e2, hw2]
          refine CallTo.gen (args := [.ptr 99 0 [], .int .u16 i]) (slH l 4) (slH l 4) 103 rfl fok19 (by simp -dsimp -implicitDefEqProofs only [↓j25, ↓j29, j173, j174, ↓reduceIte, Nat.reduceEqDiff]) (notup2 (fun vs h => by cases h) fun vs h => by cases h) hhs (SubH.of (by simp -dsimp -implicitDefEqProofs only [↓j27, ↓reduceIte, Nat.reduceEqDiff, j182, j204, j205, slH])) ⟨by simp, put_any⟩ ?_
          simp -dsimp -implicitDefEqProofs only [↓j0, ↓j1, ↓j7, ↓j13, ↓j15, j17, j18, j20, j21, j22, j23, ↓j25, ↓j29, ↓j38, ↓j50, ↓j51, ↓j74, j125, j126, j127, j128, ↓j145, ↓j146, ↓j147, ↓j149, partsAV, AV.size, AV.sizeL, AV.layable, j163, j167, j169, j170, j171, j173, j174, j179, j180, ↓reduceIte, Nat.reduceAdd, Nat.reduceMul, Nat.reduceEqDiff, Nat.reduceLeDiff, j182, j183, j213, j214, j215, j217, ↓j225, Nat.reducePow, List.replicate, j234, j268, j399, j417, slH, hw2]
          refine DoAppend_of rfl rfl at32 ?_
          simp -dsimp -implicitDefEqProofs only [↓j27, ↓j101, ↓j102, ↓j106, j107, ↓j145, ↓j146, ↓j153, AV.proj, AV.offOf, j166, ↓reduceIte, Nat.reduceEqDiff, Nat.reduceLeDiff, j182, j184, j188, j189, j196, j197, j213, j214, j215, j222, j223, j227, j228, j230, j231, j234, uk1, uk]
          refine ⟨by omega, ?_⟩
          simp -dsimp -implicitDefEqProofs only [↓j0, ↓j1, ↓j7, ↓j15, j17, j18, j20, j21, j22, j23, ↓j25, ↓j29, ↓j30, j33, ↓j38, ↓j39, ↓j48, ↓j89, ↓j145, ↓j146, j154, j166, j170, j171, ↓reduceIte, Nat.reduceAdd, Nat.reduceEqDiff, j185, j196, j227, j228, j230, j231, t1, q1, q2]
          exact ⟨n - 1, pgSt l k1 (i + 1), by omega, ⟨i + 1, by omega, by rw [← hsu]; simp only [pgSt, pgT, pgH]⟩, Wk.trans (Wk.mk (s' := ⟨24, pgT k1 (i + 1) 104, pgH l k1 104, 105⟩) (SubT.spec (by simp -dsimp -implicitDefEqProofs only [↓j25, reduceCtorEq, ↓reduceIte, Nat.reduceEqDiff, j182, j202, j203, pgT, pkV_ne hp1, hw] <;> simp)) (SubH.spec (by simp -dsimp -implicitDefEqProofs only [↓j27, ↓reduceIte, Nat.reduceEqDiff, j182, j204, j205, pgH, pkB_ne hp1] <;> simp)) (Nat.le_refl _) rfl) pg_ren⟩
    · have hi2 : i = 65536 := by omega
      subst hi2
      have e1 : decide (((65536 : Nat) : Int) < 65536) = false := rfl
      obtain ⟨ks, hks⟩ : ∃ ks, pgL l 65536 = ks := ⟨_, rfl⟩
      rw [hks]
      cases hk0 : ks with
      | nil =>
        rw [hk0] at hks
        simp -dsimp -implicitDefEqProofs only [↓j0, ↓j1, ↓j2, ↓j7, ↓j10, ↓j11, ↓j12, ↓j13, ↓j15, j17, j18, j20, ↓j25, ↓j29, ↓j30, j32, j33, ↓j38, ↓j39, ↓j40, ↓j48, j82, ↓j89, ↓j145, ↓j146, ↓j148, ↓j149, ↓j150, j159, j163, j164, j171, j175, ↓reduceIte, Nat.reduceEqDiff, j185, pgSt, pgT, pgH, pkV_nil, pkB_nil, e1]
        exact Final.oneH (.inr rfl) (r := .tmp 2) rfl ⟨rfl, fun vs h => by cases h⟩ (fun vs h => by cases h) (fun vs h => by cases h) .nil (sl_keep hp rfl rfl)
      | cons k0 kr =>
        rw [← hk0]
        have hpk : 0 < ks.length := by rw [hk0]; simp
        clear hk0
        simp -dsimp -implicitDefEqProofs only [↓j0, ↓j1, ↓j2, ↓j7, ↓j10, ↓j11, ↓j12, ↓j13, ↓j15, j17, j18, j20, ↓j25, ↓j29, ↓j30, j32, j33, ↓j38, ↓j39, ↓j40, ↓j48, j82, ↓j89, ↓j145, ↓j146, ↓j148, ↓j149, ↓j150, j159, j163, j164, j171, j175, ↓reduceIte, Nat.reduceEqDiff, j185, pgSt, pgT, pgH, pkV_ne hpk, pkB_ne hpk, e1]
        refine Final.oneH (.inr rfl) (r := .tmp 2) (u := .sl 102 0 [] 0 ks.length ks.length 1) rfl ⟨rfl, fun vs h => by cases h⟩ (fun vs h => by cases h) (fun vs h => by cases h) ?_ (sl_keep hp rfl rfl)
        have hfr : ∀ (K : Nat → Prop) (H : Heap), Heap.get H 102 = some (.cells (.agg (ks.map kAV))) → ¬ K 102 → Frz K H (.sl 102 0 [] 0 ks.length ks.length 1) (keysAV ks) := fun K H hH hK => by
          have h := Frz.sl (K := K) (H := H) 102 0 [] 0 ks.length ks.length 1 (.agg (ks.map kAV)) (ks.map kAV) hH hK rfl rfl (by simp) (unif_keys ks) (fun x hx => by
            obtain ⟨y, hy⟩ := List.mem_map.1 (List.mem_of_mem_drop (List.mem_of_mem_take hx)); rw [← hy.2]; trivial)
          rw [List.drop_zero, List.take_of_length_le (by simp)] at h
          exact h
        exact hfr _ _ rfl (by simp [slH, Heap.get])
end Go.Proofs.Ytipbgaahpchhbaa
