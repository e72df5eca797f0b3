import Derived.Test.YtimdepgenefkmaaQ19
set_option maxRecDepth 8000
set_option linter.unusedVariables false
set_option linter.unusedSimpArgs false
namespace Go.Proofs.Ytimdepgenefkmaa
open Go Go.RowKit

abbrev boolAV (b : Bool) : AV := .bool b
abbrev bsAV (t : List Bool) : AV := .agg (t.map boolAV)
def fb : List Bool := List.replicate 64 false
theorem fb_len : fb.length = 64 := List.length_replicate
def layT (t : List Bool) (a n : Nat) : List Bool := t.take a ++ (List.replicate n true ++ t.drop (a + n))
theorem layT_len {t : List Bool} {a n : Nat} (h : a + n ≤ t.length) : (layT t a n).length = t.length := by
  simp only [layT, List.length_append, List.length_take, List.length_drop, List.length_replicate]; omega
theorem unif_bools (t : List Bool) : Unif 1 (t.map boolAV) := fun x hx => by
  obtain ⟨o, _, rfl⟩ := List.mem_map.1 hx; rfl
theorem sizeL_bools (t : List Bool) : AV.sizeL (t.map boolAV) = t.length := by
  have := (unif_bools t).sizeL; simpa using this
theorem on_bools (S : Nat → Prop) (t : List Bool) : AV.onL S (t.map boolAV) := by
  rw [AV.onL_iff]
  intro x hx
  obtain ⟨o, _, rfl⟩ := List.mem_map.1 hx; trivial
theorem layG {T : Type} {out x : List T} {a n : Nat} (hn : x.length = n) (h : a + n ≤ out.length) (i : Nat) : (out.take a ++ x ++ out.drop (a + n))[i]? = if i < a then out[i]? else if i < a + n then x[i - a]? else out[i]? := by
  subst hn
  have lo : (out.take a).length = a := by rw [List.length_take]; omega
  by_cases h1 : i < a
  · rw [if_pos h1, List.append_assoc, List.getElem?_append_left (by omega), List.getElem?_take, if_pos h1]
  · rw [if_neg h1]
    by_cases h2 : i < a + x.length
    · rw [if_pos h2, List.append_assoc, List.getElem?_append_right (by omega), lo, List.getElem?_append_left (by omega)]
    · rw [if_neg h2, List.getElem?_append_right (by rw [List.length_append]; omega), List.getElem?_drop, List.length_append, lo]
      congr 1; omega
theorem setG {T : Type} {out x : List T} {a j : Nat} {c : T} (h : a + x.length ≤ out.length) (hx : x[j]? = some c) : (out.take a ++ x.take j ++ out.drop (a + j)).set (a + j) c = out.take a ++ x.take (j + 1) ++ out.drop (a + (j + 1)) := by
  have hj : j < x.length := by
    rcases Nat.lt_or_ge j x.length with h | h
    · exact h
    · rw [List.getElem?_eq_none h] at hx; cases hx
  have l1 : (x.take j).length = j := by rw [List.length_take]; omega
  have l2 : (x.take (j + 1)).length = j + 1 := by rw [List.length_take]; omega
  have lw : (out.take a ++ x.take j ++ out.drop (a + j)).length = out.length := by
    simp only [List.length_append, List.length_drop, List.length_take]; omega
  apply List.ext_getElem?
  intro i
  rw [List.getElem?_set, lw, layG l1 (by omega), layG l2 (by omega)]
  by_cases h2 : a + j = i
  · rw [if_pos h2, if_pos (by omega), if_neg (by omega), if_pos (by omega), List.getElem?_take, if_pos (by omega), show i - a = j by omega, hx]
  · rw [if_neg h2]
    by_cases h1 : i < a
    · rw [if_pos h1, if_pos h1]
    · rw [if_neg h1, if_neg h1]
      by_cases h3 : i < a + j
      · rw [if_pos h3, if_pos (by omega), List.getElem?_take, List.getElem?_take, if_pos (by omega), if_pos (by omega)]
      · rw [if_neg h3, if_neg (by omega)]
theorem layB_step {out x : List UInt8} {a j : Nat} {c : UInt8} (h : a + x.length ≤ out.length) (hx : x[j]? = some c) : (layB out a (x.take j)).set (a + j) c = layB out a (x.take (j + 1)) := by
  have hj : j < x.length := by
    rcases Nat.lt_or_ge j x.length with h | h
    · exact h
    · rw [List.getElem?_eq_none h] at hx; cases hx
  have l1 : (x.take j).length = j := by rw [List.length_take]; omega
  have l2 : (x.take (j + 1)).length = j + 1 := by rw [List.length_take]; omega
  have := setG h hx
  simp only [layB, l1, l2]
  exact this
theorem layT_step {t : List Bool} {a j : Nat} (h : a + j < t.length) : (layT t a j).set (a + j) true = layT t a (j + 1) := by
  have := setG (out := t) (x := List.replicate (j + 1) true) (a := a) (j := j) (c := true) (by rw [List.length_replicate]; omega) (by rw [List.getElem?_replicate, if_pos (by omega)])
  rw [List.take_replicate, List.take_replicate, Nat.min_eq_left (by omega), Nat.min_self] at this
  simp only [layT, ← List.append_assoc]
  exact this
def rdP (d : List UInt8) : Nat → Nat → Nat → List UInt8 → List Bool → Bool × List UInt8 × List Bool
  | 0, _, _, b, t => (true, b, t)
  | k + 1, next, i, b, t =>
    if i < d.length then
      if d.length < i + 2 then (false, b, t) else
      let at_ := (d.getD i 0).toNat
      let n := (d.getD (i + 1) 0).toNat
      if n < 1 ∨ d.length < i + 2 + n ∨ 64 < at_ + n ∨ at_ < next then (false, b, t)
      else rdP d k (at_ + n + 1) (i + 2 + n) (layB b at_ ((d.drop (i + 2)).take n)) (layT t at_ n)
    else (true, b, t)
def readR (d : List UInt8) : Bool × List UInt8 × List Bool := if (rdP d d.length 0 0 (zb 64) fb).1 then rdP d d.length 0 0 (zb 64) fb else (false, zb 64, fb)
theorem rdP_len (d : List UInt8) : ∀ (k next i : Nat) (b : List UInt8) (t : List Bool), b.length = 64 → t.length = 64 → (rdP d k next i b t).2.1.length = 64 ∧ (rdP d k next i b t).2.2.length = 64
  | 0, _, _, b, t, h, h' => ⟨h, h'⟩
  | k + 1, next, i, b, t, h, h' => by
    unfold rdP
    split
    · split
      · exact ⟨h, h'⟩
      · simp only
        split
        · exact ⟨h, h'⟩
        · rename_i h1 h2
          have hl : ((d.drop (i + 2)).take (d.getD (i + 1) 0).toNat).length ≤ (d.getD (i + 1) 0).toNat := List.length_take_le _ _
          refine rdP_len d k _ _ _ _ ?_ ?_
          · rw [layB_len (by omega)]; exact h
          · rw [layT_len (by omega)]; exact h'
    · exact ⟨h, h'⟩
theorem readR_len (d : List UInt8) : (readR d).2.1.length = 64 ∧ (readR d).2.2.length = 64 := by
  unfold readR
  split
  · exact rdP_len d _ _ _ _ _ (zb_len 64) fb_len
  · exact ⟨zb_len 64, fb_len⟩
def reH (b : List UInt8) (t : List Bool) : Heap := [(2, .cells (arrAV b)), (3, .cells (bsAV t)), (0, .cells (arrAV (zb 64))), (1, .cells (bsAV fb))]
def reT (d : List UInt8) (next i : Nat) : Env := [(7, .int .i64 ((next : Int) - 1)), (0, .str ⟨(d.drop i).toArray⟩), (2, .ptr 0 0 []), (3, .ptr 1 0 []), (4, .bool false), (5, .ptr 2 0 []), (6, .ptr 3 0 [])]
def reSt (d : List UInt8) (next i : Nat) (b : List UInt8) (t : List Bool) : St := ⟨73, reT d next i, reH b t, 4⟩
def riT (d : List UInt8) (next i p n j : Nat) : Env := [(10, .int .i64 j), (8, .int .i64 p), (9, .int .i64 n), (7, .int .i64 ((next : Int) - 1)), (0, .str ⟨(d.drop i).toArray⟩), (2, .ptr 0 0 []), (3, .ptr 1 0 []), (4, .bool false), (5, .ptr 2 0 []), (6, .ptr 3 0 [])]
def riSt (d : List UInt8) (next i p n : Nat) (b : List UInt8) (t : List Bool) (j : Nat) : St := ⟨73, riT d next i p n j, reH (layB b p (((d.drop (i + 2)).take n).take j)) (layT t p j), 4⟩
theorem args_str {s : ByteArray} : ∀ x, x ∈ [AV.str s] → AV.on (fun _ => False) x ∧ ∀ vs, x ≠ .tuple vs := fun x hx => by
  simp only [List.mem_singleton] at hx; subst hx; exact ⟨trivial, fun vs h => by cases h⟩
abbrev readAV (r : Bool × List UInt8 × List Bool) : AV := .tuple [arrAV r.2.1, bsAV r.2.2, .bool r.1]
set_option maxHeartbeats 3200000 in
theorem read_spec (d : List UInt8) (hd : d.length ≤ 4611686018427387904) : ACall Try.prog 46 [.str ⟨d.toArray⟩] [] (readAV (readR d)) [] := by
  refine ACall.run (Z := Z) (N := 73) mixed hZ Try.func46 rfl rfl (by kernel_rfl) (by simp) args_str 0 ?_
  have hz := zb_len 64
  have hf := fb_len
  obtain ⟨R, hR⟩ : ∃ R, readR d = R := ⟨_, rfl⟩
  have hRl := readR_len d
  rw [hR] at hRl
  have ret : ∀ (r : Bool × List UInt8 × List Bool) (t : Env) (H : Heap) (m : Nat), r = R → look t 2 = some (.ptr 0 0 []) → look t 3 = some (.ptr 1 0 []) → look t 4 = some (.bool r.1) → Heap.get H 0 = some (.cells (arrAV r.2.1)) → Heap.get H 1 = some (.cells (bsAV r.2.2)) → Final Try.prog Try.f46 (readAV R) [] .ret ⟨73, t, H, m⟩ := fun r t H m hr h1 h2 h3 h4 h5 => by
    subst hr
    exact Final.many (.inr rfl) (rs := [.cell 2 56, .cell 3 96, .tmp 4]) (us := [arrAV r.2.1, bsAV r.2.2, .bool r.1]) rfl ⟨⟨0, 0, [], _, h1, h4, rfl, rfl, by simp -dsimp -implicitDefEqProofs only [j129, j182, j240, j361, j362, hRl.1]⟩, ⟨1, 0, [], _, h2, h5, rfl, rfl, by simp -dsimp -implicitDefEqProofs only [j129, j182, j408, j409, sizeL_bools, hRl.2]⟩, ⟨h3, fun vs h => by cases h⟩, trivial⟩ (by simp) ⟨.same _ (on_bytes _ _), .same _ (on_bools _ _), .same _ trivial, trivial⟩
  have bad : ∀ (b : List UInt8) (t : List Bool), (rdP d d.length 0 0 (zb 64) fb) = (false, b, t) → (false, zb 64, fb) = R := fun b t h => by
    rw [← hR]; unfold readR; rw [h]; rfl
  have good : ∀ (b : List UInt8) (t : List Bool), (rdP d d.length 0 0 (zb 64) fb) = (true, b, t) → (true, b, t) = R := fun b t h => by
    rw [← hR]; unfold readR; rw [h]; rfl
  obtain ⟨S, hS⟩ : ∃ S, rdP d d.length 0 0 (zb 64) fb = S := ⟨_, rfl⟩
  rw [hS] at bad good
  rw [hR]
  simp -dsimp -implicitDefEqProofs only [↓j0, ↓j1, ↓j7, ↓j12, ↓j14, ↓j15, ↓j16, j17, j18, j20, ↓j30, j32, j33, ↓j39, ↓j41, ↓j145, argEnv, j170, j171, j172, Nat.reduceAdd, j196, Int.reduceNeg, List.replicate, j429, j437]
  refine AWp.loopR (Z := Z) mixed hZ (by kernel_rfl) (fun k s => ∃ next i b t, d.length ≤ k + i ∧ next ≤ 200 ∧ i ≤ d.length ∧ b.length = 64 ∧ t.length = 64 ∧ rdP d k next i b t = S ∧ s = reSt d next i b t) (n0 := d.length) (s0 := reSt d 0 0 (zb 64) fb) ?_ ⟨0, 0, zb 64, fb, by omega, by omega, by omega, hz, hf, hS, rfl⟩ ?_ rfl
  · refine Wk.sub ?_
    simp -dsimp -implicitDefEqProofs only [↓j25, ↓j27, j179, reduceCtorEq, ↓reduceIte, Nat.reduceEqDiff, j182, j183, j184, Int.reduceNeg, j202, j203, j204, j205, j209, j223, j227, reT, reH]
    exact ⟨rfl, rfl⟩
  rintro k s ⟨next, i, b, t, hk, hn, hi, hbl, htl, hE, rfl⟩
  refine ⟨rfl, ?_⟩
  have hdl : (d.drop i).length = d.length - i := List.length_drop
  rcases Nat.lt_or_ge i d.length with hlt | hge
  · cases k with
    | zero => omega
    | succ k =>
      have e1 : decide (0 < ((d.length - i : Nat) : Int)) = true := decide_eq_true (by omega)
      unfold rdP at hE
      rw [if_pos hlt] at hE
      by_cases h2 : d.length < i + 2
      · rw [if_pos h2] at hE
        have e2 : decide (((d.length - i : Nat) : Int) < 2) = true := decide_eq_true (by omega)
        simp -dsimp -implicitDefEqProofs only [↓j0, ↓j1, ↓j7, ↓j9, ↓j10, ↓j12, ↓j13, ↓j14, ↓j15, j17, j18, j19, j20, j21, j22, j23, ↓j25, ↓j27, ↓j29, ↓j30, j32, j33, ↓j38, ↓j39, ↓j44, ↓j48, ↓j54, ↓j58, ↓j59, ↓j78, ↓j89, ↓j124, j125, j127, j141, ↓j145, ↓j146, ↓j147, ↓j149, ↓j153, j159, j161, partsAV, AV.proj, AV.offOf, AV.upd, AV.size, AV.sizeL, AV.layable, j170, j171, reduceCtorEq, ↓reduceIte, Nat.reduceAdd, Nat.reduceEqDiff, j182, j185, j197, j214, j218, j219, List.replicate, j240, j259, j361, j408, j447, j457, sizeL_bools, hf, reSt, reT, reH, str_bytes, hdl, e1, e2, hz]
        exact ret (false, zb 64, fb) _ _ _ (bad b t hE.symm) rfl rfl rfl rfl rfl
      rw [if_neg h2] at hE
      have e2 : decide (((d.length - i : Nat) : Int) < 2) = false := decide_eq_false (by omega)
      obtain ⟨a, ha⟩ := list_get (xs := d) (i := i) hlt
      obtain ⟨c, hc⟩ := list_get (xs := d) (i := i + 1) (by omega)
      have ga : d.getD i 0 = a := by rw [List.getD_eq_getElem?_getD, ha]; rfl
      have gc : d.getD (i + 1) 0 = c := by rw [List.getD_eq_getElem?_getD, hc]; rfl
      rw [ga, gc] at hE
      have hal := a.toNat_lt
      have hcl := c.toNat_lt
      have hba : byteAt ⟨(d.drop i).toArray⟩ 0 = (a.toNat : Int) := byte_at (i := 0) (by rw [List.getElem?_drop]; exact ha)
      have hbc : byteAt ⟨(d.drop i).toArray⟩ 1 = (c.toNat : Int) := byte_at (i := 1) (by rw [List.getElem?_drop]; exact hc)
      have i0 : (0 : Int) < ((d.length - i : Nat) : Int) := by omega
      have i1 : (1 : Int) < ((d.length - i : Nat) : Int) := by omega
      have wa : IntKind.i64.wrap (a.toNat : Int) = (a.toNat : Int) := wrap_i64 (by omega) (by omega)
      have wc : IntKind.i64.wrap (c.toNat : Int) = (c.toNat : Int) := wrap_i64 (by omega) (by omega)
      obtain ⟨p, hp⟩ : ∃ p, a.toNat = p := ⟨_, rfl⟩
      obtain ⟨n, hnn⟩ : ∃ n, c.toNat = n := ⟨_, rfl⟩
      rw [hp] at hba wa hal
      rw [hnn] at hbc wc hcl
      simp only [hp, hnn] at hE
      have wd : IntKind.i64.wrap (((d.length - i : Nat) : Int) - 2) = ((d.length - i - 2 : Nat) : Int) := by rw [wrap_i64 (by omega) (by omega)]; omega
      have wpn : IntKind.i64.wrap ((p : Int) + (n : Int)) = ((p + n : Nat) : Int) := by rw [wrap_i64 (by omega) (by omega)]; omega
      simp -dsimp -implicitDefEqProofs only [↓j0, ↓j1, ↓j3, ↓j4, ↓j7, ↓j8, ↓j9, ↓j12, ↓j13, ↓j14, ↓j15, j17, j18, j20, j24, ↓j25, ↓j29, ↓j30, j33, ↓j38, ↓j39, ↓j47, ↓j48, ↓j50, ↓j58, ↓j59, ↓j89, ↓j95, j141, ↓j145, ↓j146, ↓j147, ↓j148, ↓j149, j159, j161, j170, j171, j172, j174, reduceCtorEq, ↓reduceIte, Nat.reduceEqDiff, Int.reduceLE, j182, j185, j191, ↓j225, j232, j251, j259, j461, reSt, reT, reH, str_bytes, hdl, e2, hba, hbc, i0, i1, wa, wc]
      refine ⟨by kernel_rfl, ?_⟩
      by_cases c1 : n < 1
      · have f1 : ((n : Int) == 0) = true := by rw [beq_iff_eq]; omega
        rw [if_pos (.inl c1)] at hE
        simp -dsimp -implicitDefEqProofs only [↓j0, ↓j1, ↓j2, ↓j7, ↓j10, ↓j12, ↓j13, ↓j15, j17, j18, j19, j20, j21, j22, j23, ↓j25, ↓j27, ↓j29, ↓j30, j32, j33, ↓j38, ↓j39, ↓j40, ↓j44, ↓j48, ↓j54, ↓j78, j81, ↓j89, ↓j124, j125, j127, ↓j145, ↓j146, ↓j147, ↓j149, ↓j151, ↓j153, j157, partsAV, AV.proj, AV.offOf, AV.upd, AV.size, AV.sizeL, AV.layable, j163, j164, j170, j171, j175, reduceCtorEq, ↓reduceIte, Nat.reduceAdd, Nat.reduceEqDiff, j182, j185, j197, j214, j218, j219, List.replicate, j240, j361, j408, j447, j457, sizeL_bools, hf, hz, f1]
        exact ret (false, zb 64, fb) _ _ _ (bad b t hE.symm) rfl rfl rfl rfl rfl
      have f1 : ((n : Int) == 0) = false := by rw [beq_eq_false_iff_ne]; omega
      by_cases c2 : d.length < i + 2 + n
      · have f2 : decide (((d.length - i - 2 : Nat) : Int) < (n : Int)) = true := decide_eq_true (by omega)
        rw [if_pos (.inr (.inl c2))] at hE
        simp -dsimp -implicitDefEqProofs only [↓j0, ↓j1, ↓j2, ↓j7, ↓j10, ↓j12, ↓j13, ↓j15, j17, j18, j19, j20, j21, j22, j23, ↓j25, ↓j27, ↓j29, ↓j30, j32, j33, ↓j38, ↓j39, ↓j40, ↓j44, ↓j48, ↓j54, ↓j58, ↓j59, ↓j78, j81, j83, ↓j89, ↓j124, j125, j127, j141, ↓j145, ↓j146, ↓j147, ↓j148, ↓j149, ↓j151, ↓j153, j155, j157, j159, partsAV, AV.proj, AV.offOf, AV.upd, AV.size, AV.sizeL, AV.layable, j163, j164, j170, j171, j175, reduceCtorEq, ↓reduceIte, Nat.reduceAdd, Nat.reduceEqDiff, j182, j185, j195, j197, j214, j218, j219, List.replicate, j240, j259, j361, j408, j447, j457, sizeL_bools, hf, str_bytes, hdl, hz, f1, wd, f2]
        exact ret (false, zb 64, fb) _ _ _ (bad b t hE.symm) rfl rfl rfl rfl rfl
      have f2 : decide (((d.length - i - 2 : Nat) : Int) < (n : Int)) = false := decide_eq_false (by omega)
      by_cases c3 : 64 < p + n
      · have f3 : decide (64 < ((p + n : Nat) : Int)) = true := decide_eq_true (by omega)
        rw [if_pos (.inr (.inr (.inl c3)))] at hE
        simp -dsimp -implicitDefEqProofs only [↓j0, ↓j1, ↓j2, ↓j7, ↓j10, ↓j12, ↓j13, ↓j15, j17, j18, j19, j20, j21, j22, j23, ↓j25, ↓j27, ↓j29, ↓j30, j32, j33, ↓j38, ↓j39, ↓j40, ↓j44, ↓j48, ↓j54, ↓j58, ↓j59, ↓j78, j81, j83, ↓j89, ↓j124, j125, j127, j141, ↓j145, ↓j146, ↓j147, ↓j148, ↓j149, ↓j151, ↓j153, j154, j155, j157, j159, j161, partsAV, AV.proj, AV.offOf, AV.upd, AV.size, AV.sizeL, AV.layable, j163, j164, j170, j171, j175, reduceCtorEq, ↓reduceIte, Nat.reduceAdd, Nat.reduceEqDiff, j182, j185, j195, j197, j214, j218, j219, List.replicate, j240, j259, j361, j408, j447, j457, sizeL_bools, hf, str_bytes, hdl, hz, f1, wd, f2, wpn, f3]
        exact ret (false, zb 64, fb) _ _ _ (bad b t hE.symm) rfl rfl rfl rfl rfl
      have f3 : decide (64 < ((p + n : Nat) : Int)) = false := decide_eq_false (by omega)
      by_cases c4 : p < next
      · have f4 : decide ((p : Int) ≤ (next : Int) - 1) = true := decide_eq_true (by omega)
        rw [if_pos (.inr (.inr (.inr c4)))] at hE
        simp -dsimp -implicitDefEqProofs only [↓j0, ↓j1, ↓j2, ↓j7, ↓j10, ↓j12, ↓j13, ↓j15, j17, j18, j19, j20, j21, j22, j23, ↓j25, ↓j27, ↓j29, ↓j30, j32, j33, ↓j38, ↓j39, ↓j40, ↓j44, ↓j48, ↓j54, ↓j58, ↓j59, ↓j78, j83, ↓j89, ↓j124, j125, j127, j141, ↓j145, ↓j146, ↓j147, ↓j148, ↓j149, ↓j151, ↓j153, j154, j155, j157, j159, j160, j161, partsAV, AV.proj, AV.offOf, AV.upd, AV.size, AV.sizeL, AV.layable, j163, j164, j170, j171, j175, reduceCtorEq, ↓reduceIte, Nat.reduceAdd, Nat.reduceEqDiff, j182, j185, j195, j197, j214, j218, j219, List.replicate, j240, j259, j361, j408, j447, j457, sizeL_bools, hf, str_bytes, hdl, hz, f1, wd, f2, wpn, f3, f4]
        exact ret (false, zb 64, fb) _ _ _ (bad b t hE.symm) rfl rfl rfl rfl rfl
      have f4 : decide ((p : Int) ≤ (next : Int) - 1) = false := decide_eq_false (by omega)
      rw [if_neg (by omega)] at hE
      simp -dsimp -implicitDefEqProofs only [↓j0, ↓j1, ↓j2, ↓j7, ↓j9, ↓j12, ↓j13, ↓j14, ↓j15, ↓j16, j17, j18, j20, ↓j25, ↓j29, ↓j30, j32, j33, ↓j38, ↓j39, ↓j40, ↓j48, ↓j58, ↓j59, j83, ↓j89, j141, ↓j145, ↓j146, ↓j148, ↓j149, ↓j151, j154, j155, j157, j159, j160, j161, j163, j164, j171, j175, reduceCtorEq, ↓reduceIte, Nat.reduceEqDiff, j185, j195, j259, str_bytes, hdl, f1, wd, f2, wpn, f3, f4]
      refine AWp.loopR (Z := Z) mixed hZ (by kernel_rfl) (fun m s => ∃ j, j + m = n ∧ s = riSt d next i p n b t j) (n0 := n) (s0 := riSt d next i p n b t 0) ?_ ⟨0, by omega, rfl⟩ ?_ rfl
      · refine Wk.sub ?_
        simp -dsimp -implicitDefEqProofs only [↓j25, ↓j27, j167, j171, j172, j179, reduceCtorEq, ↓reduceIte, Nat.reduceEqDiff, j182, j183, j184, j197, j202, j203, j204, j205, j209, j223, List.replicate, j231, riT, reH, layB, layT, List.take_append_drop]
        simp
      rintro m s ⟨j, hj, rfl⟩
      refine ⟨rfl, ?_⟩
      have hxl : ((d.drop (i + 2)).take n).length = n := by rw [List.length_take, List.length_drop]; omega
      rcases Nat.lt_or_ge j n with hjn | hjn
      · obtain ⟨x, hx⟩ := list_get (xs := d) (i := i + 2 + j) (by omega)
        have hx2 : ((d.drop (i + 2)).take n)[j]? = some x := by rw [List.getElem?_take, if_pos hjn, List.getElem?_drop]; exact hx
        have s1 := layB_step (out := b) (a := p) (j := j) (by omega) hx2
        have s2 := layT_step (t := t) (a := p) (j := j) (by omega)
        have l1 : (layB b p (((d.drop (i + 2)).take n).take j)).length = 64 := by rw [layB_len (by rw [List.length_take]; omega)]; exact hbl
        have l2 : (layT t p j).length = 64 := by rw [layT_len (by omega)]; exact htl
        obtain ⟨B, hB⟩ : ∃ B, layB b p (((d.drop (i + 2)).take n).take j) = B := ⟨_, rfl⟩
        obtain ⟨T, hT⟩ : ∃ T, layT t p j = T := ⟨_, rfl⟩
        rw [hB] at s1 l1; rw [hT] at s2 l2
        have g1 : decide ((j : Int) < (n : Int)) = true := decide_eq_true (by omega)
        have w1 : IntKind.i64.wrap ((p : Int) + (j : Int)) = ((p + j : Nat) : Int) := by rw [wrap_i64 (by omega) (by omega)]; omega
        have w2 : IntKind.i64.wrap (2 + (j : Int)) = ((2 + j : Nat) : Int) := by rw [wrap_i64 (by omega) (by omega)]; omega
        have w3 : IntKind.i64.wrap ((j : Int) + 1) = ((j + 1 : Nat) : Int) := by rw [wrap_i64 (by omega) (by omega)]; omega
        have i2 : ((2 + j : Nat) : Int) < ((d.length - i : Nat) : Int) := by omega
        have i3 : ((p + j : Nat) : Int) < ((64 : Nat) : Int) := by omega
        have hbx : byteAt ⟨(d.drop i).toArray⟩ ((2 + j : Nat) : Int) = (x.toNat : Int) := byte_at (by rw [List.getElem?_drop, ← hx]; congr 1; omega)
        obtain ⟨y, hy⟩ := list_get (xs := B) (i := p + j) (by omega)
        obtain ⟨z, hzz⟩ := list_get (xs := T) (i := p + j) (by omega)
        have z1 : AV.sizeL ((B.map byteAV).take (p + j)) = (p + j) * 1 := (unif_bytes B).sizeL_take (by simp; omega)
        have z2 : AV.sizeL ((T.map boolAV).take (p + j)) = (p + j) * 1 := (unif_bools T).sizeL_take (by simp; omega)
        have q1 : (B.map byteAV).set (p + j) (AV.int .u8 (x.toNat : Int)) = (layB b p (((d.drop (i + 2)).take n).take (j + 1))).map byteAV := by
          rw [← s1, List.map_set]; rfl
        have q2 : (T.map boolAV).set (p + j) (AV.bool true) = (layT t p (j + 1)).map boolAV := by
          rw [← s2, List.map_set]
        simp -dsimp -implicitDefEqProofs only [↓j0, ↓j1, ↓j7, ↓j9, ↓j12, ↓j13, ↓j14, ↓j15, j17, j18, j19, j20, j21, j22, j23, ↓j25, ↓j27, ↓j29, ↓j30, j32, j33, ↓j38, ↓j39, ↓j44, ↓j46, ↓j47, ↓j48, ↓j78, ↓j89, ↓j94, ↓j95, ↓j145, ↓j146, ↓j147, ↓j149, ↓j153, j154, j159, AV.proj, AV.offOf, AV.upd, AV.size, AV.layable, j170, j171, j177, reduceCtorEq, ↓reduceIte, Nat.reduceEqDiff, j182, j185, j196, j197, j206, j207, j208, j252, j254, j259, j363, j410, riSt, riT, reH, hB, hT, g1, w1, w2, w3, str_bytes, hdl, i2, i3, hbx, hy, hzz, z1, z2, byteAV]
        refine ⟨m - 1, riSt d next i p n b t (j + 1), by omega, ⟨j + 1, by omega, rfl⟩, Wk.sub ?_⟩
        simp -dsimp -implicitDefEqProofs only [↓j25, ↓j27, reduceCtorEq, ↓reduceIte, Nat.reduceEqDiff, j182, j202, j203, j204, j205, j223, riT, reH, q1, q2]
      · have hjn2 : j = n := by omega
        rw [hjn2]
        have hm : m = 0 := by omega
        have g1 : decide ((n : Int) < (n : Int)) = false := decide_eq_false (by omega)
        have tx : ((d.drop (i + 2)).take n).take n = (d.drop (i + 2)).take n := List.take_of_length_le (by omega)
        have w2 : IntKind.i64.wrap (2 + (n : Int)) = ((2 + n : Nat) : Int) := by rw [wrap_i64 (by omega) (by omega)]; omega
        have d1 : ((d.drop i).drop (2 + n)) = d.drop (i + 2 + n) := by rw [List.drop_drop]; congr 1; omega
        have d2 : (d.drop i).length = d.length - i := hdl
        have i2 : ((2 + n : Nat) : Int) ≤ ((d.length - i : Nat) : Int) := by omega
        simp -dsimp -implicitDefEqProofs only [↓j0, ↓j1, ↓j7, ↓j11, ↓j12, ↓j13, ↓j15, j17, j18, j20, ↓j25, ↓j29, ↓j30, j33, ↓j38, ↓j39, ↓j48, ↓j49, ↓j89, ↓j97, ↓j145, ↓j146, ↓j148, ↓j149, j154, j159, j171, reduceCtorEq, ↓reduceIte, Nat.reduceEqDiff, j182, j185, j207, j208, bndAV, j232, j259, riSt, riT, reH, g1, tx, wpn, w2, str_bytes, hdl, i2]
        have ex : (ByteArray.mk (List.drop i d).toArray).extract (2 + n) (d.length - i) = ByteArray.mk (d.drop (i + 2 + n)).toArray := by
          rw [str_extract, List.take_of_length_le (by omega), d1]
        have pn : ((p + n : Nat) : Int) = ((p + n + 1 : Nat) : Int) - 1 := by omega
        refine ⟨k, reSt d (p + n + 1) (i + 2 + n) (layB b p ((d.drop (i + 2)).take n)) (layT t p n), by omega, ⟨_, _, _, _, by omega, by omega, by omega, ?_, ?_, hE, rfl⟩, Wk.sub ?_⟩
        · rw [layB_len (by omega)]; exact hbl
        · rw [layT_len (by omega)]; exact htl
        simp -dsimp -implicitDefEqProofs only [↓j25, ↓j27, reduceCtorEq, ↓reduceIte, Nat.reduceEqDiff, j182, j202, j203, j204, j205, j223, j224, reT, reH, ex, pn]
  · have e1 : decide (0 < ((d.length - i : Nat) : Int)) = false := decide_eq_false (by omega)
    have hE2 : S = (true, b, t) := by
      rw [← hE]
      cases k with
      | zero => rfl
      | succ k => unfold rdP; rw [if_neg (by omega)]
    simp -dsimp -implicitDefEqProofs only [↓j0, ↓j1, ↓j3, ↓j4, ↓j7, ↓j8, ↓j11, ↓j12, ↓j13, ↓j15, j17, j18, j19, j20, j21, j22, j23, j24, ↓j25, ↓j27, ↓j29, ↓j30, j32, j33, ↓j38, ↓j39, ↓j43, ↓j44, ↓j48, ↓j58, ↓j59, ↓j76, ↓j78, ↓j89, j129, j141, ↓j145, ↓j146, ↓j148, ↓j149, ↓j153, j161, AV.proj, AV.offOf, AV.upd, AV.size, AV.layable, j170, j171, j172, j173, j174, reduceCtorEq, ↓reduceIte, Nat.reduceEqDiff, j182, j185, j240, j259, j361, j362, j408, j409, sizeL_bools, hf, reSt, reT, reH, str_bytes, hdl, e1, hz, hbl, htl]
    refine ⟨by kernel_rfl, ?_⟩
    simp -dsimp -implicitDefEqProofs only [↓j10]
    exact ret (true, b, t) _ _ _ (good b t hE2) rfl rfl rfl rfl rfl
end Go.Proofs.Ytimdepgenefkmaa
