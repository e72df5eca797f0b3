import Derived.Test.YtimdepgenefkmaaQ20
set_option maxRecDepth 8000
set_option linter.unusedVariables false
set_option linter.unusedSimpArgs false
namespace Go.Proofs.Ytimdepgenefkmaa
open Go Go.RowKit

def mixB : List UInt8 → List UInt8 → List Bool → List UInt8
  | o :: os, b :: bs, t :: ts => (if t then b else o) :: mixB os bs ts
  | _, _, _ => []
theorem mixB_len : ∀ {o b : List UInt8} {t : List Bool} {n : Nat}, o.length = n → b.length = n → t.length = n → (mixB o b t).length = n
  | [], [], [], n, h, _, _ => h
  | o :: os, b :: bs, t :: ts, n, h1, h2, h3 => by
    cases n with
    | zero => simp at h1
    | succ n => simp only [mixB, List.length_cons, Nat.add_right_cancel_iff] at h1 h2 h3 ⊢; exact mixB_len h1 h2 h3
  | [], _ :: _, _, n, h1, h2, _ => by subst h1; simp at h2
  | [], [], _ :: _, n, h1, _, h3 => by subst h1; simp at h3
  | _ :: _, [], _, n, h1, h2, _ => by subst h2; simp at h1
  | _ :: _, _ :: _, [], n, h1, _, h3 => by subst h3; simp at h1
theorem mixB_get : ∀ {o b : List UInt8} {t : List Bool} {i : Nat} {x y : UInt8} {c : Bool}, o[i]? = some x → b[i]? = some y → t[i]? = some c → (mixB o b t)[i]? = some (if c then y else x)
  | o :: os, b :: bs, t :: ts, 0, x, y, c, h1, h2, h3 => by
    simp only [List.getElem?_cons_zero, Option.some.injEq] at h1 h2 h3
    subst h1 h2 h3; simp [mixB]
  | o :: os, b :: bs, t :: ts, i + 1, x, y, c, h1, h2, h3 => by
    simp only [List.getElem?_cons_succ] at h1 h2 h3
    simp only [mixB, List.getElem?_cons_succ]; exact mixB_get h1 h2 h3
  | [], _, _, i, x, y, c, h1, _, _ => by simp at h1
  | _ :: _, [], _, i, x, y, c, _, h2, _ => by simp at h2
  | _ :: _, _ :: _, [], i, x, y, c, _, _, h3 => by simp at h3
theorem mixB_zero {o : List UInt8} (h : o.length = 64) : mixB o (zb 64) fb = o := by
  have hl := mixB_len (n := 64) h (zb_len 64) fb_len
  apply List.ext_getElem?
  intro i
  rcases Nat.lt_or_ge i 64 with hi | hi
  · obtain ⟨x, hx⟩ := list_get (xs := o) (i := i) (by omega)
    rw [hx, mixB_get (y := 0) (c := false) hx (by rw [zb, List.getElem?_replicate, if_pos hi]) (by rw [fb, List.getElem?_replicate, if_pos hi])]; rfl
  · rw [List.getElem?_eq_none (by omega), List.getElem?_eq_none (by omega)]
theorem layB_get {out x : List UInt8} {a i : Nat} (h : a + x.length ≤ out.length) : (layB out a x)[i]? = if a ≤ i ∧ i < a + x.length then x[i - a]? else out[i]? := by
  have lo : (out.take a).length = a := by rw [List.length_take]; omega
  simp only [layB, List.append_assoc]
  by_cases h1 : i < a
  · rw [if_neg (by omega), List.getElem?_append_left (by omega), List.getElem?_take, if_pos h1]
  · rw [List.getElem?_append_right (by omega), lo]
    by_cases h2 : i < a + x.length
    · rw [if_pos (by omega), List.getElem?_append_left (by omega)]
    · rw [if_neg (by omega), List.getElem?_append_right (by omega), List.getElem?_drop]; congr 1; omega
theorem layT_get {t : List Bool} {a n i : Nat} (h : a + n ≤ t.length) : (layT t a n)[i]? = if a ≤ i ∧ i < a + n then some true else t[i]? := by
  have lo : (t.take a).length = a := by rw [List.length_take]; omega
  simp only [layT]
  by_cases h1 : i < a
  · rw [if_neg (by omega), List.getElem?_append_left (by omega), List.getElem?_take, if_pos h1]
  · rw [List.getElem?_append_right (by omega), lo]
    by_cases h2 : i < a + n
    · rw [if_pos (by omega), List.getElem?_append_left (by simp; omega), List.getElem?_replicate, if_pos (by omega)]
    · rw [if_neg (by omega), List.getElem?_append_right (by simp; omega), List.length_replicate, List.getElem?_drop]; congr 1; omega
theorem mix_lay {o b x : List UInt8} {t : List Bool} {a n : Nat} (ho : o.length = 64) (hb : b.length = 64) (ht : t.length = 64) (hx : x.length = n) (h : a + n ≤ 64) : mixB o (layB b a x) (layT t a n) = layB (mixB o b t) a x := by
  subst hx
  have l1 : (layB b a x).length = 64 := by rw [layB_len (by omega)]; exact hb
  have l2 : (layT t a x.length).length = 64 := by rw [layT_len (by omega)]; exact ht
  have l3 := mixB_len ho l1 l2
  have l4 := mixB_len ho hb ht
  have l5 : (layB (mixB o b t) a x).length = 64 := by rw [layB_len (by omega)]; exact l4
  apply List.ext_getElem?
  intro i
  rcases Nat.lt_or_ge i 64 with hi | hi
  · obtain ⟨u, hu⟩ := list_get (xs := o) (i := i) (by omega)
    obtain ⟨v, hv⟩ := list_get (xs := b) (i := i) (by omega)
    obtain ⟨c, hc⟩ := list_get (xs := t) (i := i) (by omega)
    have g1 := layB_get (out := b) (x := x) (a := a) (i := i) (by omega)
    have g2 := layT_get (t := t) (a := a) (n := x.length) (i := i) (by omega)
    rw [layB_get (by omega)]
    by_cases hin : a ≤ i ∧ i < a + x.length
    · rw [if_pos hin] at g1 g2 ⊢
      obtain ⟨y, hy⟩ := list_get (xs := x) (i := i - a) (by omega)
      rw [hy] at g1 ⊢
      rw [mixB_get hu g1 g2]; rfl
    · rw [if_neg hin] at g1 g2 ⊢
      rw [hv] at g1; rw [hc] at g2
      rw [mixB_get hu g1 g2, mixB_get hu hv hc]
  · rw [List.getElem?_eq_none (by omega), List.getElem?_eq_none (by omega)]
theorem each_rd (d o : List UInt8) (ho : o.length = 64) : ∀ (k next i : Nat) (b : List UInt8) (t : List Bool), b.length = 64 → t.length = 64 → eachP d k next i (mixB o b t) = ((rdP d k next i b t).1, mixB o (rdP d k next i b t).2.1 (rdP d k next i b t).2.2)
  | 0, _, _, b, t, _, _ => rfl
  | k + 1, next, i, b, t, hb, ht => by
    unfold eachP rdP
    split
    · split
      · rfl
      · simp only
        by_cases hc : (d.getD (i + 1) 0).toNat < 1 ∨ (d.getD i 0).toNat < next ∨ 64 < (d.getD i 0).toNat + (d.getD (i + 1) 0).toNat ∨ d.length < i + 2 + (d.getD (i + 1) 0).toNat
        · rw [if_pos hc, if_pos (by omega)]
        · rw [if_neg hc, if_neg (by omega)]
          have hx : ((d.drop (i + 2)).take (d.getD (i + 1) 0).toNat).length = (d.getD (i + 1) 0).toNat := by rw [List.length_take, List.length_drop]; omega
          rw [← mix_lay ho hb ht hx (by omega)]
          refine each_rd d o ho k _ _ _ _ ?_ ?_
          · rw [layB_len (by omega)]; exact hb
          · rw [layT_len (by omega)]; exact ht
    · rfl
theorem apply_read {o d : List UInt8} (ho : o.length = 64) : dApplyR o d = if (readR d).1 then (mixB o (readR d).2.1 (readR d).2.2, 0) else (zb 64, 2) := by
  have h := each_rd d o ho d.length 0 0 (zb 64) fb (zb_len 64) fb_len
  rw [mixB_zero ho] at h
  unfold dApplyR dApply readR
  rw [h]
  cases hc : (rdP d d.length 0 0 (zb 64) fb).1
  · rfl
  · simp only [if_true, hc]
def apT' (i : Nat) : Env := [(9, .int .i64 i), (2, .ptr 0 0 []), (4, .ptr 1 0 []), (5, .bool false), (6, .ptr 2 0 []), (7, .ptr 3 0 [])]
def apdSt (o b : List UInt8) (t : List Bool) (i : Nat) : St := ⟨32, apT' i, [(0, .cells (arrAV ((mixB o b t).take i ++ o.drop i))), (1, .cells (arrAV (zb 64))), (2, .cells (arrAV b)), (3, .cells (bsAV t))], 4⟩
theorem fok46 : fnOk Try.prog 46 = true := by kernel_rfl
theorem fok23 : fnOk Try.prog 23 = true := by kernel_rfl
theorem fillD_step {m o : List UInt8} {i : Nat} {x : UInt8} (hl : m.length = o.length) (hx : m[i]? = some x) : (m.take i ++ o.drop i).set i x = m.take (i + 1) ++ o.drop (i + 1) := by
  have hi : i < m.length := by
    rcases Nat.lt_or_ge i m.length with h | h
    · exact h
    · rw [List.getElem?_eq_none h] at hx; cases hx
  have lo : (m.take i).length = i := by rw [List.length_take]; omega
  rw [List.set_append, if_neg (by omega), lo, Nat.sub_self]
  obtain ⟨y, hy⟩ := list_get (xs := o) (i := i) (by omega)
  rw [List.drop_eq_getElem_cons (by omega), List.set_cons_zero, take_succ hx, List.append_assoc]; rfl
theorem fill_same {m o : List UInt8} {i : Nat} {x : UInt8} (hl : m.length = o.length) (hx : m[i]? = some x) (ho : o[i]? = some x) : m.take i ++ o.drop i = m.take (i + 1) ++ o.drop (i + 1) := by
  rw [← fillD_step hl hx]
  have hi : i < m.length := by
    rcases Nat.lt_or_ge i m.length with h | h
    · exact h
    · rw [List.getElem?_eq_none h] at hx; cases hx
  have lo : (m.take i).length = i := by rw [List.length_take]; omega
  symm
  apply List.ext_getElem?
  intro j
  rw [List.getElem?_set]
  by_cases hj : i = j
  · subst hj
    rw [if_pos rfl, if_pos (by simp only [List.length_append, lo, List.length_drop]; omega), List.getElem?_append_right (by omega), lo, List.getElem?_drop, ← ho]; congr 1; omega
  · rw [if_neg hj]
set_option maxHeartbeats 3200000 in
theorem rapply_spec (o d : List UInt8) (ho : o.length = 64) (hd : d.length ≤ 4611686018427387904) : ACall Try.prog 23 [arrAV o, .str ⟨d.toArray⟩] [] (.tuple [arrAV (dApplyR o d).1, .bool (decide ((dApplyR o d).2 = 0))]) [] := by
  refine ACall.run (Z := Z) (N := 32) mixed hZ Try.func23 rfl rfl (by kernel_rfl) (by simp) args_dapp 0 ?_
  have hz := zb_len 64
  have hA := apply_read (d := d) ho
  have hrs := read_spec d hd
  have hrl := readR_len d
  obtain ⟨⟨r, b, t⟩, hr⟩ : ∃ x, readR d = x := ⟨_, rfl⟩
  rw [hr] at hA hrs hrl
  have hbl : b.length = 64 := hrl.1
  have htl : t.length = 64 := hrl.2
  simp only at hA
  have sb := sizeL_bools t
  simp -dsimp -implicitDefEqProofs only [↓j0, ↓j1, ↓j7, ↓j12, ↓j15, j17, j18, j20, ↓j25, ↓j29, ↓j30, j32, ↓j38, ↓j39, ↓j41, ↓j42, ↓j53, ↓j145, ↓j146, AV.layable, argEnv, j170, j171, j172, reduceCtorEq, ↓reduceIte, Nat.reduceAdd, Nat.reduceEqDiff, j196, j429]
  refine CallTo.pure (args := [.str ⟨d.toArray⟩]) rfl fok46 (by simp -dsimp -implicitDefEqProofs only [↓j25, ↓j29, j173, j174, ↓reduceIte]) (fun x hx => (args_str x hx).2) hrs ?_
  cases r
  · rw [hA]
    simp -dsimp -implicitDefEqProofs only [↓j0, ↓j1, ↓j7, ↓j10, ↓j12, ↓j13, ↓j15, j17, j18, j19, j20, j21, j22, j23, ↓j25, ↓j27, ↓j29, ↓j30, j32, ↓j38, ↓j39, ↓j41, ↓j44, ↓j54, ↓j55, ↓j57, ↓j78, j84, j85, ↓j124, j125, j127, ↓j145, ↓j146, ↓j147, ↓j149, ↓j153, partsAV, AV.proj, AV.offOf, AV.upd, AV.size, AV.sizeL, AV.layable, j163, j164, j170, j171, reduceCtorEq, ↓reduceIte, Nat.reduceAdd, Nat.reduceEqDiff, j182, j192, j194, j195, j197, j214, j218, j219, List.replicate, j240, j361, j408, j429, j437, j447, hz, hbl, htl, sb]
    exact Final.many (.inr rfl) (rs := [.cell 4 56, .tmp 5]) (us := [arrAV (zb 64), .bool false]) rfl ⟨⟨1, 0, [], _, rfl, rfl, rfl, rfl, by simp -dsimp -implicitDefEqProofs only [j129, j182, j240, j361, j362, hz]⟩, ⟨rfl, fun vs h => by cases h⟩, trivial⟩ (by simp) ⟨.same _ (on_bytes _ _), .same _ trivial, trivial⟩
  rw [if_pos rfl] at hA
  rw [hA]
  have hml := mixB_len ho hbl htl
  simp -dsimp -implicitDefEqProofs only [↓j0, ↓j1, ↓j7, ↓j9, ↓j12, ↓j13, ↓j14, ↓j15, ↓j16, j17, j18, j19, j20, j21, j22, j23, ↓j25, ↓j27, ↓j29, ↓j30, j33, ↓j38, ↓j39, ↓j41, ↓j44, ↓j55, ↓j57, ↓j78, j84, j85, ↓j145, ↓j146, ↓j148, ↓j149, ↓j153, AV.proj, AV.offOf, AV.upd, AV.size, AV.sizeL, AV.layable, j163, j164, j170, j171, reduceCtorEq, ↓reduceIte, Nat.reduceAdd, Nat.reduceEqDiff, j182, j191, j193, j197, List.replicate, j240, j361, j408, j429, j437, hz, hbl, htl, sb]
  refine AWp.loopR (Z := Z) mixed hZ (by kernel_rfl) (fun k s => ∃ i, i + k = 64 ∧ s = apdSt o b t i) (n0 := 64) (s0 := apdSt o b t 0) ?_ ⟨0, by omega, rfl⟩ ?_ rfl
  · refine Wk.sub ?_
    simp -dsimp -implicitDefEqProofs only [↓j25, ↓j27, j167, j171, j179, reduceCtorEq, ↓reduceIte, Nat.reduceEqDiff, j182, j183, j184, j202, j203, j204, j205, j209, j223, j227, apT']
    simp
  rintro k s ⟨i, hi, rfl⟩
  refine ⟨rfl, ?_⟩
  rcases Nat.lt_or_ge i 64 with hlt | hge
  · have e1 : decide ((i : Int) < 64) = true := decide_eq_true (by omega)
    obtain ⟨x, hx⟩ := list_get (xs := o) (i := i) (by omega)
    obtain ⟨y, hy⟩ := list_get (xs := b) (i := i) (by omega)
    obtain ⟨c, hc⟩ := list_get (xs := t) (i := i) (by omega)
    have hm := mixB_get hx hy hc
    have w3 : IntKind.i64.wrap ((i : Int) + 1) = ((i + 1 : Nat) : Int) := by rw [wrap_i64 (by omega) (by omega)]; omega
    have i3 : (i : Int) < ((64 : Nat) : Int) := by omega
    have z2 : AV.sizeL ((t.map boolAV).take i) = i * 1 := (unif_bools t).sizeL_take (by simp; omega)
    have z1 : AV.sizeL ((b.map byteAV).take i) = i * 1 := (unif_bytes b).sizeL_take (by simp; omega)
    have hql : ((mixB o b t).take i ++ o.drop i).length = 64 := by simp only [List.length_append, List.length_take, List.length_drop]; omega
    cases c
    · have hs := fill_same (by omega) hm hx
      simp -dsimp -implicitDefEqProofs only [↓j0, ↓j1, ↓j7, ↓j9, ↓j12, ↓j13, ↓j14, ↓j15, j17, j18, j20, ↓j25, ↓j27, ↓j29, ↓j30, j33, ↓j38, ↓j39, ↓j43, ↓j46, ↓j48, ↓j76, ↓j89, ↓j94, j131, ↓j145, ↓j146, ↓j147, ↓j148, ↓j149, ↓j153, j154, j159, AV.proj, AV.offOf, j171, j177, reduceCtorEq, ↓reduceIte, Nat.reduceEqDiff, j182, j185, j196, j197, j206, j207, j208, j253, j410, apdSt, apT', e1, i3, hc, z2, boolAV]
      exact ⟨k - 1, apdSt o b t (i + 1), by omega, ⟨i + 1, by omega, rfl⟩, Wk.sub (by simp -dsimp -implicitDefEqProofs only [↓j25, ↓j27, reduceCtorEq, ↓reduceIte, Nat.reduceEqDiff, j182, j202, j203, j204, j205, j223, apT', w3, ← hs] <;> simp)⟩
    · have hs := fillD_step (o := o) (by omega) hm
      obtain ⟨q, hq⟩ : ∃ q, (mixB o b t).take i ++ o.drop i = q := ⟨_, rfl⟩
      rw [hq] at hs hql
      obtain ⟨z, hzz⟩ := list_get (xs := q) (i := i) (by omega)
      have z3 : AV.sizeL ((q.map byteAV).take i) = i * 1 := (unif_bytes q).sizeL_take (by simp; omega)
      have hset : (q.map byteAV).set i (AV.int .u8 (y.toNat : Int)) = ((mixB o b t).take (i + 1) ++ o.drop (i + 1)).map byteAV := by
        rw [← hs, List.map_set]; rfl
      simp -dsimp -implicitDefEqProofs only [↓j0, ↓j1, ↓j7, ↓j9, ↓j12, ↓j13, ↓j14, ↓j15, j17, j18, j19, j20, j21, j22, j23, ↓j25, ↓j27, ↓j29, ↓j30, j33, ↓j38, ↓j39, ↓j43, ↓j44, ↓j46, ↓j48, ↓j76, ↓j78, ↓j89, ↓j94, j130, j131, ↓j145, ↓j146, ↓j147, ↓j149, ↓j153, j154, j159, AV.proj, AV.offOf, AV.upd, AV.size, AV.layable, j170, j171, j177, reduceCtorEq, ↓reduceIte, Nat.reduceEqDiff, j182, j185, j196, j197, j206, j207, j208, j253, j254, j255, j363, j410, apdSt, apT', e1, i3, hc, hy, hzz, z1, z2, z3, hq, boolAV, byteAV]
      exact ⟨k - 1, apdSt o b t (i + 1), by omega, ⟨i + 1, by omega, rfl⟩, Wk.sub (by simp -dsimp -implicitDefEqProofs only [↓j25, ↓j27, reduceCtorEq, ↓reduceIte, Nat.reduceEqDiff, j182, j202, j203, j204, j205, j223, apT', w3, hset] <;> simp)⟩
  · have hi2 : i = 64 := by omega
    subst hi2
    have e1 : decide (((64 : Nat) : Int) < 64) = false := rfl
    have he : (mixB o b t).take 64 ++ o.drop 64 = mixB o b t := by rw [List.take_of_length_le (by omega), List.drop_of_length_le (by omega), List.append_nil]
    rw [apdSt, he]
    obtain ⟨M, hM⟩ : ∃ M, mixB o b t = M := ⟨_, rfl⟩
    rw [hM] at hml
    simp -dsimp -implicitDefEqProofs only [↓j0, ↓j1, ↓j7, ↓j10, ↓j11, ↓j12, ↓j13, ↓j15, j17, j18, j19, j20, j21, j22, j23, ↓j25, ↓j27, ↓j29, ↓j30, j32, j33, ↓j38, ↓j39, ↓j43, ↓j44, ↓j48, ↓j76, ↓j78, ↓j89, j129, ↓j145, ↓j146, ↓j148, ↓j149, ↓j153, j159, AV.proj, AV.offOf, AV.upd, AV.size, AV.layable, j170, j171, reduceCtorEq, ↓reduceIte, Nat.reduceEqDiff, j182, j185, j240, j243, j361, j362, apT', e1, hM, hml]
    exact Final.many (.inr rfl) (rs := [.cell 4 56, .tmp 5]) (us := [arrAV M, .bool true]) rfl ⟨⟨1, 0, [], _, rfl, rfl, rfl, rfl, by simp -dsimp -implicitDefEqProofs only [j129, j182, j240, j361, j362, hml]⟩, ⟨rfl, fun vs h => by cases h⟩, trivial⟩ (by simp) ⟨.same _ (on_bytes _ _), .same _ trivial, trivial⟩
end Go.Proofs.Ytimdepgenefkmaa
