import Derived.Test.YtimdepgenefkmaaP23
set_option maxRecDepth 8000
set_option linter.unusedVariables false
set_option linter.unusedSimpArgs false
namespace Go.Proofs.Ytimdepgenefkmaa
open Go Go.RowKit

theorem getD_dr {p r : List UInt8} {a : Nat} (h : p.drop a = r) (j : Nat) : p.getD (a + j) 0 = r.getD j 0 := by
  rw [List.getD_eq_getElem?_getD, List.getD_eq_getElem?_getD, ← h, List.getElem?_drop]
theorem numAt_drop {p r : List UInt8} {a : Nat} (h : p.drop a = r) (j n : Nat) : numAt p (a + j) n = getL ((r.drop j).take n) := by
  unfold numAt
  rw [← h, List.drop_drop]
theorem decO_put {p : List UInt8} {a : Nat} {o : Od} {r : List UInt8} (ho : o.Ok) (hf : o.fit = true) (h : p.drop a = o.text ++ r) (ha : a + o.size ≤ 224) : decO p a = some o := by
  have hg := getD_dr h
  have hn := numAt_drop h
  have hg0 := hg 0
  rw [Nat.add_zero] at hg0
  unfold Od.fit at hf
  rw [Bool.and_eq_true] at hf
  have hd := of_decide_eq_true hf.2
  unfold decO
  cases hl : o.live
  · have ht : o.text = [0] := by unfold Od.text; rw [hl]; rfl
    have hs : o.size = 1 := by unfold Od.size; rw [hl]; rfl
    have hz : o = .zero := by
      have := hf.1
      rw [hl, Bool.false_or] at this
      exact Od.eqb_iff.1 this
    rw [ht] at hg0
    have hg0 : p.getD a 0 = 0 := hg0
    rw [hg0, if_neg (by omega), if_neg (by decide), if_pos rfl, hz]
  · have ht : o.text = 1 :: (putL o.page 2 ++ (putL o.ts 4 ++ (putL o.npg 2 ++ (o.nsl :: UInt8.ofNat o.delta.length :: o.delta)))) := by unfold Od.text; rw [hl]; rfl
    have hs : o.size = 11 + o.delta.length := by unfold Od.size; rw [hl]; rfl
    have n1 := hn 1 2
    have n2 := hn 3 4
    have n3 := hn 7 2
    have d9 := hg 9
    have d10 := hg 10
    have dd : p.drop (a + 11) = (o.text ++ r).drop 11 := by rw [← h, List.drop_drop]
    rw [ht] at hg0 n1 n2 n3 d9 d10 dd
    have h1 := getL_put o.page 2
    have h2 := getL_put o.ts 4
    have h3 := getL_put o.npg 2
    obtain ⟨a1, a2, e1⟩ : ∃ a b, putL o.page 2 = [a, b] := ⟨_, _, rfl⟩
    obtain ⟨b1, b2, b3, b4, e2⟩ : ∃ a b c d, putL o.ts 4 = [a, b, c, d] := ⟨_, _, _, _, rfl⟩
    obtain ⟨c1, c2, e3⟩ : ∃ a b, putL o.npg 2 = [a, b] := ⟨_, _, rfl⟩
    rw [e1, e2, e3] at hg0 n1 n2 n3 d9 d10 dd
    rw [e1] at h1
    rw [e2] at h2
    rw [e3] at h3
    have hg0 : p.getD a 0 = 1 := hg0
    have n1 : numAt p (a + 1) 2 = getL [a1, a2] := n1
    have n2 : numAt p (a + 3) 4 = getL [b1, b2, b3, b4] := n2
    have n3 : numAt p (a + 7) 2 = getL [c1, c2] := n3
    have d9 : p.getD (a + 9) 0 = o.nsl := d9
    have d10 : p.getD (a + 10) 0 = UInt8.ofNat o.delta.length := d10
    have dd : p.drop (a + 11) = o.delta ++ r := dd
    have hp := ho.page
    have hts := ho.ts
    have hnp := ho.npg
    have dl : (UInt8.ofNat o.delta.length).toNat = o.delta.length := by simp; omega
    rw [Nat.mod_eq_of_lt (by omega)] at h1 h2 h3
    rw [hg0, d10, dl, n1, n2, n3, d9, h1, h2, h3, dd, List.take_left, if_neg (by omega), if_neg (by decide), if_neg (by decide), if_neg (by omega), if_neg (by omega), ← hl]
theorem decL_put {no : Nat} (hno : no < 65536) {u : Ud} (hu : u.Ok) (hm : mayP u = true) : ∀ k i, i + k = u.olds.length → decL (putUndo no u) k (16 + sumS (u.olds.take i)) = some (u.olds.drop i)
  | 0, i, h => by rw [List.drop_of_length_le (by omega)]; rfl
  | k + 1, i, h => by
    have hm' := hm
    unfold mayP at hm'
    simp only [Bool.and_eq_true, decide_eq_true_eq] at hm'
    obtain ⟨⟨⟨m15, mL⟩, mfit⟩, m224⟩ := hm'
    obtain ⟨o, hx⟩ := list_get (xs := u.olds) (i := i) (by omega)
    have hi : i < u.olds.length := by omega
    have hxe : u.olds[i] = o := by rw [List.getElem?_eq_getElem hi] at hx; exact Option.some.inj hx
    have hoo := hu.olds o (List.mem_of_getElem? hx)
    have hof : o.fit = true := List.all_eq_true.1 mfit o (List.mem_of_getElem? hx)
    have hs1 := sumS_take hx
    have hs2 := sumS_take_le u.olds (i + 1)
    have ih := decL_put hno hu hm k (i + 1) (by omega)
    rw [decL, decO_put hoo hof (put_drop hno hu.lsn hm hx) (by omega)]
    show (decL (putUndo no u) k (16 + sumS (u.olds.take i) + o.size)).map (o :: ·) = _
    rw [show 16 + sumS (u.olds.take i) + o.size = 16 + sumS (u.olds.take (i + 1)) by omega, ih, List.drop_eq_getElem_cons hi, hxe]
    rfl
theorem getUndo_put {no : Nat} (hno : no < 65536) {u : Ud} (hu : u.Ok) (hm : mayP u = true) : getUndo no (putUndo no u) = some u := by
  have hp0 : putUndo no u = sealP 2 no u.lsn (undoRest u ++ zb (208 - sumS u.olds)) := by unfold putUndo; rw [hm]; rfl
  have ho : opensP 2 no (putUndo no u) = true := by
    rw [hp0, opens_seal hno hu.lsn]; simp
  have hlsn : lsnOf (putUndo no u) = u.lsn := by
    rw [hp0]; exact (seal_parts hno hu.lsn).2.2.2.1
  have hm' := hm
  unfold mayP at hm'
  simp only [Bool.and_eq_true, decide_eq_true_eq] at hm'
  obtain ⟨⟨⟨m15, mL⟩, mfit⟩, m224⟩ := hm'
  have h15 : (putUndo no u).getD 15 0 = UInt8.ofNat u.olds.length := by
    have h := (seal_parts (k := 2) (no := no) (lsn := u.lsn) (t := undoRest u ++ zb (208 - sumS u.olds)) hno hu.lsn).2.2.2.2
    rw [← hp0] at h
    exact getD_dr h 0
  have hl : (UInt8.ofNat u.olds.length).toNat = u.olds.length := by simp; omega
  have hdl := decL_put hno hu hm u.olds.length 0 (by omega)
  have htl := put_tail hno hu.lsn hm
  have hz : (zb (208 - sumS u.olds)).all (· == 0) = true := (zeros_iff _).2 (by rw [zb_len])
  unfold getUndo
  rw [List.drop_zero] at hdl
  have hdl : decL (putUndo no u) u.olds.length 16 = some u.olds := hdl
  rw [ho, if_pos rfl, h15, hl, hdl]
  simp only [htl, hz, hlsn, hm, Bool.and_self, if_true]
theorem putUndo_len {no : Nat} {u : Ud} : (putUndo no u).length = 224 := by
  unfold putUndo
  split
  · rename_i hm
    unfold mayP at hm
    simp only [Bool.and_eq_true, decide_eq_true_eq] at hm
    have := hm.2
    exact sealP_len (by simp only [undoRest, List.length_append, List.length_cons, textL_len, zb_len]; omega)
  · exact zb_len 224
end Go.Proofs.Ytimdepgenefkmaa
