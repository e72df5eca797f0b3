import Derived.Test.YtimdepgenefkmaaA18
set_option maxRecDepth 8000
set_option linter.unusedVariables false
set_option linter.unusedSimpArgs false
namespace Go.Proofs.Ytimdepgenefkmaa.Slot
open Go Go.RowKit

def Keeps (xs ys : List Old) (p : Int) : Prop := may ys = true ∧ ∀ i : Nat, (i : Int) ≠ p → getP xs i = getP ys i
theorem getP_nat (xs : List Old) (i : Nat) : getP xs (i : Int) = match xs[i]? with
    | some o => if o.live then (o, true) else (.zero, false)
    | none => (.zero, false) := rfl
theorem keep_add {lsn : Int} {xs : List Old} {o : Old} (h : (addP lsn xs o).2.2.2 = 0) : ∃ ys p, addP lsn xs o = (lsn, ys, p, 0) ∧ Keeps xs ys p := by
  obtain ⟨ys, p, he, h1, h2, h3, hc⟩ := add_ok h
  obtain ⟨ys', p', he', _, _, _, _, _, _, hm⟩ := add_back h
  rw [he] at he'; cases he'
  refine ⟨_, _, he, hm, fun i hi => ?_⟩
  rw [getP_nat, getP_nat]
  rcases hc with ⟨hp, rfl, hlen, hd, hs⟩ | ⟨j, hp, hd, rfl, hs⟩
  · rcases Nat.lt_or_ge i xs.length with hlt | hge
    · rw [List.getElem?_append_left hlt]
    · rw [List.getElem?_eq_none hge, List.getElem?_eq_none (by simp; omega)]
  · rw [List.getElem?_set_ne (by omega)]
theorem trimTo_dead (xs : List Old) : ∀ n i, n ≤ xs.length → trimTo xs n ≤ i → i < n → ∀ o, xs[i]? = some o → o.live = false
  | 0, i, _, _, h, _, _ => by omega
  | n + 1, i, hn, h1, h2, o, ho => by
    simp only [trimTo] at h1
    cases hx : xs[n]? with
    | none =>
      rw [List.getElem?_eq_none_iff] at hx; omega
    | some x =>
      rw [hx] at h1
      simp only at h1
      cases hl : x.live
      · rw [hl] at h1
        simp only [Bool.false_eq_true, if_false] at h1
        by_cases hi : i = n
        · subst hi; rw [hx] at ho; cases ho; exact hl
        · exact trimTo_dead xs n i (by omega) h1 (by omega) o ho
      · rw [hl] at h1
        simp only [if_true] at h1
        omega
theorem trimTo_live (xs : List Old) : ∀ n, trimTo xs n = 0 ∨ ∃ o, xs[trimTo xs n - 1]? = some o ∧ o.live = true
  | 0 => .inl rfl
  | n + 1 => by
    simp only [trimTo]
    cases hx : xs[n]? with
    | none => exact .inl rfl
    | some x =>
      simp only
      cases hl : x.live
      · simp only [Bool.false_eq_true, if_false]
        exact trimTo_live xs n
      · simp only [if_true]
        exact .inr ⟨x, by simpa using hx, hl⟩
theorem may_trim {ys : List Old} (h15 : ys.length ≤ 15) (hok : ys.all okOld = true) (hs : sizeOf' ys ≤ 224) : may (ys.take (trimTo ys ys.length)) = true := by
  have hle := trimTo_le ys ys.length
  refine may_iff.2 ⟨by rw [List.length_take]; omega, ?_, ?_, Nat.le_trans (sizeOf_le ys _) hs⟩
  · unfold lastOk
    rw [List.length_take, Nat.min_eq_left hle]
    rcases trimTo_live ys ys.length with h0 | ⟨o, ho, hl⟩
    · rw [h0]; simp
    · rcases Nat.eq_zero_or_pos (trimTo ys ys.length) with h0 | h0
      · rw [h0]; simp
      · rw [List.getElem?_take, if_pos (by omega), ho]; exact hl
  · rw [List.all_eq_true] at *
    exact fun x hx => hok x (List.mem_of_mem_take hx)
theorem set_ok {xs : List Old} {k : Nat} {d e : Old} (hm : may xs = true) (hd : xs[k]? = some d) (he : okOld e = true) (hc : e.cost ≤ d.cost) : (xs.set k e).length ≤ 15 ∧ (xs.set k e).all okOld = true ∧ sizeOf' (xs.set k e) ≤ 224 := by
  have h := may_iff.1 hm
  have hs := sizeOf_set e hd
  refine ⟨by rw [List.length_set]; exact h.1, ?_, by omega⟩
  rw [List.all_eq_true]
  intro x hx
  rcases List.mem_or_eq_of_mem_set hx with h1 | rfl
  · exact List.all_eq_true.1 h.2.2.1 x h1
  · exact he
theorem getP_some {xs : List Old} {k : Int} (h : (getP xs k).2 = true) : ∃ d, xs[k.toNat]? = some d ∧ d.live = true ∧ (getP xs k).1 = d := by
  simp only [getP] at h ⊢
  cases hx : xs[k.toNat]? with
  | none => simp [hx] at h
  | some d =>
    simp only [hx] at h ⊢
    cases hl : d.live
    · rw [hl] at h; simp at h
    · exact ⟨d, rfl, hl, by simp⟩
theorem zero_ok : okOld .zero = true := by simp only [okOld, same_self]; rfl
theorem keep_free {lsn k : Int} {xs : List Old} (h0 : 0 ≤ k) (h : (freeP lsn xs k).2.2 = 0) : ∃ ys, freeP lsn xs k = (lsn, ys, 0) ∧ Keeps xs ys k := by
  unfold freeP at h ⊢
  by_cases hc : (getP xs k).2 = false ∨ may xs = false
  · rw [if_pos hc] at h; simp at h
  rw [if_neg hc]
  rw [not_or] at hc
  have hg : (getP xs k).2 = true := by simpa using hc.1
  have hm : may xs = true := by simpa using hc.2
  obtain ⟨d, hd, hl, _⟩ := getP_some hg
  have hz : Old.zero.cost = 0 := rfl
  have hs := set_ok hm hd zero_ok (by omega)
  refine ⟨_, rfl, may_trim hs.1 hs.2.1 hs.2.2, fun i hi => ?_⟩
  have hik : k.toNat ≠ i := by omega
  have e1 : (xs.set k.toNat Old.zero)[i]? = xs[i]? := List.getElem?_set_ne hik
  rw [getP_nat, getP_nat]
  rcases Nat.lt_or_ge i (trimTo (xs.set k.toNat .zero) (xs.set k.toNat .zero).length) with hlt | hge
  · rw [List.getElem?_take, if_pos hlt, e1]
  · rw [List.getElem?_take, if_neg (by omega)]
    cases hx : xs[i]? with
    | none => rfl
    | some o =>
      have hlen : i < (xs.set k.toNat .zero).length := by
        rw [List.length_set]
        rcases Nat.lt_or_ge i xs.length with h | h
        · exact h
        · rw [List.getElem?_eq_none h] at hx; cases hx
      have := trimTo_dead _ _ i (Nat.le_refl _) hge hlen o (by rw [e1]; exact hx)
      simp [this]
theorem keep_cut {lsn k : Int} {xs : List Old} (h0 : 0 ≤ k) (h : (cutP lsn xs k).2.2 = 0) : ∃ ys, cutP lsn xs k = (lsn, ys, 0) ∧ Keeps xs ys k := by
  unfold cutP at h ⊢
  by_cases hc : (getP xs k).2 = false ∨ may xs = false
  · rw [if_pos hc] at h; simp at h
  rw [if_neg hc]
  rw [not_or] at hc
  have hg : (getP xs k).2 = true := by simpa using hc.1
  have hm : may xs = true := by simpa using hc.2
  obtain ⟨d, hd, hl, hgd⟩ := getP_some hg
  rw [hgd]
  have hdl : d.cut.live = true := hl
  have hok : okOld d.cut = true := by
    have := List.all_eq_true.1 (may_iff.1 hm).2.2.1 d (List.mem_of_getElem? hd)
    simp only [okOld, hl, Bool.true_or, Bool.true_and] at this
    simp only [okOld, hdl, Bool.true_or, Bool.true_and]; exact this
  have hs := set_ok hm hd hok (Nat.le_refl _)
  refine ⟨_, rfl, may_iff.2 ⟨hs.1, ?_, hs.2.1, hs.2.2⟩, fun i hi => ?_⟩
  · have hlast := (may_iff.1 hm).2.1
    simp only [lastOk, List.length_set] at hlast ⊢
    by_cases hi : k.toNat = xs.length - 1
    · rw [← hi, get_set hd]; exact hdl
    · rw [List.getElem?_set_ne hi]; exact hlast
  · rw [getP_nat, getP_nat, List.getElem?_set_ne (by omega)]
end Go.Proofs.Ytimdepgenefkmaa.Slot
