/- Records added to a page of none until one has no room. -/
import Derived.Test.YtlagoaggllhggaaA12
set_option linter.unusedVariables false
set_option linter.unusedSimpArgs false
namespace Go.Proofs.Ytlagoaggllhggaa
open Go Go.RowKit

theorem liveN_all {xs : List Old} (h : xs.all (·.live) = true) : liveN xs = xs.length := by
  rw [liveN, List.filter_eq_self.2 (fun x hx => List.all_eq_true.1 h x hx)]
theorem full_ok {lsn : Int} {xs : List Old} {o : Old} (ha : xs.all (·.live) = true) (h : (addP lsn xs o).2.2.2 = 0) :
    addP lsn xs o = (lsn, xs ++ [o], (xs.length : Int), 0) ∧ may (xs ++ [o]) = true ∧ (xs ++ [o]).all (·.live) = true := by
  obtain ⟨ys, p, he, h1, h2, h3, hc⟩ := add_ok h
  rcases hc with ⟨hp, rfl, hlen, hd, hs⟩ | ⟨i, hp, hd, _, _⟩
  · subst hp
    refine ⟨he, ?_, by simp [h2]; simpa using ha⟩
    obtain ⟨ys', p', he', _, _, _, _, _, _, hm⟩ := add_back h
    rw [he] at he'; cases he'
    exact hm
  · rw [deadAt_none ha] at hd; cases hd
theorem full_err {lsn : Int} {xs : List Old} {o : Old} (hm : may xs = true) (ha : xs.all (·.live) = true) (hl : o.live = true) (hs : o.delta.size ≤ 66) (h : (addP lsn xs o).2.2.2 ≠ 0) :
    (addP lsn xs o).2.2.2 = 5 ∧ (xs.length = 15 ∨ 224 < sizeOf' xs + 11 + o.delta.size) := by
  unfold addP at h ⊢
  have hc : ¬ (may xs = false ∨ o.live = false ∨ 66 < o.delta.size) := by simp only [hm, hl, Bool.true_eq_false, false_or]; omega
  rw [if_neg hc] at h ⊢
  by_cases hp : place xs o.delta.size < 0
  · simp only [hp, if_true]
    refine ⟨trivial, ?_⟩
    have hpl : place xs o.delta.size = if xs.length = 15 ∨ 224 < (sizeOf' xs : Int) + 11 + (o.delta.size : Int) then (-1 : Int) else (xs.length : Int) := by
      rw [place, if_neg (by simp only [hm, Bool.true_eq_false, or_false]; omega), deadAt_none ha]
    by_cases hx : xs.length = 15 ∨ 224 < (sizeOf' xs : Int) + 11 + (o.delta.size : Int)
    · rcases hx with h | h
      · exact .inl h
      · exact .inr (by omega)
    · rw [if_neg hx] at hpl; omega
  · simp only [hp, if_false] at h
    split at h <;> exact absurd rfl h
theorem full_pos {xs : List Old} {n : Nat} (hn : n ≤ 66) (h : xs.length = 15 ∨ 224 < sizeOf' xs + 11 + n) : xs ≠ [] := by
  rintro rfl
  rcases h with h | h
  · simp at h
  · simp [sizeOf'] at h; omega
theorem full_fits {xs : List Old} {n : Nat} (ha : xs.all (·.live) = true) (h : xs.length = 15 ∨ 224 < sizeOf' xs + 11 + n) : fits xs ((n + 1 : Nat) : Int) = false := by
  simp only [fits, decide_eq_false_iff_not]
  unfold place
  split
  · decide
  · rw [deadAt_none ha]
    have hx : xs.length = 15 ∨ 224 < (sizeOf' xs : Int) + 11 + ((n + 1 : Nat) : Int) := by
      rcases h with h | h
      · exact .inl h
      · exact .inr (by omega)
    simp only [hx, if_true]
    decide
theorem all_take {xs : List Old} (n : Nat) (h : xs.all (·.live) = true) : (xs.take n).all (·.live) = true := by
  rw [List.all_eq_true] at h ⊢
  exact fun x hx => h x (List.mem_of_mem_take hx)
theorem may_take {xs : List Old} (n : Nat) (hm : may xs = true) (ha : xs.all (·.live) = true) : may (xs.take n) = true := by
  have h := may_iff.1 hm
  refine may_iff.2 ⟨by rw [List.length_take]; omega, ?_, ?_, Nat.le_trans (sizeOf_le xs n) h.2.2.2⟩
  · unfold lastOk
    split
    · rename_i o ho
      exact List.all_eq_true.1 (all_take n ha) o (List.mem_of_getElem? ho)
    · rfl
  · rw [List.all_eq_true]
    exact fun x hx => List.all_eq_true.1 h.2.2.1 x (List.mem_of_mem_take hx)
theorem fits_iff {xs : List Old} {n : Nat} (hm : may xs = true) (hn : n ≤ 66) : fits xs n = match deadAt xs with
    | some i => decide (sizeOf' xs + 10 + n ≤ 224)
    | none => decide (xs.length ≠ 15 ∧ sizeOf' xs + 11 + n ≤ 224) := by
  unfold fits place
  rw [if_neg (by simp only [hm, Bool.true_eq_false, or_false]; omega)]
  cases hd : deadAt xs with
  | none =>
    simp only [decide_eq_decide]
    by_cases h : xs.length = 15 ∨ 224 < (sizeOf' xs : Int) + 11 + (n : Int)
    · rw [if_pos h]; omega
    · rw [if_neg h]; omega
  | some i =>
    simp only [decide_eq_decide]
    by_cases h : 224 < (sizeOf' xs : Int) + 10 + (n : Int)
    · rw [if_pos h]; omega
    · rw [if_neg h]; omega
theorem full_free {lsn : Int} {xs : List Old} {k : Nat} {d : Old} {m : Nat} (hm : may xs = true) (ha : xs.all (·.live) = true) (hd : xs[k]? = some d) (hmd : m ≤ d.delta.size) :
    ∃ ys, freeP lsn xs k = (lsn, ys, 0) ∧ ys.length ≤ 15 ∧ fits ys m = true := by
  have h := may_iff.1 hm
  have hlive : d.live = true := List.all_eq_true.1 ha d (List.mem_of_getElem? hd)
  have hlt : k < xs.length := by
    rcases Nat.lt_or_ge k xs.length with h | h
    · exact h
    · rw [List.getElem?_eq_none h] at hd; cases hd
  have hok : okOld d = true := List.all_eq_true.1 h.2.2.1 d (List.mem_of_getElem? hd)
  have hd66 : d.delta.size ≤ 66 := by simp only [okOld, Bool.and_eq_true, decide_eq_true_eq] at hok; exact hok.2
  have hg : getP xs (k : Int) = (d, true) := by simp [getP, hd, hlive]
  have hf : freeP lsn xs k = (lsn, (xs.set k .zero).take (trimTo (xs.set k .zero) xs.length), 0) := by
    rw [freeP, if_neg (by simp [hg, hm])]; simp
  have hcost : d.cost = 10 + d.delta.size := by simp [Old.cost, hlive]
  have hsz := sizeOf_set .zero hd
  have hz : Old.zero.cost = 0 := rfl
  refine ⟨_, hf, by rw [List.length_take, List.length_set]; omega, ?_⟩
  by_cases hk : k + 1 = xs.length
  · -- the last one
    have e1 : xs.set k .zero = xs.take k ++ [.zero] := by
      rw [set_split hd, hk, List.drop_length]
    have e2 : trimTo (xs.set k .zero) xs.length = k := by
      rw [← hk, trimTo, get_set hd]
      simp only [Old.zero, Bool.false_eq_true, if_false]
      have hl : (xs.take k).length = k := by rw [List.length_take]; omega
      have := trimTo_last (xs := xs.take k) (may_iff.1 (may_take k hm ha)).2.1
      rw [hl] at this
      show trimTo (xs.set k Old.zero) k = k
      rw [e1, trimTo_append _ _ k (by omega), this]
    rw [e2, e1, List.take_append_of_le_length (by rw [List.length_take]; omega), List.take_take, Nat.min_self]
    have hs1 := sizeOf_take hd
    rw [hk, List.take_of_length_le (Nat.le_refl _)] at hs1
    rw [fits_iff (may_take k hm ha) (by omega), deadAt_none (all_take k ha)]
    simp only [decide_eq_true_eq, List.length_take]
    omega
  · have hlast : lastOk (xs.set k .zero) = true := by
      have := h.2.1
      simp only [lastOk, List.length_set] at this ⊢
      rw [List.getElem?_set_ne (by omega)]; exact this
    have e2 := trimTo_last hlast
    rw [List.length_set] at e2
    rw [e2, List.take_of_length_le (by simp)]
    have hm2 : may (xs.set k .zero) = true := by
      refine may_iff.2 ⟨by simp; omega, hlast, ?_, by omega⟩
      rw [List.all_eq_true]
      intro x hx
      rcases List.mem_or_eq_of_mem_set hx with h1 | rfl
      · exact List.all_eq_true.1 h.2.2.1 x h1
      · simp only [okOld, same_self]; rfl
    have hdead : deadAt (xs.set k .zero) = some k := by
      refine deadAt_some (o := .zero) ?_ (get_set hd) rfl
      rw [List.take_set_of_le (Nat.le_refl _)]
      exact all_take k ha
    rw [fits_iff hm2 (by omega), hdead]
    simp only [decide_eq_true_eq]
    omega
end Go.Proofs.Ytlagoaggllhggaa
