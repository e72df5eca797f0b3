/- What an added slot leaves, and what its freeing brings back. -/
import Derived.Test.YtlagoaggllhggaaA11
set_option linter.unusedVariables false
set_option linter.unusedSimpArgs false
namespace Go.Proofs.Ytlagoaggllhggaa
open Go Go.RowKit

theorem deadAt_get : ∀ {xs : List Old} {i : Nat}, deadAt xs = some i → ∃ d, xs[i]? = some d ∧ d.live = false
  | [], i, h => by simp [deadAt] at h
  | x :: xs, i, h => by
    simp only [deadAt] at h
    split at h
    · cases hd : deadAt xs with
      | none => simp [hd] at h
      | some j =>
        simp [hd] at h; subst h
        obtain ⟨d, h1, h2⟩ := deadAt_get hd
        exact ⟨d, by simpa using h1, h2⟩
    · rename_i hx
      simp at h; subst h
      exact ⟨x, rfl, by simpa using hx⟩
theorem set_self {α : Type} : ∀ {xs : List α} {i : Nat} {d : α}, xs[i]? = some d → xs.set i d = xs
  | [], i, d, h => by simp at h
  | x :: xs, 0, d, h => by simp at h; subst h; rfl
  | x :: xs, i + 1, d, h => by
    simp only [List.getElem?_cons_succ] at h
    rw [List.set_cons_succ, set_self h]
theorem get_set {α : Type} : ∀ {xs : List α} {i : Nat} {d e : α}, xs[i]? = some d → (xs.set i e)[i]? = some e
  | [], i, d, e, h => by simp at h
  | x :: xs, 0, d, e, h => by simp
  | x :: xs, i + 1, d, e, h => by
    simp only [List.getElem?_cons_succ] at h
    rw [List.set_cons_succ, List.getElem?_cons_succ]
    exact get_set h
theorem sizeOf_set : ∀ {xs : List Old} {i : Nat} {d : Old} (o : Old), xs[i]? = some d → sizeOf' (xs.set i o) + d.cost = sizeOf' xs + o.cost
  | [], i, d, o, h => by simp at h
  | x :: xs, 0, d, o, h => by simp at h; subst h; simp [sizeOf']; omega
  | x :: xs, i + 1, d, o, h => by
    simp only [List.getElem?_cons_succ] at h
    have := sizeOf_set o h
    simp [sizeOf'] at this ⊢; omega
theorem liveN_set : ∀ {xs : List Old} {i : Nat} {d : Old} (o : Old), xs[i]? = some d → d.live = false → o.live = true → liveN (xs.set i o) = liveN xs + 1
  | [], i, d, o, h, _, _ => by simp at h
  | x :: xs, 0, d, o, h, h1, h2 => by simp at h; subst h; simp [liveN, h1, h2]
  | x :: xs, i + 1, d, o, h, h1, h2 => by
    simp only [List.getElem?_cons_succ] at h
    have := liveN_set o h h1 h2
    rw [List.set_cons_succ]
    simp only [liveN, List.filter_cons] at this ⊢
    split <;> simp [this]
theorem liveN_append (xs : List Old) (o : Old) (h : o.live = true) : liveN (xs ++ [o]) = liveN xs + 1 := by
  simp [liveN, h]
theorem trimTo_append (xs : List Old) (e : List Old) : ∀ n, n ≤ xs.length → trimTo (xs ++ e) n = trimTo xs n
  | 0, _ => rfl
  | n + 1, h => by
    simp only [trimTo]
    rw [List.getElem?_append_left (by omega), trimTo_append xs e n (by omega)]
theorem trimTo_last {xs : List Old} (h : lastOk xs = true) : trimTo xs xs.length = xs.length := by
  cases hl : xs.length with
  | zero => rfl
  | succ n =>
    obtain ⟨o, ho⟩ := list_get (xs := xs) (i := n) (by omega)
    have : lastOk xs = o.live := by
      unfold lastOk
      rw [hl, Nat.add_sub_cancel, ho]
    rw [this] at h
    simp [trimTo, ho, h]
theorem may_iff {xs : List Old} : may xs = true ↔ xs.length ≤ 15 ∧ lastOk xs = true ∧ xs.all okOld = true ∧ sizeOf' xs ≤ 224 := by
  simp only [may, Bool.and_eq_true, decide_eq_true_eq, and_assoc]
theorem dead_zero {d : Old} (h : okOld d = true) (hl : d.live = false) : d = .zero := by
  simp only [okOld, hl, Bool.false_or, Bool.and_eq_true] at h
  exact same_iff.1 h.1

theorem add_ok {lsn : Int} {xs : List Old} {o : Old} (h : (addP lsn xs o).2.2.2 = 0) :
    ∃ ys p, addP lsn xs o = (lsn, ys, p, 0) ∧ may xs = true ∧ o.live = true ∧ o.delta.size ≤ 66 ∧
      ((p = xs.length ∧ ys = xs ++ [o] ∧ xs.length < 15 ∧ deadAt xs = none ∧ sizeOf' xs + 11 + o.delta.size ≤ 224) ∨
       (∃ i, p = (i : Nat) ∧ deadAt xs = some i ∧ ys = xs.set i o ∧ sizeOf' xs + 10 + o.delta.size ≤ 224)) := by
  unfold addP at h ⊢
  by_cases hc : may xs = false ∨ o.live = false ∨ 66 < o.delta.size
  · rw [if_pos hc] at h; simp at h
  rw [if_neg hc] at h ⊢
  rw [not_or, not_or] at hc
  obtain ⟨h1, h2, h3⟩ := hc
  have h1 : may xs = true := by simpa using h1
  have h2 : o.live = true := by simpa using h2
  have h3 : o.delta.size ≤ 66 := by omega
  by_cases hp : place xs o.delta.size < 0
  · simp [hp] at h
  simp only [hp, if_false] at h ⊢
  have hlen := may_len h1
  cases hd : deadAt xs with
  | none =>
    have hpl : place xs o.delta.size = if xs.length = 15 ∨ 224 < (sizeOf' xs : Int) + 11 + (o.delta.size : Int) then (-1 : Int) else (xs.length : Int) := by
      rw [place, if_neg (by simp only [h1, Bool.true_eq_false, or_false]; omega), hd]
    by_cases hx : xs.length = 15 ∨ 224 < (sizeOf' xs : Int) + 11 + (o.delta.size : Int)
    · rw [if_pos hx] at hpl; omega
    rw [if_neg hx] at hpl
    rw [if_pos hpl]
    exact ⟨_, _, rfl, h1, h2, h3, .inl ⟨hpl, rfl, by omega, rfl, by omega⟩⟩
  | some i =>
    have hpl : place xs o.delta.size = if 224 < (sizeOf' xs : Int) + 10 + (o.delta.size : Int) then (-1 : Int) else (i : Int) := by
      rw [place, if_neg (by simp only [h1, Bool.true_eq_false, or_false]; omega), hd]
    by_cases hx : 224 < (sizeOf' xs : Int) + 10 + (o.delta.size : Int)
    · rw [if_pos hx] at hpl; omega
    rw [if_neg hx] at hpl
    obtain ⟨d, hg, _⟩ := deadAt_get hd
    have hlt : i < xs.length := by
      rcases Nat.lt_or_ge i xs.length with h | h
      · exact h
      · rw [List.getElem?_eq_none h] at hg; cases hg
    rw [if_neg (by omega)]
    refine ⟨_, _, rfl, h1, h2, h3, .inr ⟨i, hpl, rfl, ?_, by omega⟩⟩
    rw [hpl]; rfl

theorem add_back {lsn : Int} {xs : List Old} {o : Old} (h : (addP lsn xs o).2.2.2 = 0) :
    ∃ ys p, addP lsn xs o = (lsn, ys, p, 0) ∧ 0 ≤ p ∧ p ≤ 15 ∧ ys.length ≤ 15 ∧ getP ys p = (o, true) ∧ freeP lsn ys p = (lsn, xs, 0) ∧ liveN ys = liveN xs + 1 ∧ may ys = true := by
  obtain ⟨ys, p, he, h1, h2, h3, hc⟩ := add_ok h
  have hm := may_iff.1 h1
  have hko : okOld o = true := by simp [okOld, h2, h3]
  have hco : o.cost = 10 + o.delta.size := by simp [Old.cost, h2]
  rcases hc with ⟨hp, rfl, hlen, hd, hs⟩ | ⟨i, hp, hd, rfl, hs⟩
  · subst hp
    have hget : (xs ++ [o])[xs.length]? = some o := by simp
    have hmay : may (xs ++ [o]) = true := by
      refine may_iff.2 ⟨by simp; omega, by simp [lastOk, h2], by simp [hko, hm.2.2.1], ?_⟩
      simp only [sizeOf', List.map_append, List.sum_append, List.map_cons, List.map_nil, List.sum_cons, List.sum_nil, hco] at hs ⊢; omega
    refine ⟨_, _, he, by omega, by omega, by simp; omega, by simp [getP, h2], ?_, liveN_append xs o h2, hmay⟩
    rw [freeP, if_neg (by simp [hmay, getP, h2])]
    simp only [Int.toNat_natCast]
    have hset : (xs ++ [o]).set xs.length .zero = xs ++ [.zero] := by simp
    rw [hset, List.length_append, List.length_singleton]
    have ht : trimTo (xs ++ [.zero]) (xs.length + 1) = xs.length := by
      have : trimTo (xs ++ [.zero]) (xs.length + 1) = trimTo (xs ++ [.zero]) xs.length := by simp [trimTo, Old.zero]
      rw [this, trimTo_append xs _ _ (Nat.le_refl _), trimTo_last hm.2.1]
    rw [ht]
    simp
  · subst hp
    obtain ⟨d, hg, hl⟩ := deadAt_get hd
    have hlt : i < xs.length := by
      rcases Nat.lt_or_ge i xs.length with h | h
      · exact h
      · rw [List.getElem?_eq_none h] at hg; cases hg
    have hd0 : d = .zero := dead_zero (List.all_eq_true.1 hm.2.2.1 d (List.mem_of_getElem? hg)) hl
    have hs2 := sizeOf_set o hg
    have hcd : d.cost = 0 := by simp [Old.cost, hl]
    have hmay : may (xs.set i o) = true := by
      refine may_iff.2 ⟨by simp; omega, ?_, ?_, by omega⟩
      · have hlast := hm.2.1
        simp only [lastOk, List.length_set] at hlast ⊢
        by_cases hi : i = xs.length - 1
        · rw [← hi, get_set hg]; exact h2
        · rw [List.getElem?_set_ne hi]; exact hlast
      · rw [List.all_eq_true]
        intro x hx
        rcases List.mem_or_eq_of_mem_set hx with h | rfl
        · exact List.all_eq_true.1 hm.2.2.1 x h
        · exact hko
    have hgp : getP (xs.set i o) i = (o, true) := by
      simp only [getP, Int.toNat_natCast, get_set hg, h2, if_true]
    refine ⟨_, _, he, by omega, by omega, by simp; omega, hgp, ?_, liveN_set o hg hl h2, hmay⟩
    rw [freeP, if_neg (by simp [hmay, hgp])]
    simp only [Int.toNat_natCast]
    rw [List.set_set, ← hd0, set_self hg, trimTo_last hm.2.1]
    simp
end Go.Proofs.Ytlagoaggllhggaa
