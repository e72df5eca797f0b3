/- What is seen lags behind what lasts by what is pending; a crash that keeps all or nothing. -/
import Derived.Test.YtpnjllemklindaaD18
set_option linter.unusedVariables false
set_option linter.unusedSimpArgs false
namespace Go.Proofs.Ytpnjllemklindaa
open Go Go.RowKit

def allN (l p : List Wr) : List Wr := setN l p [] true p.length
theorem setN_append (l p q : List Wr) : ∀ i, i ≤ p.length → setN l (p ++ q) [] true i = setN l p [] true i
  | 0, _ => rfl
  | i + 1, h => by
    simp only [setN]
    rw [List.getElem?_append_left (by omega), setN_append l p q i (by omega)]
theorem allN_snoc (l p : List Wr) (w : Wr) : allN l (p ++ [w]) = aPut (allN l p) w.1 w.2 := by
  unfold allN
  rw [List.length_append, List.length_singleton]
  simp only [setN]
  rw [List.getElem?_append_right (Nat.le_refl _), Nat.sub_self, setN_append l p [w] p.length (Nat.le_refl _)]
  rfl
theorem allN_nil (l : List Wr) : allN l [] = l := rfl
def Lag (d : DS) : Prop := ∀ k, aGet d.seen k = aGet (allN d.sure d.pend) k
theorem lag_wr {d : DS} (h : Lag d) (b : Nat) (x : List UInt8) : ∀ i, Lag (d.wr b x i)
  | 0 => h
  | i + 1 => by
    have ih := lag_wr h b x i
    intro k
    show aGet (wrSN d.seen b x (i + 1)) k = aGet (allN d.sure (wrPN d.pend b x (i + 1))) k
    rw [wrSN, wrPN, allN_snoc, aGet_put, aGet_put, show aGet (wrSN d.seen b x i) k = _ from ih k]
    rfl
theorem lag_op {d : DS} (h : Lag d) : Lag d.opP.2 := by
  obtain ⟨_, q2, q3, q4, _⟩ := opP_same d
  intro k
  rw [q2, q3, q4]; exact h k
theorem lag_do {d : DS} (h : Lag d) (o : DOp) : Lag (d.doP o).2.2 := by
  unfold DS.doP
  split
  · unfold DS.readP
    split
    · exact h
    · split
      · exact h
      · split <;> exact lag_op h
  · split
    · unfold DS.writeP
      split
      · exact h
      · split
        · exact h
        · split
          · exact lag_op h
          · exact lag_wr (lag_op h) _ _ 4
    · split
      · unfold DS.syncP
        split
        · exact h
        · split
          · exact lag_op h
          · intro k
            show aGet d.opP.2.seen k = aGet (allN (allN d.opP.2.sure d.opP.2.pend) []) k
            rw [allN_nil]; exact lag_op h k
      · split
        · exact h
        · split
          · intro k; rfl
          · exact h
theorem keep_all {l p : List Wr} {n : Nat} (hn : n = p.length) : ∀ i, i ≤ p.length → setN l p (List.replicate n true) false i = setN l p [] true i
  | 0, _ => rfl
  | i + 1, h => by
    have ih := keep_all (l := l) hn i (by omega)
    simp only [setN]
    have e : (List.replicate n true).getD i false = true := by
      rw [List.getD_eq_getElem?_getD, List.getElem?_replicate, if_pos (by omega)]; rfl
    cases p[i]? with
    | none => exact ih
    | some w => simp only [e, Bool.or_true, Bool.true_or, if_true, ih]
theorem keep_none {l p : List Wr} {n : Nat} : ∀ i, setN l p (List.replicate n false) false i = l
  | 0 => rfl
  | i + 1 => by
    have ih := keep_none (l := l) (p := p) (n := n) i
    simp only [setN]
    have e : (List.replicate n false).getD i false = false := by
      rw [List.getD_eq_getElem?_getD, List.getElem?_replicate]
      split <;> rfl
    cases p[i]? with
    | none => exact ih
    | some w => simp only [e, Bool.or_false, ih]; rfl
/-- A disk behind i calls of a script. -/
structure Kp (i : Nat) (d : DS) : Prop where
  ok : d.Ok
  n8 : d.n = 8
  ops : d.ops ≤ i
  pend : d.pend.length ≤ 4 * i
  lag : Lag d
theorem kp_new : Kp 0 (DS.new 8) := ⟨new_ok (by omega) (by omega), rfl, Nat.le_refl _, Nat.le_refl _, fun k => rfl⟩
theorem kp_do {i : Nat} {d : DS} (h : Kp i d) (hi : i < 1000) {o : DOp} (hk : o.Ok) : Kp (i + 1) (d.doP o).2.2 := by
  have h1 := h.ops
  have h2 := h.pend
  obtain ⟨q1, q2, q3, q4⟩ := doP_ok h.ok (by omega) (by omega) hk
  exact ⟨q1, q2.trans h.n8, by omega, by omega, lag_do h.lag o⟩
theorem kp_read {i : Nat} {d : DS} (h : Kp i d) (all : Bool) (b : Nat) : gatherP (d.crashP (List.replicate d.pend.length all)).seen b = gatherP (if all then d.seen else d.sure) b := by
  have hc := crash_ok h.ok (List.replicate d.pend.length all)
  cases all
  · show gatherP (setN d.sure d.pend (List.replicate d.pend.length false) false d.pend.length) b = gatherP d.sure b
    rw [keep_none]
  · refine gat_congr hc.seen h.ok.seen fun j hj => ?_
    rw [h.lag (b, j)]
    show aGet (setN d.sure d.pend (List.replicate d.pend.length true) false d.pend.length) (b, j) = _
    rw [keep_all rfl _ (Nat.le_refl _)]
    rfl
/-- The names that any call leaves. -/
theorem doP_names3 {d : DS} {o : DOp} {s' q' m' x : Nat} (hs : (if o.kind = 4 then x else 102) = s') (hq : (if o.kind = 3 then x else 103) = q') (hm : (if o.kind = 1 ∧ (d.writeP o.block (filL o.byte 256)).2.pend ≠ d.pend then x else 104) = m') (hx : 105 ≤ x) :
    (s' = 102 ∨ (x ≤ s' ∧ s' < x + 1)) ∧ ((d.doP o).2.2.fails = none ∨ (q' = 103 ∧ d.fails ≠ none) ∨ (x ≤ q' ∧ q' < x + 1)) ∧ ((d.doP o).2.2.pend = [] ∨ (m' = 104 ∧ d.pend ≠ []) ∨ (x ≤ m' ∧ m' < x + 1)) ∧ (s' ≠ q' ∧ s' ≠ m' ∧ q' ≠ m') ∧ (102 ≤ s' ∧ 102 ≤ q' ∧ 102 ≤ m') := by
  refine ⟨?_, ?_, doP_names (by omega) hm, ?_, ?_⟩
  · by_cases h4 : o.kind = 4
    · rw [if_pos h4] at hs; omega
    · rw [if_neg h4] at hs; omega
  · by_cases h3 : o.kind = 3
    · rw [if_pos h3] at hq; omega
    · rw [if_neg h3] at hq
      by_cases h4 : o.kind = 4
      · left
        unfold DS.doP
        rw [if_neg (by omega), if_neg (by omega), if_neg (by omega), if_neg h3, if_pos h4]; rfl
      · rw [doP_fails h3 h4]
        by_cases e : d.fails = none
        · exact .inl e
        · exact .inr (.inl ⟨hq.symm, e⟩)
  · by_cases h4 : o.kind = 4
    · rw [if_pos h4] at hs
      rw [if_neg (by omega)] at hq
      rw [if_neg (by rintro ⟨h, _⟩; omega)] at hm
      omega
    · rw [if_neg h4] at hs
      by_cases h3 : o.kind = 3
      · rw [if_pos h3] at hq
        rw [if_neg (by rintro ⟨h, _⟩; omega)] at hm
        omega
      · rw [if_neg h3] at hq
        split at hm <;> omega
  · split at hs <;> split at hq <;> split at hm <;> omega
end Go.Proofs.Ytpnjllemklindaa
