/- Rooms that are filled. -/
import Derived.Test.YtlagoaggllhggaaB7
set_option linter.unusedVariables false
set_option linter.unusedSimpArgs false
namespace Go.Proofs.Ytlagoaggllhggaa
open Go Go.RowKit

/-- Pages of which every slot is live. -/
def Good (L : List Pg) : Prop := ∀ p, p ∈ L → may p.2 = true ∧ p.2.all (·.live) = true
theorem Good.small {L : List Pg} (h : Good L) (hl : L.length ≤ 4) : Small L := ⟨by omega, fun p hp => by have := may_len (h p hp).1; omega⟩
theorem Good.live {L : List Pg} (h : Good L) : liveAll L ≤ L.length * 15 := by
  induction L with
  | nil => simp [liveAll]
  | cons p L ih =>
    have h1 := ih fun q hq => h q (by simp [hq])
    have h2 := liveN_le p.2
    have h3 := may_len (h p (by simp)).1
    simp [liveAll] at *; omega
theorem good0 (k : Nat) : Good (L0 k) := fun p hp => by
  rw [List.eq_of_mem_replicate hp]; exact ⟨by decide, rfl⟩
theorem live0 : ∀ k, liveAll (L0 k) = 0
  | 0 => rfl
  | k + 1 => by
    have := live0 k
    simp [L0, liveAll, List.replicate_succ, liveN] at *
theorem Good.set {L : List Pg} {i : Nat} {p : Pg} (h : Good L) (hp : may p.2 = true ∧ p.2.all (·.live) = true) : Good (L.set i p) := fun q hq => by
  rcases List.mem_or_eq_of_mem_set hq with h1 | rfl
  · exact h q h1
  · exact hp
theorem liveAll_set : ∀ {L : List Pg} {i : Nat} {p : Pg} (q : Pg), L[i]? = some p → liveAll (L.set i q) + liveN p.2 = liveAll L + liveN q.2
  | [], i, p, q, h => by simp at h
  | x :: L, 0, p, q, h => by simp at h; subst h; simp [liveAll]; omega
  | x :: L, i + 1, p, q, h => by
    simp only [List.getElem?_cons_succ] at h
    have := liveAll_set q h
    simp [liveAll] at this ⊢; omega
theorem add_fits {lsn : Int} {xs : List Old} {o : Old} (hm : may xs = true) (hl : o.live = true) (hs : o.delta.size ≤ 66) (hf : fits xs o.delta.size = true) : (addP lsn xs o).2.2.2 = 0 := by
  have hf' := of_decide_eq_true hf
  unfold addP
  rw [if_neg (by simp only [hm, hl, Bool.true_eq_false, false_or]; omega)]
  have hp : ¬ place xs o.delta.size < 0 := by omega
  simp only [hp, if_false]
  split <;> rfl
theorem firstFit_get {n : Int} : ∀ {L : List Pg} {i : Nat}, firstFit n L = some i → ∃ p, L[i]? = some p ∧ fits p.2 n = true
  | [], i, h => by simp [firstFit] at h
  | x :: L, i, h => by
    simp only [firstFit] at h
    split at h
    · rename_i hx
      simp at h; subst h; exact ⟨x, rfl, hx⟩
    · cases hd : firstFit n L with
      | none => simp [hd] at h
      | some j =>
        simp [hd] at h; subst h
        obtain ⟨p, h1, h2⟩ := firstFit_get hd
        exact ⟨p, by simpa using h1, h2⟩
theorem firstFit_no {n : Int} : ∀ {L : List Pg}, firstFit n L = none → ∀ p, p ∈ L → fits p.2 n = false
  | [], _, p, hp => by simp at hp
  | x :: L, h, p, hp => by
    simp only [firstFit] at h
    split at h
    · simp at h
    · rename_i hx
      cases hd : firstFit n L with
      | some j => simp [hd] at h
      | none =>
        rcases List.mem_cons.1 hp with rfl | hp
        · simpa using hx
        · exact firstFit_no hd p hp
/-- What Find told. -/
theorem find_ok {L : List Pg} {last : Nat} {n : Int} (hl : last < L.length) (h : (findP L last n).2.1 = true) : ∃ (i : Nat) (p : Pg), findP L last n = ((i : Int), true, i) ∧ L[i]? = some p ∧ fits p.2 n = true ∧ i < L.length := by
  obtain ⟨p, hp⟩ := list_get (xs := L) hl
  simp only [findP, hp] at h ⊢
  by_cases hf : fits p.2 n = true
  · rw [if_pos hf]; exact ⟨last, p, rfl, hp, hf, hl⟩
  · rw [if_neg hf] at h ⊢
    cases hff : firstFit n L with
    | none => rw [hff] at h; simp at h
    | some i =>
      obtain ⟨q, h1, h2⟩ := firstFit_get hff
      refine ⟨i, q, rfl, h1, h2, ?_⟩
      rcases Nat.lt_or_ge i L.length with h3 | h3
      · exact h3
      · rw [List.getElem?_eq_none h3] at h1; cases h1
theorem find_no {L : List Pg} {last : Nat} {n : Int} (hl : last < L.length) (h : (findP L last n).2.1 = false) : findP L last n = (0, false, last) ∧ ∀ p, p ∈ L → fits p.2 n = false := by
  obtain ⟨p, hp⟩ := list_get (xs := L) hl
  simp only [findP, hp] at h ⊢
  by_cases hf : fits p.2 n = true
  · rw [if_pos hf] at h; simp at h
  · rw [if_neg hf] at h ⊢
    cases hff : firstFit n L with
    | none => exact ⟨rfl, firstFit_no hff⟩
    | some i => rw [hff] at h; simp at h
theorem find_yes {L : List Pg} {last : Nat} {n : Int} (hl : last < L.length) {p : Pg} (hp : p ∈ L) (hf : fits p.2 n = true) : (findP L last n).2.1 = true := by
  cases h : (findP L last n).2.1
  · have := (find_no hl h).2 p hp
    rw [this] at hf; cases hf
  · rfl
theorem fits_empty {n : Nat} (h : n ≤ 66) : fits [] n = true := by
  rw [fits_iff (by decide) h]
  simp [deadAt, sizeOf']; omega
theorem liveN_trim (ys : List Old) : ∀ n, n ≤ ys.length → liveN (ys.take (trimTo ys n)) = liveN (ys.take n)
  | 0, _ => by simp [trimTo]
  | n + 1, h => by
    obtain ⟨o, ho⟩ := list_get (xs := ys) (i := n) (by omega)
    have ht := liveN_take ho
    simp only [trimTo, ho]
    cases hl : o.live
    · rw [hl] at ht
      simp only [Bool.false_eq_true, if_false, Nat.add_zero] at ht ⊢
      rw [ht]; exact liveN_trim ys n (by omega)
    · simp
theorem liveN_kill : ∀ {xs : List Old} {k : Nat} {d : Old}, xs[k]? = some d → d.live = true → liveN (xs.set k .zero) + 1 = liveN xs
  | [], k, d, h, _ => by simp at h
  | x :: xs, 0, d, h, hl => by simp at h; subst h; simp [liveN, hl, Old.zero]
  | x :: xs, k + 1, d, h, hl => by
    simp only [List.getElem?_cons_succ] at h
    have := liveN_kill h hl
    rw [List.set_cons_succ]
    simp only [liveN, List.filter_cons] at this ⊢
    split
    · simp only [List.length_cons]; omega
    · exact this
theorem free_live {lsn : Int} {xs : List Old} {k : Nat} {d : Old} (hm : may xs = true) (hd : xs[k]? = some d) (hl : d.live = true) {ys : List Old} (hf : freeP lsn xs k = (lsn, ys, 0)) : liveN ys + 1 = liveN xs := by
  have hg : getP xs (k : Int) = (d, true) := by simp [getP, hd, hl]
  rw [freeP, if_neg (by simp [hg, hm])] at hf
  simp only [Int.toNat_natCast, Prod.mk.injEq, true_and, and_true] at hf
  rw [← hf, liveN_trim _ _ (Nat.le_refl _), List.take_of_length_le (Nat.le_refl _)]
  exact liveN_kill hd hl
/-- Where there is no room there is something. -/
theorem full_live {L : List Pg} {last : Nat} {n : Nat} (hg : Good L) (hl : last < L.length) (hn : n ≤ 66) (h : (findP L last n).2.1 = false) : 0 < liveAll L := by
  obtain ⟨p, hp⟩ := list_get (xs := L) hl
  have hmem := List.mem_of_getElem? hp
  have hf := (find_no hl h).2 p hmem
  have hpl := liveN_all (hg p hmem).2
  have hpos : 0 < p.2.length := by
    cases hx : p.2 with
    | nil => rw [hx, fits_empty hn] at hf; cases hf
    | cons a r => simp
  have h1 := liveAll_set (0, []) hp
  have h2 : liveN ([] : List Old) = 0 := rfl
  simp only [h2] at h1
  omega
end Go.Proofs.Ytlagoaggllhggaa
