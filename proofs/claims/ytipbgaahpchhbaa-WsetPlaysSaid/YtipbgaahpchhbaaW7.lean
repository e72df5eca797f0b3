/- What a delta that was made makes of the body it was made of; writings. -/
import Derived.Test.YtipbgaahpchhbaaW6
set_option linter.unusedVariables false
set_option linter.unusedSimpArgs false
namespace Go.Proofs.Ytipbgaahpchhbaa
open Go Go.RowKit

theorem layB_get {out x : Bo} {a i : Nat} (h : a + x.length ≤ out.length) : (layB out a x)[i]? = if a ≤ i ∧ i < a + x.length then x[i - a]? else out[i]? := by
  have lo : (out.take a).length = a := by rw [List.length_take]; omega
  simp only [layB, List.append_assoc]
  by_cases h1 : i < a
  · rw [if_neg (by omega), List.getElem?_append_left (by omega), List.getElem?_take, if_pos h1]
  · rw [List.getElem?_append_right (by omega), lo]
    by_cases h2 : i < a + x.length
    · rw [if_pos (by omega), List.getElem?_append_left (by omega)]
    · rw [if_neg (by omega), List.getElem?_append_right (by omega), List.getElem?_drop]; congr 1; omega
theorem getD_of {a : Bo} {i : Nat} {x : UInt8} (h : a[i]? = some x) : a.getD i 0 = x := by rw [List.getD_eq_getElem?_getD, h]; rfl
theorem segE_end (a b : Bo) : ∀ (f e k : Nat), 64 ≤ k + f → e ≤ k → (∀ j, e ≤ j → j < k → a.getD j 0 = b.getD j 0) → segE a b f e k < 64 → a.getD (segE a b f e k) 0 = b.getD (segE a b f e k) 0
  | 0, e, k, hf, he, h, hl => h e (Nat.le_refl _) (by have : e < 64 := hl; omega)
  | f + 1, e, k, hf, he, h, hl => by
    unfold segE at hl ⊢
    by_cases hc : k < 64 ∧ k < e + 3
    · rw [if_pos hc] at hl ⊢
      by_cases hd : a.getD k 0 ≠ b.getD k 0
      · rw [if_pos hd] at hl ⊢
        exact segE_end a b f (k + 1) (k + 1) (by omega) (Nat.le_refl _) (fun j h1 h2 => by omega) hl
      · rw [if_neg hd] at hl ⊢
        refine segE_end a b f e (k + 1) (by omega) (by omega) (fun j h1 h2 => ?_) hl
        rcases Nat.lt_or_ge j k with h3 | h3
        · exact h j h1 h3
        · rw [show j = k by omega]; exact Classical.byContradiction fun hh => hd hh
    · rw [if_neg hc] at hl ⊢
      exact h e (Nat.le_refl _) (by omega)
theorem each_make {a b d : Bo} (ha : a.length = 64) (hb : b.length = 64) : ∀ (f i : Nat) (pre : Bo) (k next : Nat) (out : Bo), d = pre ++ makeL a b f i → 64 ≤ i + f → out.length = 64 → (∀ j, j < i → out[j]? = b[j]?) → (∀ j, i ≤ j → out[j]? = a[j]?) → (next ≤ i ∨ (next = i + 1 ∧ (64 ≤ i ∨ a.getD i 0 = b.getD i 0))) → (makeL a b f i).length ≤ k → eachP d k next pre.length out = (true, b)
  | f, i, pre, k, next, out, hd, hf, ho, h1, h2, hn, hk => by
    rcases Nat.lt_or_ge i 64 with hi | hi
    · cases f with
      | zero => omega
      | succ f =>
        obtain ⟨x, hx⟩ := list_get (xs := a) (i := i) (by omega)
        obtain ⟨y, hy⟩ := list_get (xs := b) (i := i) (by omega)
        have gx := getD_of hx
        have gy := getD_of hy
        unfold makeL at hd hk
        rw [if_pos hi] at hd hk
        by_cases hxy : a.getD i 0 = b.getD i 0
        · rw [if_pos hxy] at hd hk
          refine each_make ha hb f (i + 1) pre k next out hd (by omega) ho (fun j hj => ?_) (fun j hj => h2 j (by omega)) (.inl (by omega)) hk
          rcases Nat.lt_or_ge j i with h3 | h3
          · exact h1 j h3
          · rw [show j = i by omega, h2 i (Nat.le_refl _), hx, hy, ← gx, ← gy, hxy]
        · rw [if_neg hxy] at hd hk
          have hE := segE_ge a b 64 (i + 1) (i + 1) (Nat.le_refl _)
          have hend := segE_end a b 64 (i + 1) (i + 1) (by omega) (Nat.le_refl _) (fun j h1 h2 => by omega)
          obtain ⟨E, hEE⟩ : ∃ E, segE a b 64 (i + 1) (i + 1) = E := ⟨_, rfl⟩
          rw [hEE] at hE hend hd hk
          have hE1 := hE.1
          have hE2 : E ≤ 64 := hE.2 (by omega) (by omega)
          have hWl : ((b.take E).drop i).length = E - i := by rw [List.length_drop, List.length_take]; omega
          obtain ⟨W, hW⟩ : ∃ W, (b.take E).drop i = W := ⟨_, rfl⟩
          rw [hW] at hWl hd hk
          have hWg : ∀ j, i ≤ j → j < E → W[j - i]? = b[j]? := fun j h3 h4 => by
            rw [← hW, List.getElem?_drop, List.getElem?_take, if_pos (by omega)]; congr 1; omega
          obtain ⟨R, hR⟩ : ∃ R, makeL a b f E = R := ⟨_, rfl⟩
          rw [hR] at hd hk
          have hk2 : W.length + R.length + 2 ≤ k := by simp only [List.length_cons, List.length_append] at hk; omega
          cases k with
          | zero => omega
          | succ k =>
            have hdl : d.length = pre.length + 2 + W.length + R.length := by rw [hd]; simp only [List.length_cons, List.length_append]; omega
            have g0 : d.getD pre.length 0 = UInt8.ofNat i := by
              rw [hd, List.getD_eq_getElem?_getD, List.getElem?_append_right (Nat.le_refl _), Nat.sub_self]; rfl
            have g1 : d.getD (pre.length + 1) 0 = UInt8.ofNat (E - i) := by
              rw [hd, List.getD_eq_getElem?_getD, List.getElem?_append_right (by omega), Nat.add_sub_cancel_left]; rfl
            have n0 : (UInt8.ofNat i).toNat = i := by simp; omega
            have n1 : (UInt8.ofNat (E - i)).toNat = E - i := by simp; omega
            have hdr : (d.drop (pre.length + 2)).take (E - i) = W := by
              have e1 : (pre ++ UInt8.ofNat i :: UInt8.ofNat (E - i) :: (W ++ R)).drop (pre.length + 2) = W ++ R := by
                rw [List.drop_append, List.drop_of_length_le (by omega), Nat.add_sub_cancel_left]; rfl
              rw [hd, e1, List.take_append_of_le_length (by omega), List.take_of_length_le (by omega)]
            have hn' : next ≤ i := by
              rcases hn with h | ⟨h, h' | h'⟩
              · exact h
              · omega
              · exact absurd h' hxy
            unfold eachP
            simp only [g0, g1, n0, n1, hdr]
            rw [if_pos (by omega), if_neg (by omega), if_neg (by omega)]
            have hpl : pre.length + 2 + (E - i) = (pre ++ UInt8.ofNat i :: UInt8.ofNat (E - i) :: W).length := by simp only [List.length_append, List.length_cons]; omega
            rw [hpl]
            refine each_make ha hb f E (pre ++ UInt8.ofNat i :: UInt8.ofNat (E - i) :: W) k (i + (E - i) + 1) (layB out i W) ?_ (by omega) ?_ (fun j hj => ?_) (fun j hj => ?_) (.inr ⟨by omega, ?_⟩) (by rw [hR]; omega)
            · rw [hd, hR]; simp
            · rw [layB_len (by omega)]; exact ho
            · rw [layB_get (by omega)]
              by_cases h3 : i ≤ j
              · rw [if_pos (by omega), hWg j h3 hj]
              · rw [if_neg (by omega), h1 j (by omega)]
            · rw [layB_get (by omega), if_neg (by omega), h2 j (by omega)]
            · rcases Nat.lt_or_ge E 64 with h3 | h3
              · exact .inr (hend h3)
              · exact .inl h3
    · have hm : makeL a b f i = [] := by
        cases f with
        | zero => rfl
        | succ f => unfold makeL; rw [if_neg (by omega)]
      have hob : out = b := by
        apply List.ext_getElem?
        intro j
        rcases Nat.lt_or_ge j i with h3 | h3
        · exact h1 j h3
        · rw [List.getElem?_eq_none (by omega), List.getElem?_eq_none (by omega)]
      rw [hm, List.append_nil] at hd
      rw [hd, hob]
      cases k with
      | zero => rfl
      | succ k => unfold eachP; rw [if_neg (by omega)]
/-- What a delta that was made of two bodies makes of the first is the second. -/
theorem apply_make {a b : Bo} (ha : a.length = 64) (hb : b.length = 64) : dApplyR a (makeP a b) = (b, 0) := by
  have h := each_make (d := makeP a b) ha hb 64 0 [] (makeP a b).length 0 a rfl (by omega) ha (fun j hj => by omega) (fun j _ => rfl) (.inl (Nat.le_refl _)) (Nat.le_refl _)
  unfold dApplyR dApply
  have h : eachP (makeP a b) (makeP a b).length 0 0 a = (true, b) := h
  rw [h]; rfl
theorem makeL_len {a b : Bo} (hb : b.length = 64) : ∀ (f i : Nat), i ≤ 64 → (makeL a b f i).length ≤ 3 * (64 - i)
  | 0, i, h => by simp [makeL]
  | f + 1, i, h => by
    unfold makeL
    split
    · split
      · have := makeL_len (a := a) hb f (i + 1) (by omega); omega
      · have hE := segE_ge a b 64 (i + 1) (i + 1) (Nat.le_refl _)
        have hE2 := hE.2 (by omega) (by omega)
        have := makeL_len (a := a) hb f (segE a b 64 (i + 1) (i + 1)) hE2
        simp only [List.length_cons, List.length_append, List.length_drop, List.length_take]
        omega
    · simp
theorem makeP_len {a b : Bo} (hb : b.length = 64) : (makeP a b).length ≤ 192 := by
  have := makeL_len (a := a) hb 64 0 (by omega); unfold makeP; omega
/-- A writing. -/
structure Wo where
  page : Nat
  base : Bo
  off : Int
  s : Bo
structure Wo.Ok (o : Wo) : Prop where
  page : kOk o.page
  base : o.base.length = 64
  off : -9223372036854775808 ≤ o.off ∧ o.off ≤ 9223372036854775807
  s : o.s.length ≤ 9223372036854775807
abbrev Wo.av (o : Wo) : AV := .agg [.int .u16 o.page, arrAV o.base, .int .i64 o.off, .str ⟨o.s.toArray⟩]
abbrev wosAV (l : List Wo) : AV := .vsl (l.map Wo.av) l.length
end Go.Proofs.Ytipbgaahpchhbaa
