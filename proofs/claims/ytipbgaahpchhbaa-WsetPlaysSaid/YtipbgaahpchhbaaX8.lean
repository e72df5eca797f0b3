/- The document makes the delta that the program makes. -/
import Derived.Test.YtipbgaahpchhbaaX7
set_option linter.unusedVariables false
set_option linter.unusedSimpArgs false
namespace Go.Proofs.Ytipbgaahpchhbaa
open Go Go.RowKit

def tp (a b : Bo) (j : Nat) : Prop := ∃ p, p ≤ j ∧ a.getD p 0 ≠ b.getD p 0 ∧ (p = j ∨ ∃ q, j < q ∧ q ≤ p + 3 ∧ a.getD q 0 ≠ b.getD q 0)
theorem d_lt {a b : Bo} (ha : a.length = 64) (hb : b.length = 64) {k : Nat} (h : a.getD k 0 ≠ b.getD k 0) : k < 64 := by
  rcases Nat.lt_or_ge k 64 with h1 | h1
  · exact h1
  · rw [List.getD_eq_getElem?_getD, List.getD_eq_getElem?_getD, List.getElem?_eq_none (by omega), List.getElem?_eq_none (by omega)] at h
    exact absurd rfl h
theorem dfL_getD (a b : Bo) {k : Nat} (h : k < 64) : (dfL a b 64).getD k false = true ↔ a.getD k 0 ≠ b.getD k 0 := by
  rw [List.getD_eq_getElem?_getD, dfL_get a b 64 h, Option.getD_some]
  simp [h]
theorem step2_getD {D T : List Bool} {i k j : Nat} (hj : j < 64) : (step2 D T i k).getD j false = true ↔ T.getD j false = true ∨ (D.getD i false = true ∧ D.getD k false = true ∧ i ≤ j ∧ j < k) := by
  unfold step2
  split
  · rename_i h
    rw [List.getD_eq_getElem?_getD, setR_get T i k hj, Option.getD_some]
    simp only [Bool.or_eq_true, Bool.and_eq_true, decide_eq_true_eq]
    constructor
    · rintro (⟨h1, h2⟩ | h1)
      · exact .inr ⟨h.1, h.2, h1, h2⟩
      · exact .inl h1
    · rintro (h1 | ⟨_, _, h1, h2⟩)
      · exact .inr h1
      · exact .inl ⟨h1, h2⟩
  · rename_i h
    constructor
    · exact .inl
    · rintro (h1 | ⟨h1, h2, _, _⟩)
      · exact h1
      · exact absurd ⟨h1, h2⟩ h
def pairP (D : List Bool) (p j : Nat) : Prop := ∃ q, (q = p + 2 ∨ q = p + 3) ∧ q < 64 ∧ D.getD p false = true ∧ D.getD q false = true ∧ p ≤ j ∧ j < q
theorem inner_getD {D T : List Bool} {i j : Nat} (hj : j < 64) : (innerL D i 2 (i + 2) T).getD j false = true ↔ T.getD j false = true ∨ pairP D i j := by
  unfold innerL
  by_cases h2 : i + 2 < 64
  · rw [if_pos ⟨by omega, h2⟩]
    unfold innerL
    by_cases h3 : i + 3 < 64
    · rw [if_pos ⟨by omega, h3⟩]
      show (step2 D (step2 D T i (i + 2)) i (i + 3)).getD j false = true ↔ _
      rw [step2_getD hj, step2_getD hj]
      constructor
      · rintro ((h | ⟨a1, a2, a3, a4⟩) | ⟨a1, a2, a3, a4⟩)
        · exact .inl h
        · exact .inr ⟨i + 2, .inl rfl, h2, a1, a2, a3, a4⟩
        · exact .inr ⟨i + 3, .inr rfl, h3, a1, a2, a3, a4⟩
      · rintro (h | ⟨q, rfl | rfl, _, a1, a2, a3, a4⟩)
        · exact .inl (.inl h)
        · exact .inl (.inr ⟨a1, a2, a3, a4⟩)
        · exact .inr ⟨a1, a2, a3, a4⟩
    · rw [if_neg (fun h => h3 h.2), step2_getD hj]
      constructor
      · rintro (h | ⟨a1, a2, a3, a4⟩)
        · exact .inl h
        · exact .inr ⟨i + 2, .inl rfl, h2, a1, a2, a3, a4⟩
      · rintro (h | ⟨q, rfl | rfl, hq, a1, a2, a3, a4⟩)
        · exact .inl h
        · exact .inr ⟨a1, a2, a3, a4⟩
        · exact absurd hq h3
  · rw [if_neg (fun h => h2 h.2)]
    constructor
    · exact .inl
    · rintro (h | ⟨q, rfl | rfl, hq, _⟩)
      · exact h
      · exact absurd hq h2
      · exact absurd hq (by omega)
theorem outer_getD {D : List Bool} {j : Nat} (hj : j < 64) : ∀ (n i : Nat) (T : List Bool), 64 ≤ i + n → ((outerL D n i T).getD j false = true ↔ T.getD j false = true ∨ ∃ p, i ≤ p ∧ p < 64 ∧ pairP D p j)
  | 0, i, T, h => by
    constructor
    · exact .inl
    · rintro (h1 | ⟨p, h1, h2, _⟩)
      · exact h1
      · omega
  | n + 1, i, T, h => by
    unfold outerL
    by_cases hi : i < 64
    · rw [if_pos hi, outer_getD hj n (i + 1) _ (by omega), inner_getD hj]
      constructor
      · rintro ((h1 | h1) | ⟨p, h1, h2, h3⟩)
        · exact .inl h1
        · exact .inr ⟨i, Nat.le_refl _, hi, h1⟩
        · exact .inr ⟨p, by omega, h2, h3⟩
      · rintro (h1 | ⟨p, h1, h2, h3⟩)
        · exact .inl (.inl h1)
        · rcases Nat.eq_or_lt_of_le h1 with rfl | h4
          · exact .inl (.inr h3)
          · exact .inr ⟨p, by omega, h2, h3⟩
    · rw [if_neg hi]
      constructor
      · exact .inl
      · rintro (h1 | ⟨p, h1, h2, _⟩)
        · exact h1
        · omega
theorem touch_iff {a b : Bo} (ha : a.length = 64) (hb : b.length = 64) {j : Nat} (hj : j < 64) : (touchL a b).getD j false = true ↔ tp a b j := by
  unfold touchL
  rw [outer_getD hj 64 0 _ (by omega), dfL_getD a b hj]
  constructor
  · rintro (h | ⟨p, _, hp, q, hq, hq2, h1, h2, h3, h4⟩)
    · exact ⟨j, Nat.le_refl _, h, .inl rfl⟩
    · rw [dfL_getD a b hp] at h1
      rw [dfL_getD a b hq2] at h2
      exact ⟨p, h3, h1, .inr ⟨q, h4, by omega, h2⟩⟩
  · rintro ⟨p, hp, h1, rfl | ⟨q, h2, h3, h4⟩⟩
    · exact .inl h1
    · have hp64 := d_lt ha hb h1
      have hq64 := d_lt ha hb h4
      rcases Nat.eq_or_lt_of_le hp with rfl | h5
      · exact .inl h1
      · exact .inr ⟨p, Nat.zero_le _, hp64, q, by omega, hq64, (dfL_getD a b hp64).2 h1, (dfL_getD a b hq64).2 h4, by omega, h2⟩
theorem seg_facts {a b : Bo} (ha : a.length = 64) (hb : b.length = 64) {i : Nat} : ∀ (f e k : Nat), i < e → e ≤ k → e ≤ 64 → a.getD (e - 1) 0 ≠ b.getD (e - 1) 0 → (∀ j, i ≤ j → j < e → tp a b j) → (∀ j, e ≤ j → j < k → a.getD j 0 = b.getD j 0) → 64 ≤ k + f →
    (∀ j, i ≤ j → j < segE a b f e k → tp a b j) ∧ (∀ j, segE a b f e k ≤ j → j < segE a b f e k + 3 → a.getD j 0 = b.getD j 0)
  | 0, e, k, h1, h2, h3, h4, h5, h6, h7 => ⟨h5, fun j hj hj2 => Classical.byContradiction fun h => by
      have := d_lt ha hb h
      have hj : e ≤ j := hj
      exact h (h6 j hj (by omega))⟩
  | f + 1, e, k, h1, h2, h3, h4, h5, h6, h7 => by
    unfold segE
    by_cases hc : k < 64 ∧ k < e + 3
    · rw [if_pos hc]
      by_cases hd : a.getD k 0 ≠ b.getD k 0
      · rw [if_pos hd]
        refine seg_facts ha hb f (k + 1) (k + 1) (by omega) (Nat.le_refl _) (by omega) (by rw [Nat.add_sub_cancel]; exact hd) (fun j hj hj2 => ?_) (fun j hj hj2 => by omega) (by omega)
        rcases Nat.lt_or_ge j e with h8 | h8
        · exact h5 j hj h8
        · rcases Nat.lt_or_ge j k with h9 | h9
          · exact ⟨e - 1, by omega, h4, .inr ⟨k, h9, by omega, hd⟩⟩
          · exact ⟨k, by omega, hd, .inl (by omega)⟩
      · rw [if_neg hd]
        refine seg_facts ha hb f e (k + 1) h1 (by omega) h3 h4 h5 (fun j hj hj2 => ?_) (by omega)
        rcases Nat.lt_or_ge j k with h8 | h8
        · exact h6 j hj h8
        · rw [show j = k by omega]; exact Classical.byContradiction fun h => hd h
    · rw [if_neg hc]
      refine ⟨h5, fun j hj hj2 => Classical.byContradiction fun h => ?_⟩
      have := d_lt ha hb h
      exact h (h6 j hj (by omega))
theorem run_eq {T : List Bool} {i E : Nat} (hE : E ≤ 64) (h1 : ∀ j, i ≤ j → j < E → T.getD j false = true) (h2 : E < 64 → ¬ T.getD E false = true) : ∀ (f k : Nat), i ≤ k → k ≤ E → 64 ≤ k + f → runE T f k = E
  | 0, k, _, h4, h5 => by show k = E; omega
  | f + 1, k, h3, h4, h5 => by
    unfold runE
    rcases Nat.eq_or_lt_of_le h4 with rfl | h6
    · rw [if_neg (fun h => h2 h.1 h.2)]
    · rw [if_pos ⟨by omega, h1 k h3 h6⟩]
      exact run_eq hE h1 h2 f (k + 1) (by omega) h6 (by omega)
theorem pc_skip {b : Bo} {T : List Bool} {i E : Nat} (hE : E ≤ 64) (h1 : ∀ j, i ≤ j → j < E → T.getD j false = true) : ∀ (m j f : Nat), j + m = E → i < j → 64 ≤ j + f → ∃ f2, 64 ≤ E + f2 ∧ pcL b T f j = pcL b T f2 E
  | 0, j, f, h2, h3, h4 => ⟨f, by omega, by rw [show j = E by omega]⟩
  | m + 1, j, f, h2, h3, h4 => by
    obtain ⟨f, rfl⟩ : ∃ q, f = q + 1 := ⟨f - 1, by omega⟩
    obtain ⟨f2, h5, h6⟩ := pc_skip (b := b) hE h1 m (j + 1) f (by omega) (by omega) (by omega)
    refine ⟨f2, h5, ?_⟩
    rw [← h6]
    conv => lhs; unfold pcL
    rw [if_pos (by omega), if_neg (fun h => h.2 ⟨by omega, h1 (j - 1) (by omega) (by omega)⟩)]
theorem pc_mk {a b : Bo} (ha : a.length = 64) (hb : b.length = 64) : ∀ (m i : Nat), i + m = 64 → (∀ p, p < i → a.getD p 0 ≠ b.getD p 0 → ∀ q, i ≤ q → a.getD q 0 ≠ b.getD q 0 → p + 3 < q) → (i = 0 ∨ ¬ tp a b (i - 1) ∨ ¬ tp a b i) → ∀ f f', 64 ≤ i + f → 64 ≤ i + f' → pcL b (touchL a b) f i = makeL a b f' i := by
  intro m
  induction m using Nat.strongRecOn with
  | ind m ih =>
    intro i him hinv hcond f f' hf hf'
    rcases Nat.lt_or_ge i 64 with hi | hi
    · obtain ⟨f, rfl⟩ : ∃ q, f = q + 1 := ⟨f - 1, by omega⟩
      obtain ⟨f', rfl⟩ : ∃ q, f' = q + 1 := ⟨f' - 1, by omega⟩
      unfold pcL makeL
      rw [if_pos hi, if_pos hi]
      have hti := touch_iff ha hb hi
      by_cases hd : a.getD i 0 = b.getD i 0
      · have hnt : ¬ tp a b i := by
          rintro ⟨p, hp, h1, rfl | ⟨q, h2, h3, h4⟩⟩
          · exact h1 hd
          · rcases Nat.eq_or_lt_of_le hp with rfl | h5
            · exact h1 hd
            · have := hinv p h5 h1 q (by omega) h4; omega
        rw [if_pos hd, if_neg (fun h => hnt (hti.1 h.1))]
        refine ih (m - 1) (by omega) (i + 1) (by omega) (fun p hp h1 q hq h2 => ?_) (.inr (.inl (by rw [Nat.add_sub_cancel]; exact hnt))) f f' (by omega) (by omega)
        rcases Nat.lt_or_ge p i with h3 | h3
        · exact hinv p h3 h1 q (by omega) h2
        · rw [show p = i by omega] at h1; exact absurd hd h1
      · have htp : tp a b i := ⟨i, Nat.le_refl _, hd, .inl rfl⟩
        have hgo : goP (touchL a b) i := ⟨hti.2 htp, fun ⟨h1, h2⟩ => by
          have h3 := (touch_iff ha hb (show i - 1 < 64 by omega)).1 h2
          rcases hcond with h | h | h
          · omega
          · exact h h3
          · exact h htp⟩
        have hE := segE_ge a b 64 (i + 1) (i + 1) (Nat.le_refl _)
        obtain ⟨s1, s2⟩ := seg_facts ha hb (i := i) 64 (i + 1) (i + 1) (by omega) (Nat.le_refl _) (by omega) (by rw [Nat.add_sub_cancel]; exact hd) (fun j hj hj2 => by rw [show j = i by omega]; exact htp) (fun j hj hj2 => by omega) (by omega)
        obtain ⟨E, hEE⟩ : ∃ E, segE a b 64 (i + 1) (i + 1) = E := ⟨_, rfl⟩
        rw [hEE] at hE s1 s2 ⊢
        have hE1 := hE.1
        have hE2 : E ≤ 64 := hE.2 (by omega) (by omega)
        have hInvE : ∀ p, p < E → a.getD p 0 ≠ b.getD p 0 → ∀ q, E ≤ q → a.getD q 0 ≠ b.getD q 0 → p + 3 < q := fun p hp h1 q hq h2 => by
          rcases Nat.lt_or_ge q (E + 3) with h3 | h3
          · exact absurd (s2 q hq h3) h2
          · omega
        have hntE : ¬ tp a b E := by
          rintro ⟨p, hp, h1, rfl | ⟨q, h2, h3, h4⟩⟩
          · exact h1 (s2 p (Nat.le_refl _) (by omega))
          · rcases Nat.eq_or_lt_of_le hp with rfl | h5
            · exact h1 (s2 p (Nat.le_refl _) (by omega))
            · have := hInvE p h5 h1 q (by omega) h4; omega
        have hTr : ∀ j, i ≤ j → j < E → (touchL a b).getD j false = true := fun j h1 h2 => (touch_iff ha hb (by omega)).2 (s1 j h1 h2)
        have hrun : runE (touchL a b) 64 i = E := run_eq hE2 hTr (fun h h2 => hntE ((touch_iff ha hb h).1 h2)) 64 i (Nat.le_refl _) (by omega) (by omega)
        rw [if_neg hd, if_pos hgo, hrun]
        obtain ⟨f2, h5, h6⟩ := pc_skip (b := b) hE2 hTr (E - (i + 1)) (i + 1) f (by omega) (by omega) (by omega)
        rw [h6, ih (64 - E) (by omega) E (by omega) hInvE (.inr (.inr hntE)) f2 f' h5 (by omega)]
    · have h1 : pcL b (touchL a b) f i = [] := by
        cases f with
        | zero => rfl
        | succ f => unfold pcL; rw [if_neg (by omega)]
      have h2 : makeL a b f' i = [] := by
        cases f' with
        | zero => rfl
        | succ f => unfold makeL; rw [if_neg (by omega)]
      rw [h1, h2]
theorem pieces_make {a b : Bo} (ha : a.length = 64) (hb : b.length = 64) : pcL b (touchL a b) 64 0 = makeP a b :=
  pc_mk ha hb 64 0 rfl (fun p hp => by omega) (.inl rfl) 64 64 (by omega) (by omega)
/-- The document's Make. -/
theorem rmake_ok (a b : Bo) (ha : a.length = 64) (hb : b.length = 64) : ACall Try.prog 15 [arrAV a, arrAV b] [] (.str ⟨(makeP a b).toArray⟩) [] := by
  refine rmake_spec a b ha hb (makeP a b) ?_
  have h := pieces_spec b (touchL a b) hb (touchL_len a b)
  rw [pieces_make ha hb] at h
  exact h
end Go.Proofs.Ytipbgaahpchhbaa
