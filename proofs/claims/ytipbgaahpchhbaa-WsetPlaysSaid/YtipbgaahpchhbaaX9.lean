/- What binds the set and the document's. -/
import Derived.Test.YtipbgaahpchhbaaX8
set_option linter.unusedVariables false
set_option linter.unusedSimpArgs false
namespace Go.Proofs.Ytipbgaahpchhbaa
open Go Go.RowKit

structure MRel (l : List Wo) (M : List KV) : Prop where
  keys : dist l = M.map (·.1)
  read : ∀ p e, aGet M p = some e → rreadP l p = (e.1, e.2, true)
  inn : ∀ w, w ∈ l → w.In
theorem rel0 : MRel [] [] := ⟨rfl, fun p e h => by simp [aGet] at h, fun w h => by cases h⟩
theorem rread_no {p : Nat} : ∀ {l : List Wo} {r : RS}, hasP l p = false → l.foldl (rstep p) r = r
  | [], r, _ => rfl
  | w :: t, r, h => by
    have h1 : w.page ≠ p ∧ hasP t p = false := by
      simp only [hasP, List.any_cons, Bool.or_eq_false_iff, beq_eq_false_iff_ne] at h ⊢
      exact h
    rw [List.foldl_cons, rstep, if_pos h1.1]
    exact rread_no h1.2
theorem MRel.has {l : List Wo} {M : List KV} (h : MRel l M) (p : Nat) : hasP l p = true ↔ p ∈ M.map (·.1) := by
  rw [← h.keys, mem_dist]
theorem MRel.none {l : List Wo} {M : List KV} (h : MRel l M) {p : Nat} (hg : aGet M p = none) : hasP l p = false ∧ rreadP l p = (zb 64, zb 64, false) := by
  have h1 : hasP l p = false := by
    cases hc : hasP l p
    · rfl
    · exact absurd ((h.has p).1 hc) (aGet_none.1 hg)
  exact ⟨h1, rread_no h1⟩
theorem MRel.some {l : List Wo} {M : List KV} (h : MRel l M) {p : Nat} {e : Bo × Bo} (hg : aGet M p = some e) : hasP l p = true := by
  refine (h.has p).2 ?_
  exact List.mem_map.2 ⟨(p, e), aGet_mem hg, rfl⟩
theorem put_keys {M : List KV} {k : Nat} {e v : Bo × Bo} (h : aGet M k = some e) : (aPut M k v).map (·.1) = M.map (·.1) := by
  induction M with
  | nil => simp [aGet] at h
  | cons x r ih =>
    unfold aGet at h
    unfold aPut
    by_cases hc : x.1 = k
    · rw [if_pos hc] at h ⊢
      show k :: _ = x.1 :: _
      rw [hc]
    · rw [if_neg hc] at h ⊢
      show x.1 :: _ = x.1 :: _
      rw [ih h]
theorem rread_add (l : List Wo) (w : Wo) (p : Nat) : rreadP (l ++ [w]) p = rstep p (rreadP l p) w := by
  rw [rreadP, List.foldl_append]; rfl
theorem MRel.write {l : List Wo} {M : List KV} (h : MRel l M) (hM : MOk M) {w : Wo} (hw : w.Ok) :
    (writeP M w.page w.base w.off w.s).1 = (rwriteP l w).1 ∧ MRel (rwriteP l w).2 (writeP M w.page w.base w.off w.s).2 ∧ ((rwriteP l w).1 = 0 → (rwriteP l w).2 = l ++ [w]) ∧ ((rwriteP l w).1 ≠ 0 → (rwriteP l w).2 = l) ∧ ((rwriteP l w).1 ≠ 0 → (writeP M w.page w.base w.off w.s).2 = M) := by
  unfold writeP rwriteP
  by_cases hc : w.off < 0 ∨ 64 < w.off ∨ 64 - w.off < (w.s.length : Int)
  · rw [if_pos hc, if_pos hc]
    exact ⟨rfl, h, fun h => absurd h (by simp), fun _ => rfl, fun _ => rfl⟩
  rw [if_neg hc, if_neg hc]
  have hin : w.In := ⟨hw, by omega, by omega, by omega⟩
  have hinn : ∀ v, v ∈ l ++ [w] → v.In := fun v hv => by
    rcases List.mem_append.1 hv with h1 | h1
    · exact h.inn v h1
    · rw [List.mem_singleton.1 h1]; exact hin
  have hlen : (dist l).length = M.length := by rw [h.keys, List.length_map]
  cases hg : aGet M w.page with
  | some e =>
    have hh := h.some hg
    simp only [hh]
    rw [if_neg (fun h => by simp at h)]
    refine ⟨rfl, ⟨?_, fun p e' he => ?_, hinn⟩, fun _ => rfl, fun h => absurd rfl h, fun h => absurd rfl h⟩
    · show dist (l ++ [w]) = (aPut M w.page _).map (·.1)
      rw [put_keys hg, dist_snoc, if_pos (mem_dist.2 hh), h.keys]
    · rw [aGet_put] at he
      rw [rread_add]
      by_cases hp : w.page = p
      · rw [if_pos hp] at he
        cases he
        rw [← hp, h.read _ _ hg, rstep, if_neg (fun h => h rfl), if_pos rfl]
      · rw [if_neg hp] at he
        rw [h.read p e' he, rstep, if_pos hp]
  | none =>
    obtain ⟨hh, hr⟩ := h.none hg
    simp only [hh]
    by_cases h4 : M.length = 4
    · rw [if_pos h4, if_pos ⟨trivial, by omega⟩]
      exact ⟨rfl, h, fun h => absurd h (by simp), fun _ => rfl, fun _ => rfl⟩
    · have := hM.few
      rw [if_neg h4, if_neg (fun h => by omega)]
      have hnew := aPut_new (v := (w.base, layB w.base w.off.toNat w.s)) (aGet_none.1 hg)
      refine ⟨rfl, ⟨?_, fun p e' he => ?_, hinn⟩, fun _ => rfl, fun h => absurd rfl h, fun h => absurd rfl h⟩
      · show dist (l ++ [w]) = (aPut M w.page _).map (·.1)
        rw [hnew, dist_snoc, if_neg (fun h => by rw [mem_dist, hh] at h; cases h), h.keys, List.map_append]; rfl
      · rw [aGet_put] at he
        rw [rread_add]
        by_cases hp : w.page = p
        · rw [if_pos hp] at he
          cases he
          rw [← hp, hr, rstep, if_neg (fun h => h rfl), if_neg (by simp)]
        · rw [if_neg hp] at he
          rw [h.read p e' he, rstep, if_pos hp]
theorem MRel.reads {l : List Wo} {M : List KV} (h : MRel l M) (hM : MOk M) (p : Nat) : ∃ base : Bo, base.length = 64 ∧ rreadP l p = (base, (readP M p).1, (readP M p).2) ∧ deltaP M p = makeP base (readP M p).1 := by
  unfold deltaP readP
  cases hg : aGet M p with
  | some e => exact ⟨e.1, (hM.keys _ (aGet_mem hg)).2.1, h.read p e hg, rfl⟩
  | none => exact ⟨zb 64, zb_len 64, (h.none hg).2, rfl⟩
theorem MRel.pages {l : List Wo} {M : List KV} (h : MRel l M) (hM : MOk M) : pgL l 65536 = keysIn M := by
  have hpw : (pgL l 65536).Pairwise (fun a b => a < b) := (List.pairwise_lt_range (n := 65536)).sublist (List.filter_sublist (p := fun p => hasP l p))
  have hnd : (pgL l 65536).Nodup := hpw.imp fun h => by omega
  have hp : (M.map (·.1)).Perm (pgL l 65536) := (List.perm_ext_iff_of_nodup hM.nodup hnd).2 fun a => by
    rw [pgL, List.mem_filter, List.mem_range]
    constructor
    · intro hm
      obtain ⟨e, he, rfl⟩ := List.mem_map.1 hm
      exact ⟨(hM.keys e he).1, (h.has _).2 hm⟩
    · rintro ⟨_, h2⟩; exact (h.has a).1 h2
  rw [keysIn, sortN_eq hp, sortN]
  refine (List.mergeSort_of_pairwise ?_).symm
  exact hpw.imp fun h => by simp; omega
end Go.Proofs.Ytipbgaahpchhbaa
