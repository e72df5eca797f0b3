/- The oracle and the document's: what binds them. -/
import Derived.Test.YtiolhncfnoafeaaO13
set_option linter.unusedVariables false
set_option linter.unusedSimpArgs false
namespace Go.Proofs.Ytiolhncfnoafeaa
open Go Go.RowKit

structure Rel (o : OS) (l : List Tx) : Prop where
  cnt : l.length = o.count
  num : ∀ i t, l[i]? = some t → t.n = i + 1
  live : ∀ n s, (n, s) ∈ o.live ↔ (⟨n, s, true⟩ : Tx) ∈ l
theorem rel_new (last max : Nat) : Rel (new0 last max) [] := ⟨rfl, fun i t h => by simp at h, fun n s => by simp [new0]⟩
theorem Rel.inc {o : OS} {l : List Tx} (h : Rel o l) : (l.map (·.n)).Pairwise (fun a b => a < b) := by
  rw [List.pairwise_iff_getElem]
  intro i j hi hj hij
  rw [List.length_map] at hi hj
  have h1 := h.num i l[i] (List.getElem?_eq_getElem hi)
  have h2 := h.num j l[j] (List.getElem?_eq_getElem hj)
  rw [List.getElem_map, List.getElem_map, h1, h2]; omega
theorem Rel.incL {o : OS} {l : List Tx} (h : Rel o l) : ((liveL l).map (·.n)).Pairwise (fun a b => a < b) := h.inc.sublist ((List.filter_sublist (p := fun t : Tx => t.live) (l := l)).map _)
theorem mem_live {l : List Tx} {n : Nat} : n ∈ (liveL l).map (·.n) ↔ ∃ s, (⟨n, s, true⟩ : Tx) ∈ l := by
  rw [List.mem_map]
  constructor
  · rintro ⟨t, ht, rfl⟩
    obtain ⟨h1, h2⟩ := List.mem_filter.1 ht
    obtain ⟨n, s, b⟩ := t
    simp only at h2
    subst h2
    exact ⟨s, h1⟩
  · rintro ⟨s, h⟩
    exact ⟨_, List.mem_filter.2 ⟨h, rfl⟩, rfl⟩
theorem Rel.keys {o : OS} {l : List Tx} (h : Rel o l) (ho : o.Ok) : keysIn o.live = (liveL l).map (·.n) := by
  have hnd : ((liveL l).map (·.n)).Nodup := h.incL.imp fun h => by omega
  have hp : (o.live.map (·.1)).Perm ((liveL l).map (·.n)) := (List.perm_ext_iff_of_nodup ho.nodup hnd).2 fun a => by
    rw [mem_live, List.mem_map]
    constructor
    · rintro ⟨⟨n, s⟩, he, rfl⟩; exact ⟨s, (h.live n s).1 he⟩
    · rintro ⟨s, he⟩; exact ⟨(a, s), (h.live a s).2 he, rfl⟩
  rw [keysIn, sortN_eq hp, sortN]
  refine List.mergeSort_of_pairwise ?_
  exact h.incL.imp fun h => by simp; omega
theorem Rel.len {o : OS} {l : List Tx} (h : Rel o l) (ho : o.Ok) : (liveL l).length = o.live.length := by
  have := congrArg List.length (h.keys ho)
  rw [keysIn_len, List.length_map] at this
  exact this.symm
theorem atL_some {n : Nat} {t : Tx} : ∀ {l : List Tx} {j i : Nat}, l[j]? = some t → t.n = n → t.live = true → (∀ j' t', j' < j → l[j']? = some t' → t'.n ≠ n) → atL l n i = ((i + j : Nat) : Int)
  | [], j, i, h, _, _, _ => by simp at h
  | u :: r, 0, i, h, h1, h2, _ => by
    simp only [List.getElem?_cons_zero, Option.some.injEq] at h
    subst h
    rw [atL, if_pos ⟨h1, h2⟩]; rfl
  | u :: r, j + 1, i, h, h1, h2, h3 => by
    have h0 := h3 0 u (by omega) rfl
    rw [atL, if_neg (fun h => h0 h.1), atL_some (l := r) (j := j) (i := i + 1) (by simpa using h) h1 h2 (fun j' t' hj ht => h3 (j' + 1) t' (by omega) (by simpa using ht))]
    congr 1; omega
theorem atL_none {n : Nat} : ∀ {l : List Tx} {i : Nat}, (∀ t, t ∈ l → ¬(t.n = n ∧ t.live = true)) → atL l n i = -1
  | [], i, _ => rfl
  | u :: r, i, h => by
    rw [atL, if_neg (h u List.mem_cons_self)]
    exact atL_none fun t ht => h t (List.mem_cons_of_mem _ ht)
theorem Rel.found {o : OS} {l : List Tx} (h : Rel o l) (ho : o.Ok) {n s : Nat} (hg : aGet o.live n = some s) : ∃ k : Nat, l[k]? = some ⟨n, s, true⟩ ∧ n = k + 1 ∧ k < l.length ∧ atP l n = (k : Int) := by
  have hm := (h.live n s).1 (aGet_mem hg)
  obtain ⟨k, hk⟩ := List.mem_iff_getElem?.1 hm
  have hn := h.num k _ hk
  have hl : k < l.length := by
    rcases Nat.lt_or_ge k l.length with h | h
    · exact h
    · rw [List.getElem?_eq_none h] at hk; cases hk
  refine ⟨k, hk, hn, hl, ?_⟩
  have := atL_some (n := n) (i := 0) hk rfl rfl (fun j' t' hj ht => by have := h.num j' t' ht; simp only at hn; omega)
  rw [Nat.zero_add] at this
  exact this
theorem Rel.lost {o : OS} {l : List Tx} (h : Rel o l) (ho : o.Ok) {n : Nat} (hg : aGet o.live n = none) : atP l n = -1 := atL_none fun t ht ⟨h1, h2⟩ => by
  obtain ⟨a, s, b⟩ := t
  simp only at h1 h2
  subst h1 h2
  have := aGet_of_mem ho.nodup ((h.live a s).2 ht)
  rw [hg] at this; cases this
theorem rhz_le : ∀ (l : List Tx) (h : Nat), rhz h l ≤ h
  | [], h => Nat.le_refl _
  | t :: l, h => by
    have h1 := rhz_le l (hzT1 h t)
    have h2 : hzT1 h t ≤ h := by unfold hzT1; split <;> omega
    simp only [rhz, List.foldl_cons] at h1 ⊢; omega
theorem rhz_all : ∀ (l : List Tx) (h : Nat) (t : Tx), t ∈ l → t.live = true → rhz h l ≤ t.s
  | u :: l, h, t, ht, hb => by
    rcases List.mem_cons.1 ht with rfl | ht
    · have h1 := rhz_le l (hzT1 h t)
      have h2 : hzT1 h t ≤ t.s := by
        unfold hzT1; split
        · exact Nat.le_refl _
        · rename_i hh; rw [hb] at hh; simp at hh; omega
      simp only [rhz, List.foldl_cons] at h1 ⊢; omega
    · exact rhz_all l (hzT1 h u) t ht hb
theorem rhz_in : ∀ (l : List Tx) (h : Nat), rhz h l = h ∨ ∃ t, t ∈ l ∧ t.live = true ∧ rhz h l = t.s
  | [], h => .inl rfl
  | u :: l, h => by
    rcases rhz_in l (hzT1 h u) with h1 | ⟨t, ht, hb, h1⟩
    · by_cases hc : u.live = true ∧ u.s < h
      · right; refine ⟨u, List.mem_cons_self, hc.1, ?_⟩
        rw [hzT1, if_pos hc] at h1
        simp only [rhz, List.foldl_cons, hzT1, if_pos hc] at h1 ⊢; exact h1
      · left
        rw [hzT1, if_neg hc] at h1
        simp only [rhz, List.foldl_cons, hzT1, if_neg hc] at h1 ⊢; exact h1
    · exact .inr ⟨t, List.mem_cons_of_mem _ ht, hb, h1⟩
theorem Rel.hz {o : OS} {l : List Tx} (h : Rel o l) (ho : o.Ok) : rhz o.last l = o.hz := by
  apply Nat.le_antisymm
  · rcases hz_in ho with h1 | ⟨⟨n, s⟩, he, h1⟩
    · rw [h1]; exact rhz_le _ _
    · rw [h1]; exact rhz_all l _ _ ((h.live n s).1 he) rfl
  · rcases rhz_in l o.last with h1 | ⟨⟨n, s, b⟩, ht, hb, h1⟩
    · rw [h1]; exact hz_le o
    · rw [h1]
      simp only at hb
      subst hb
      exact hz_all ho ((h.live n s).2 ht)
theorem Rel.begin {o : OS} {l : List Tx} (h : Rel o l) (ho : o.Ok) : Rel o.beginP.2 (rbegP o.last l).2 ∧ o.beginP.1 = (rbegP o.last l).1 ∧ o.beginP.2.last = o.last ∧ o.beginP.2.max = o.max := by
  have hl := h.len ho
  have hf := ho.few
  unfold OS.beginP rbegP
  by_cases hc : o.live.length = 8
  · rw [if_pos hc, if_pos (by omega)]
    exact ⟨h, rfl, rfl, rfl⟩
  · rw [if_neg hc, if_neg (by omega)]
    refine ⟨⟨?_, fun i t ht => ?_, fun n s => ?_⟩, ?_, rfl, rfl⟩
    · show (l ++ [_]).length = o.count + 1
      rw [List.length_append, h.cnt]; rfl
    · rcases Nat.lt_or_ge i l.length with h1 | h1
      · rw [List.getElem?_append_left h1] at ht; exact h.num i t ht
      · rw [List.getElem?_append_right h1] at ht
        have : i - l.length = 0 := by
          rcases Nat.eq_zero_or_pos (i - l.length) with h2 | h2
          · exact h2
          · rw [List.getElem?_eq_none (by simp; omega)] at ht; cases ht
        rw [this] at ht
        simp only [List.getElem?_cons_zero, Option.some.injEq] at ht
        rw [← ht]; show l.length + 1 = i + 1; omega
    · have hnew : o.count + 1 ∉ o.live.map (·.1) := fun hm => by
        obtain ⟨e, he, h2⟩ := List.mem_map.1 hm
        have := ho.keys e he
        omega
      show (n, s) ∈ aPut o.live (o.count + 1) o.last ↔ (⟨n, s, true⟩ : Tx) ∈ l ++ [⟨l.length + 1, o.last, true⟩]
      rw [aPut_new hnew, List.mem_append, List.mem_append, h.live n s, h.cnt]
      simp
    · show (o.count + 1, o.last, 0) = (l.length + 1, o.last, 0)
      rw [h.cnt]
theorem Rel.gone {o : OS} {l : List Tx} (h : Rel o l) (ho : o.Ok) {n s k : Nat} (hg : aGet o.live n = some s) (hk : l[k]? = some ⟨n, s, true⟩) : Rel { o with live := aDel o.live n } (l.set k ⟨n, s, false⟩) := by
  have hnk := h.num k _ hk
  refine ⟨by rw [List.length_set]; exact h.cnt, fun i t ht => ?_, fun m u => ?_⟩
  · rw [List.getElem?_set] at ht
    by_cases hik : k = i
    · rw [if_pos hik] at ht
      split at ht
      · simp only [Option.some.injEq] at ht
        rw [← ht, ← hik]; exact hnk
      · cases ht
    · rw [if_neg hik] at ht; exact h.num i t ht
  · show (m, u) ∈ aDel o.live n ↔ _
    rw [(aDel_nodup n ho.nodup).2, h.live m u]
    have hkl : k < l.length := by
      rcases Nat.lt_or_ge k l.length with h | h
      · exact h
      · rw [List.getElem?_eq_none h] at hk; cases hk
    constructor
    · rintro ⟨hm, hne⟩
      obtain ⟨i, hi⟩ := List.mem_iff_getElem?.1 hm
      refine List.mem_iff_getElem?.2 ⟨i, ?_⟩
      have hik : k ≠ i := fun e => by
        rw [← e, hk] at hi
        simp only [Option.some.injEq, Tx.mk.injEq] at hi
        exact hne hi.1.symm
      rw [List.getElem?_set, if_neg hik]; exact hi
    · intro hm
      obtain ⟨i, hi⟩ := List.mem_iff_getElem?.1 hm
      rw [List.getElem?_set] at hi
      by_cases hik : k = i
      · rw [if_pos hik, if_pos hkl] at hi
        simp at hi
      · rw [if_neg hik] at hi
        refine ⟨List.mem_iff_getElem?.2 ⟨i, hi⟩, fun e => hik ?_⟩
        have e : m = n := e
        have := h.num i _ hi
        simp only at this hnk
        omega
theorem Rel.pub {o : OS} {l : List Tx} (h : Rel o l) (ts : Nat) : Rel { o with last := ts } l := ⟨h.cnt, h.num, h.live⟩
end Go.Proofs.Ytiolhncfnoafeaa
