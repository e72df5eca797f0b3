/- A region that draws its order: the proof. -/
import Derived.Test.YtbhhbadeabhfcaaF5
set_option linter.unusedVariables false
set_option linter.unusedSimpArgs false
namespace Go.Proofs.Ytbhhbadeabhfcaa
open Go Go.RowKit

def valOf : Option Eff → AV
  | some e => e.v
  | none => .tuple []

/-- What the slots, and the memory, hold when some of the operations are done. -/
def tF (L : Nat → Bool) : Nat → List Oper → List (Option Eff) → (Nat → Option AV) → Nat → Option AV
  | k, o :: os, r :: rs, b => tF L (k + 1) os rs (if L k then (fun d => if o.dst = some d then some (valOf r) else b d) else b)
  | _, _, _, b => b
def hApp (r : Option Eff) (b : Nat → Option ABlk) (n : Nat) : Option ABlk := match r with
  | some e => match Heap.get e.put n with | some x => some x | none => if n ∈ e.wr then none else b n
  | none => b n
def hF (L : Nat → Bool) : Nat → List (Option Eff) → (Nat → Option ABlk) → Nat → Option ABlk
  | k, r :: rs, b => hF L (k + 1) rs (if L k then hApp r b else b)
  | _, _, b => b

theorem tF_congr {L L' : Nat → Bool} {d : Nat} : ∀ (os : List Oper) (rs : List (Option Eff)) (k : Nat) (b b' : Nat → Option AV), b d = b' d →
    (∀ (j : Nat) (o : Oper), os[j]? = some o → j < rs.length → o.dst = some d → L (k + j) = L' (k + j)) → tF L k os rs b d = tF L' k os rs b' d
  | [], rs, k, b, b', h, _ => by cases rs <;> exact h
  | o :: os, [], k, b, b', h, _ => h
  | o :: os, r :: rs, k, b, b', h, hL => by
    simp only [tF]
    refine tF_congr os rs (k + 1) _ _ ?_ (fun j o' h1 h2 h3 => ?_)
    · by_cases hd : o.dst = some d
      · have := hL 0 o (by simp) (by simp) hd
        simp only [Nat.add_zero] at this
        rw [this]
        by_cases hk : L' k = true <;> simp [hk, hd, h]
      · by_cases hk : L k = true <;> by_cases hk' : L' k = true <;> simp [hk, hk', hd, h]
    · have := hL (j + 1) o' (by simpa using h1) (by simpa using h2) h3
      rwa [show k + (j + 1) = k + 1 + j by omega] at this

/-- Does an effect touch a name? -/
def Touches (r : Option Eff) (n : Nat) : Prop := ∃ e, r = some e ∧ (n ∈ e.wr ∨ Heap.get e.put n ≠ none)

theorem hApp_far {r : Option Eff} {b : Nat → Option ABlk} {n : Nat} (h : ¬ Touches r n) : hApp r b n = b n := by
  cases r with
  | none => rfl
  | some e =>
    simp only [hApp]
    have h1 : Heap.get e.put n = none := by
      cases hg : Heap.get e.put n with
      | none => rfl
      | some x => exact absurd ⟨e, rfl, .inr (by simp [hg])⟩ h
    have h2 : n ∉ e.wr := fun h3 => h ⟨e, rfl, .inl h3⟩
    simp [h1, h2]

theorem hApp_near {r : Option Eff} {b b' : Nat → Option ABlk} {n : Nat} (h : Touches r n) : hApp r b n = hApp r b' n := by
  obtain ⟨e, rfl, h⟩ := h
  simp only [hApp]
  cases hg : Heap.get e.put n with
  | some x => rfl
  | none =>
    rcases h with h | h
    · simp [h]
    · exact absurd hg h

theorem hF_congr {L L' : Nat → Bool} {n : Nat} : ∀ (rs : List (Option Eff)) (k : Nat) (b b' : Nat → Option ABlk), b n = b' n →
    (∀ (j : Nat) (r : Option Eff), rs[j]? = some r → Touches r n → L (k + j) = L' (k + j)) → hF L k rs b n = hF L' k rs b' n
  | [], k, b, b', h, _ => h
  | r :: rs, k, b, b', h, hL => by
    simp only [hF]
    refine hF_congr rs (k + 1) _ _ ?_ (fun j r' h1 h3 => ?_)
    · by_cases hd : Touches r n
      · have := hL 0 r (by simp) hd
        simp only [Nat.add_zero] at this
        rw [this]
        by_cases hk : L' k = true
        · simp only [hk, if_true]; exact hApp_near hd
        · simp [hk, h]
      · by_cases hk : L k = true <;> by_cases hk' : L' k = true <;> simp [hk, hk', hApp_far hd, h]
    · have := hL (j + 1) r' (by simpa using h1) h3
      rwa [show k + (j + 1) = k + 1 + j by omega] at this

/-- The state of the run in the text's order ahead of operation i. -/
structure Stands (P : Program) (all : List Oper) (s0 : St) (rs : List (Option Eff)) (s' : St) (i : Nat) (o : Oper) (r : Option Eff) (s : St) (s1 : St) : Prop where
  t : look s.t = tF (fun j => decide (j < i)) 0 all rs (look s0.t)
  h : Heap.get s.H = hF (fun j => decide (j < i)) 0 rs (Heap.get s0.H)
  t1 : look s1.t = tF (fun j => decide (j < i + 1)) 0 all rs (look s0.t)
  h1 : Heap.get s1.H = hF (fun j => decide (j < i + 1)) 0 rs (Heap.get s0.H)
  app : look s1.t = (fun d => if o.dst = some d then some (valOf r) else look s.t d)
  apph : Heap.get s1.H = hApp r (Heap.get s.H)
  guard : match o.guard with
      | none => r ≠ none
      | some (j, want) => ∃ b, gdBool (((all[j]?).bind (·.dst)).bind (look s.t)) = some b ∧ ((b = some want) ↔ r ≠ none)
  ls : ∀ e, r = some e → LS P o s.ev (Heap.get s.H) e ∧ EffOk s e s1.nx
  nx : s0.nx ≤ s.nx ∧ s.nx ≤ s1.nx ∧ s1.nx ≤ s'.nx
  prev : ∀ (j : Nat) (e : Eff) (m : Nat) (x : ABlk), j < i → rs[j]? = some (some e) → Heap.get e.put m = some x → m < s.nx
  n : s.n = s0.n

theorem tF_none (L : Nat → Bool) : ∀ (os : List Oper) (rs : List (Option Eff)) (k : Nat) (b : Nat → Option AV), (∀ j, k ≤ j → L j = false) → tF L k os rs b = b
  | [], rs, k, b, _ => by cases rs <;> rfl
  | o :: os, [], k, b, _ => rfl
  | o :: os, r :: rs, k, b, h => by simp only [tF, h k (Nat.le_refl _)]; exact tF_none L os rs (k + 1) b fun j hj => h j (by omega)
theorem hF_none (L : Nat → Bool) : ∀ (rs : List (Option Eff)) (k : Nat) (b : Nat → Option ABlk), (∀ j, k ≤ j → L j = false) → hF L k rs b = b
  | [], k, b, _ => rfl
  | r :: rs, k, b, h => by simp only [hF, h k (Nat.le_refl _)]; exact hF_none L rs (k + 1) b fun j hj => h j (by omega)

theorem tF_pre (L : Nat → Bool) : ∀ (os : List Oper) (rs : List (Option Eff)) (k : Nat) (b : Nat → Option AV) (os' : List Oper) (rs' : List (Option Eff)), os.length = rs.length →
    tF L k (os ++ os') (rs ++ rs') b = tF L (k + os.length) os' rs' (tF L k os rs b)
  | [], [], k, b, os', rs', _ => by simp [tF]
  | o :: os, r :: rs, k, b, os', rs', h => by
    simp only [List.cons_append, tF, List.length_cons]
    rw [tF_pre L os rs (k + 1) _ os' rs' (by simpa using h)]
    congr 1; omega
  | [], r :: rs, k, b, os', rs', h => by simp at h
  | o :: os, [], k, b, os', rs', h => by simp at h
theorem hF_pre (L : Nat → Bool) : ∀ (rs : List (Option Eff)) (k : Nat) (b : Nat → Option ABlk) (rs' : List (Option Eff)),
    hF L k (rs ++ rs') b = hF L (k + rs.length) rs' (hF L k rs b)
  | [], k, b, rs' => by simp [hF]
  | r :: rs, k, b, rs' => by
    simp only [List.cons_append, hF, List.length_cons]
    rw [hF_pre L rs (k + 1) _ rs']
    congr 1; omega

theorem CRun.length {P : Program} {all : List Oper} : ∀ {l : List Oper} {s : St} {rs : List (Option Eff)} {s' : St}, CRun P all l s rs s' → rs.length = l.length
  | [], s, rs, s', h => by simp [h.1]
  | o :: os, s, [], s', h => h.elim
  | o :: os, s, some e :: rs, s', h => by obtain ⟨_, nx, _, _, h⟩ := h; simp [CRun.length h]
  | o :: os, s, none :: rs, s', h => by obtain ⟨_, h⟩ := h; simp [CRun.length h]

theorem CRun.nx {P : Program} {all : List Oper} : ∀ {l : List Oper} {s : St} {rs : List (Option Eff)} {s' : St}, CRun P all l s rs s' → s.nx ≤ s'.nx ∧ s'.n = s.n
  | [], s, rs, s', h => by rw [h.2]; simp
  | o :: os, s, [], s', h => h.elim
  | o :: os, s, some e :: rs, s', h => by obtain ⟨_, nx, _, h2, h⟩ := h; have := CRun.nx h; exact ⟨Nat.le_trans h2.1 this.1, this.2⟩
  | o :: os, s, none :: rs, s', h => by obtain ⟨_, h⟩ := h; exact CRun.nx (P := P) (all := all) (l := os) (s := { s with t := Env.put s.t o.dst (.tuple []) }) (rs := rs) (s' := s') h

theorem get_app (e : Eff) (H : Heap) : Heap.get (e.put ++ H.dels e.wr) = hApp (some e) (Heap.get H) := by
  funext n
  rw [get_append, get_dels]; rfl

theorem CRun.stands {P : Program} {all : List Oper} {s0 : St} {s' : St} : ∀ (l : List Oper) (s : St) (rs : List (Option Eff)) (pre : List Oper) (prs : List (Option Eff)),
    all = pre ++ l → pre.length = prs.length → look s.t = tF (fun j => decide (j < pre.length)) 0 pre prs (look s0.t) → Heap.get s.H = hF (fun j => decide (j < pre.length)) 0 prs (Heap.get s0.H) → s0.nx ≤ s.nx → s.n = s0.n → (∀ (j : Nat) (e : Eff) (m : Nat) (x : ABlk), prs[j]? = some (some e) → Heap.get e.put m = some x → m < s.nx) → (∀ m x, Heap.get s.H m = some x → m < s.nx) →
    CRun P all l s rs s' → ∀ (i : Nat) (o : Oper), l[i]? = some o → ∃ r s1 s2, rs[i]? = some r ∧ Stands P all s0 (prs ++ rs) s' (pre.length + i) o r s1 s2
  | [], s, rs, pre, prs, _, _, _, _, _, _, _, _, _, i, o, hi => by simp at hi
  | o :: os, s, [], pre, prs, _, _, _, _, _, _, _, _, h, _, _, _ => h.elim
  | o :: os, s, r :: rs, pre, prs, hall, hlen, ht, hh, hnx, hn, hpv, hnm, hr, i, oi, hi => by
    have hext : ∀ m, pre.length ≤ m → m ≤ pre.length → tF (fun j => decide (j < m)) 0 all (prs ++ r :: rs) (look s0.t) = tF (fun j => decide (j < pre.length)) 0 pre prs (look s0.t) := by
      intro m h1 h2
      have : m = pre.length := by omega
      subst this
      rw [hall, tF_pre _ _ _ _ _ _ _ hlen, tF_none _ _ _ _ _ (fun j hj => by simpa using hj)]
    have hexth : hF (fun j => decide (j < pre.length)) 0 (prs ++ r :: rs) (Heap.get s0.H) = hF (fun j => decide (j < pre.length)) 0 prs (Heap.get s0.H) := by
      rw [hF_pre, hF_none _ _ _ _ (fun j hj => by simp; omega)]
    -- the state behind
    have hnext : ∃ s2, look s2.t = (fun d => if o.dst = some d then some (valOf r) else look s.t d) ∧ Heap.get s2.H = hApp r (Heap.get s.H) ∧ s.nx ≤ s2.nx ∧ s2.n = s.n ∧ CRun P all os s2 rs s' ∧
        (∀ e, r = some e → LS P o s.ev (Heap.get s.H) e ∧ EffOk s e s2.nx) := by
      cases r with
      | some e =>
        obtain ⟨_, nx, h1, h2, h3⟩ := hr
        exact ⟨s.app o.dst e nx, by simp only [St.app]; rw [look_put]; rfl, by simp only [St.app]; rw [get_app], h2.1, rfl, h3, fun e' he => by cases he; exact ⟨h1, h2⟩⟩
      | none =>
        obtain ⟨_, h3⟩ := hr
        exact ⟨{ s with t := Env.put s.t o.dst (.tuple []) }, by rw [look_put]; rfl, rfl, Nat.le_refl _, rfl, h3, fun e' he => by cases he⟩
    obtain ⟨s2, n1, n2, n3, n4, n5, n6⟩ := hnext
    have hsp : ∀ (x : Nat → Option AV), tF (fun j => decide (j < pre.length + 1)) 0 (pre ++ [o]) (prs ++ [r]) x = fun d => if o.dst = some d then some (valOf r) else tF (fun j => decide (j < pre.length)) 0 pre prs x d := by
      intro x
      rw [tF_pre _ _ _ _ _ _ _ hlen]
      have hc : tF (fun j => decide (j < pre.length + 1)) 0 pre prs x = tF (fun j => decide (j < pre.length)) 0 pre prs x := by
        funext d
        refine tF_congr pre prs 0 _ _ rfl fun j o' h1 h2 _ => ?_
        rw [← hlen] at h2
        simp; omega
      rw [hc]
      simp [tF]
    have hsph : ∀ (x : Nat → Option ABlk), hF (fun j => decide (j < pre.length + 1)) 0 (prs ++ [r]) x = hApp r (hF (fun j => decide (j < pre.length)) 0 prs x) := by
      intro x
      rw [hF_pre]
      have hc : hF (fun j => decide (j < pre.length + 1)) 0 prs x = hF (fun j => decide (j < pre.length)) 0 prs x := by
        funext d
        refine hF_congr prs 0 _ _ rfl fun j r' h1 _ => ?_
        have h2 : j < prs.length := by
          rcases Nat.lt_or_ge j prs.length with h | h
          · exact h
          · simp [List.getElem?_eq_none h] at h1
        rw [← hlen] at h2
        simp; omega
      rw [hc]
      simp [hF, hlen]
    have ht2 : look s2.t = tF (fun j => decide (j < (pre ++ [o]).length)) 0 (pre ++ [o]) (prs ++ [r]) (look s0.t) := by
      rw [n1, ht]; simp only [List.length_append, List.length_cons, List.length_nil, Nat.zero_add]; rw [hsp]
    have hh2 : Heap.get s2.H = hF (fun j => decide (j < (pre ++ [o]).length)) 0 (prs ++ [r]) (Heap.get s0.H) := by
      rw [n2, hh]; simp only [List.length_append, List.length_cons, List.length_nil, Nat.zero_add]; rw [hsph]
    have hput : ∀ (e : Eff), r = some e → ∀ m x, Heap.get e.put m = some x → m < s2.nx := by
      intro e he m x hx
      by_cases hw : m ∈ e.wr
      · obtain ⟨b, hb⟩ := (n6 e he).2.2.2 m hw
        exact Nat.lt_of_lt_of_le (hnm m b hb) n3
      · exact ((n6 e he).2.2.1 m x hx hw).2
    have hnm2 : ∀ m x, Heap.get s2.H m = some x → m < s2.nx := by
      intro m x hx
      rw [n2] at hx
      cases r with
      | none => exact Nat.lt_of_lt_of_le (hnm m x hx) n3
      | some e =>
        simp only [hApp] at hx
        cases hg : Heap.get e.put m with
        | some y => exact hput e rfl m y hg
        | none =>
          simp only [hg] at hx
          by_cases hw : m ∈ e.wr
          · simp [hw] at hx
          · simp only [hw, if_false] at hx
            exact Nat.lt_of_lt_of_le (hnm m x hx) n3
    have hpv2 : ∀ (j : Nat) (e : Eff) (m : Nat) (x : ABlk), (prs ++ [r])[j]? = some (some e) → Heap.get e.put m = some x → m < s2.nx := by
      intro j e m x hg hx
      rcases Nat.lt_or_ge j prs.length with h | h
      · exact Nat.lt_of_lt_of_le (hpv j e m x (by simpa [List.getElem?_append, h] using hg) hx) n3
      · rcases Nat.eq_or_lt_of_le h with h | h
        · subst h
          simp only [List.getElem?_append_right (Nat.le_refl _), Nat.sub_self, List.getElem?_cons_zero, Option.some.injEq] at hg
          exact hput e hg m x hx
        · simp [List.getElem?_eq_none (l := prs ++ [r]) (i := j) (by simp; omega)] at hg
    cases i with
    | zero =>
      simp only [List.getElem?_cons_zero, Option.some.injEq] at hi
      subst hi
      refine ⟨r, s, s2, by simp, ⟨?_, ?_, ?_, ?_, n1, n2, ?_, n6, ⟨hnx, n3, (CRun.nx n5).1⟩, ?_, hn⟩⟩
      · rw [ht, Nat.add_zero, hext _ (Nat.le_refl _) (Nat.le_refl _)]
      · rw [hh, Nat.add_zero, hexth]
      · have e1 : ∀ L : Nat → Bool, (∀ j, pre.length + 1 ≤ j → L j = false) → ∀ x, tF L 0 all (prs ++ r :: rs) x = tF L 0 (pre ++ [o]) (prs ++ [r]) x := by
          intro L hL x
          rw [hall, show pre ++ o :: os = (pre ++ [o]) ++ os by simp, show prs ++ r :: rs = (prs ++ [r]) ++ rs by simp, tF_pre L (pre ++ [o]) (prs ++ [r]) 0 x os rs (by simp [hlen]),
            tF_none L os rs _ _ (fun j hj => hL j (by simpa using hj))]
        rw [ht2, Nat.add_zero, e1 _ (fun j hj => decide_eq_false (by omega))]
        simp only [List.length_append, List.length_cons, List.length_nil, Nat.zero_add]
      · have e1 : ∀ L : Nat → Bool, (∀ j, pre.length + 1 ≤ j → L j = false) → ∀ x, hF L 0 (prs ++ r :: rs) x = hF L 0 (prs ++ [r]) x := by
          intro L hL x
          rw [show prs ++ r :: rs = (prs ++ [r]) ++ rs by simp, hF_pre L (prs ++ [r]) 0 x rs, hF_none L rs _ _ (fun j hj => hL j (by simp at hj; omega))]
        rw [hh2, Nat.add_zero, e1 _ (fun j hj => decide_eq_false (by omega))]
        simp only [List.length_append, List.length_cons, List.length_nil, Nat.zero_add]
      · exact hr.1
      · intro j e m x hj hg hx
        refine hpv j e m x ?_ hx
        rw [Nat.add_zero, hlen] at hj
        simpa [List.getElem?_append, hj] using hg
    | succ i =>
      have := CRun.stands os s2 rs (pre ++ [o]) (prs ++ [r]) (by simp [hall]) (by simp [hlen]) ht2 hh2 (Nat.le_trans hnx n3) (n4.trans hn) hpv2 hnm2 n5 i oi (by simpa using hi)
      obtain ⟨r', s1', s2', h1, h2⟩ := this
      refine ⟨r', s1', s2', by simpa using h1, ?_⟩
      have e1 : (pre ++ [o]).length + i = pre.length + (i + 1) := by simp; omega
      have e2 : prs ++ [r] ++ rs = prs ++ r :: rs := by simp
      rwa [e1, e2] at h2

end Go.Proofs.Ytbhhbadeabhfcaa
