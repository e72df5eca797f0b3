/- A region that draws its order: if no two operations that may stand either way round meet, each order does what the text's order does. -/
import Derived.Test.YtbhhbadeabhfcaaF4
set_option linter.unusedVariables false
set_option linter.unusedSimpArgs false
namespace Go.Proofs.Ytbhhbadeabhfcaa
open Go Go.RowKit

abbrev Foot := List Nat × List Nat
def Eff.foot (e : Eff) : Foot := (e.rd, e.wr ++ e.put.map (·.1))
def footOf : Option Eff → Foot
  | some e => e.foot
  | none => ([], [])

/-- Which operations stand ahead of each one, as bits. -/
def ancL : List Oper → List Nat → List Nat
  | [], acc => acc
  | o :: os, acc => ancL os (acc ++ [o.after.toList.foldl (fun s e => if Region.binds .any e then s ||| 2 ^ e.on ||| acc.getD e.on 0 else s) 0])

def meets (a b : List Nat) : Bool := a.any fun x => b.contains x
def heapApart (x y : Foot) : Bool := !(meets x.2 y.2) && !(meets x.2 y.1) && !(meets x.1 y.2)

def pairOk (all : Array Oper) (m : Nat) (i : Nat) (oi : Oper) (fi : Foot) (oj : Oper) (fj : Foot) : Bool :=
  m.testBit i || (Oper.apart all oi oj && heapApart fi fj)
def rowOk (all : Array Oper) (m : Nat) (oj : Oper) (fj : Foot) : Nat → List Oper → List Foot → Bool
  | i, oi :: os, fi :: fs => pairOk all m i oi fi oj fj && rowOk all m oj fj (i + 1) os fs
  | _, _, _ => true
def confGo (all : Array Oper) (ops0 : List Oper) (fs0 : List Foot) : Nat → List Oper → List Foot → List Nat → Bool
  | j, oj :: os, fj :: fs, m :: ms => rowOk all m oj fj 0 (ops0.take j) (fs0.take j) && (oj.after.all fun e => !Region.binds .any e || decide (e.on < j)) && confGo all ops0 fs0 (j + 1) os fs ms
  | _, _, _, _ => true
/-- No two operations meet that may stand either way round. -/
def confOk (ops : List Oper) (fs : List Foot) : Bool := confGo ops.toArray ops fs 0 ops fs (ancL ops [])

/-- Operations in the text's order, and what each of them touches. -/
def AOpsD (P : Program) (all : List Oper) : List Oper → St → List Foot → (List Foot → St → Prop) → Prop
  | [], s, L, K => K L s
  | o :: os, s, L, K => match o.guard with
    | none => ∃ e nx, LS P o s.ev (Heap.get s.H) e ∧ EffOk s e nx ∧ AOpsD P all os (s.app o.dst e nx) (L ++ [e.foot]) K
    | some (j, want) => match gdBool (((all[j]?).bind (·.dst)).bind (look s.t)) with
      | some b => if b = some want then ∃ e nx, LS P o s.ev (Heap.get s.H) e ∧ EffOk s e nx ∧ AOpsD P all os (s.app o.dst e nx) (L ++ [e.foot]) K
          else AOpsD P all os { s with t := Env.put s.t o.dst (.tuple []) } (L ++ [([], [])]) K
      | _ => False

/-- How the run in the text's order went. -/
def CRun (P : Program) (all : List Oper) : List Oper → St → List (Option Eff) → St → Prop
  | [], s, rs, s' => rs = [] ∧ s' = s
  | o :: os, s, r :: rs, s' =>
    (match o.guard with
      | none => r ≠ none
      | some (j, want) => ∃ b, gdBool (((all[j]?).bind (·.dst)).bind (look s.t)) = some b ∧ ((b = some want) ↔ r ≠ none)) ∧
    (match r with
      | some e => ∃ nx, LS P o s.ev (Heap.get s.H) e ∧ EffOk s e nx ∧ CRun P all os (s.app o.dst e nx) rs s'
      | none => CRun P all os { s with t := Env.put s.t o.dst (.tuple []) } rs s')
  | _ :: _, _, [], _ => False

theorem AOpsD.run {P : Program} {all : List Oper} {K : List Foot → St → Prop} : ∀ (l : List Oper) (s : St) (L : List Foot), AOpsD P all l s L K →
    ∃ rs s', CRun P all l s rs s' ∧ K (L ++ rs.map footOf) s'
  | [], s, L, h => ⟨[], s, ⟨rfl, rfl⟩, by simpa [AOpsD] using h⟩
  | o :: os, s, L, h => by
    simp only [AOpsD] at h
    cases hg : o.guard with
    | none =>
      simp only [hg] at h
      obtain ⟨e, nx, h1, h2, h3⟩ := h
      obtain ⟨rs, s', h4, h5⟩ := AOpsD.run os _ _ h3
      exact ⟨some e :: rs, s', ⟨by simp [hg], nx, h1, h2, h4⟩, by simpa [footOf] using h5⟩
    | some jw =>
      obtain ⟨j, want⟩ := jw
      simp only [hg] at h
      split at h
      · rename_i b hb
        by_cases hbw : b = some want
        · simp only [hbw, if_true] at h
          obtain ⟨e, nx, h1, h2, h3⟩ := h
          obtain ⟨rs, s', h4, h5⟩ := AOpsD.run os _ _ h3
          exact ⟨some e :: rs, s', ⟨by simp only [hg]; exact ⟨b, hb, by simp [hbw]⟩, nx, h1, h2, h4⟩, by simpa [footOf] using h5⟩
        · simp only [hbw, if_false] at h
          obtain ⟨rs, s', h4, h5⟩ := AOpsD.run os _ _ h
          exact ⟨none :: rs, s', ⟨by simp only [hg]; exact ⟨b, hb, by simp [hbw]⟩, h4⟩, by simpa [footOf] using h5⟩
      · exact h.elim

/-! #### ancestors -/
theorem ancL_append : ∀ (l : List Oper) (acc : List Nat), ∃ m, ancL l acc = acc ++ m ∧ m.length = l.length
  | [], acc => ⟨[], by simp [ancL]⟩
  | o :: os, acc => by
    obtain ⟨m, h, hl⟩ := ancL_append os (acc ++ [o.after.toList.foldl (fun s e => if Region.binds .any e then s ||| 2 ^ e.on ||| acc.getD e.on 0 else s) 0])
    exact ⟨_ :: m, by simp only [ancL, h]; simp; rfl, by simp [hl]⟩

theorem fold_bit (i : Nat) (acc : List Nat) : ∀ (es : List Edge) (s : Nat), (es.foldl (fun s e => if Region.binds .any e then s ||| 2 ^ e.on ||| acc.getD e.on 0 else s) s).testBit i = true →
    s.testBit i = true ∨ ∃ e, e ∈ es ∧ Region.binds .any e = true ∧ (i = e.on ∨ (acc.getD e.on 0).testBit i = true)
  | [], s, h => .inl (by simpa using h)
  | e :: es, s, h => by
    simp only [List.foldl_cons] at h
    rcases fold_bit i acc es _ h with h1 | ⟨e', h1, h2, h3⟩
    · by_cases hb : Region.binds .any e = true
      · simp only [hb, if_true, Nat.testBit_or, Bool.or_eq_true] at h1
        rcases h1 with (h1 | h1) | h1
        · exact .inl h1
        · refine .inr ⟨e, by simp, hb, .inl ?_⟩
          rw [Nat.testBit_two_pow] at h1
          exact (by simpa using h1 : e.on = i).symm
        · exact .inr ⟨e, by simp, hb, .inr h1⟩
      · simp only [hb, if_false, Bool.false_eq_true] at h1
        exact .inl h1
    · exact .inr ⟨e', by simp [h1], h2, h3⟩

theorem ancL_spec (i : Nat) : ∀ (l : List Oper) (acc : List Nat) (j : Nat) (o : Oper), l[j]? = some o → ((ancL l acc).getD (acc.length + j) 0).testBit i = true →
    ∃ e, e ∈ o.after.toList ∧ Region.binds .any e = true ∧ (i = e.on ∨ (e.on < acc.length + j ∧ ((ancL l acc).getD e.on 0).testBit i = true))
  | [], acc, j, o, h, _ => by simp at h
  | x :: xs, acc, j, o, h, hb => by
    simp only [ancL] at hb ⊢
    cases j with
    | zero =>
      simp only [List.getElem?_cons_zero, Option.some.injEq] at h
      subst h
      obtain ⟨m, hm, _⟩ := ancL_append xs (acc ++ [x.after.toList.foldl (fun s e => if Region.binds .any e then s ||| 2 ^ e.on ||| acc.getD e.on 0 else s) 0])
      rw [hm] at hb ⊢
      have hb' : (x.after.toList.foldl (fun s e => if Region.binds .any e then s ||| 2 ^ e.on ||| acc.getD e.on 0 else s) 0).testBit i = true := by
        simpa [List.getD_eq_getElem?_getD] using hb
      rcases fold_bit i acc _ _ hb' with h1 | ⟨e, h1, h2, h3⟩
      · simp at h1
      · refine ⟨e, h1, h2, ?_⟩
        rcases h3 with h3 | h3
        · exact .inl h3
        · have hlt : e.on < acc.length := by
            rcases Nat.lt_or_ge e.on acc.length with h4 | h4
            · exact h4
            · simp [List.getD_eq_getElem?_getD, List.getElem?_eq_none h4] at h3
          refine .inr ⟨by omega, ?_⟩
          simpa [List.getD_eq_getElem?_getD, List.getElem?_append, hlt] using h3
    | succ j =>
      have := ancL_spec i xs (acc ++ [x.after.toList.foldl (fun s e => if Region.binds .any e then s ||| 2 ^ e.on ||| acc.getD e.on 0 else s) 0]) j o (by simpa using h)
        (by simpa [Nat.add_assoc, Nat.add_comm 1 j] using hb)
      obtain ⟨e, h1, h2, h3⟩ := this
      refine ⟨e, h1, h2, ?_⟩
      rcases h3 with h3 | ⟨h3, h4⟩
      · exact .inl h3
      · exact .inr ⟨by simp at h3; omega, h4⟩

/-- What stands ahead of what is done is done. -/
theorem anc_done {ops : List Oper} {L : Nat → Bool} (hc : ∀ (j : Nat) (o : Oper), ops[j]? = some o → L j = true → ∀ e, e ∈ o.after.toList → Region.binds .any e = true → L e.on = true) {i : Nat} :
    ∀ (j : Nat) (o : Oper), ops[j]? = some o → (L j = true ∨ ∀ e, e ∈ o.after.toList → Region.binds .any e = true → L e.on = true) → ((ancL ops []).getD j 0).testBit i = true → L i = true := by
  intro j
  induction j using Nat.strongRecOn with
  | _ j ih =>
    intro o ho hj hb
    obtain ⟨e, h1, h2, h3⟩ := ancL_spec i ops [] j o ho (by simpa using hb)
    have hon : L e.on = true := hj.elim (fun h => hc j o ho h e h1 h2) (fun h => h e h1 h2)
    rcases h3 with rfl | ⟨h3, h4⟩
    · exact hon
    · have h3' : e.on < j := by simpa using h3
      have hlt : e.on < ops.length := by
        have : j < ops.length := by
          rcases Nat.lt_or_ge j ops.length with h | h
          · exact h
          · simp [List.getElem?_eq_none h] at ho
        omega
      exact ih e.on h3' ops[e.on] (by simp [hlt]) (.inl hon) h4

/-! #### what the check says -/
theorem rowOk_spec {all : Array Oper} {m : Nat} {oj : Oper} {fj : Foot} : ∀ (os : List Oper) (fs : List Foot) (k : Nat), rowOk all m oj fj k os fs = true → ∀ (i : Nat) (oi : Oper) (fi : Foot), os[i]? = some oi → fs[i]? = some fi →
    pairOk all m (k + i) oi fi oj fj = true
  | [], fs, k, h, i, oi, fi, h1, _ => by simp at h1
  | o :: os, [], k, h, i, oi, fi, _, h2 => by simp at h2
  | o :: os, f :: fs, k, h, i, oi, fi, h1, h2 => by
    simp only [rowOk, Bool.and_eq_true] at h
    cases i with
    | zero => simp at h1 h2; subst h1; subst h2; exact h.1
    | succ i =>
      have := rowOk_spec os fs (k + 1) h.2 i oi fi (by simpa using h1) (by simpa using h2)
      rwa [Nat.add_assoc, Nat.add_comm 1 i] at this

theorem confGo_spec {all : Array Oper} {ops0 : List Oper} {fs0 : List Foot} : ∀ (os : List Oper) (fs : List Foot) (ms : List Nat) (k : Nat), confGo all ops0 fs0 k os fs ms = true →
    ∀ (j : Nat) (oj : Oper) (fj : Foot) (m : Nat), os[j]? = some oj → fs[j]? = some fj → ms[j]? = some m →
      rowOk all m oj fj 0 (ops0.take (k + j)) (fs0.take (k + j)) = true ∧ (∀ e, e ∈ oj.after.toList → Region.binds .any e = true → e.on < k + j)
  | [], fs, ms, k, h, j, oj, fj, m, h1, _, _ => by simp at h1
  | o :: os, [], ms, k, h, j, oj, fj, m, _, h2, _ => by simp at h2
  | o :: os, f :: fs, [], k, h, j, oj, fj, m, _, _, h3 => by simp at h3
  | o :: os, f :: fs, x :: ms, k, h, j, oj, fj, m, h1, h2, h3 => by
    simp only [confGo, Bool.and_eq_true] at h
    cases j with
    | zero =>
      simp at h1 h2 h3; subst h1; subst h2; subst h3
      refine ⟨h.1.1, fun e he hb => ?_⟩
      have := h.1.2
      rw [Array.all_eq_true'] at this
      have := this e (Array.mem_toList_iff.1 he)
      simpa [hb] using this
    | succ j =>
      have := confGo_spec os fs ms (k + 1) h.2 j oj fj m (by simpa using h1) (by simpa using h2) (by simpa using h3)
      rwa [Nat.add_assoc, Nat.add_comm 1 j] at this

theorem confOk_spec {ops : List Oper} {fs : List Foot} (hl : fs.length = ops.length) (h : confOk ops fs = true) {i j : Nat} {oi oj : Oper} {fi fj : Foot} (hij : i < j)
    (hi : ops[i]? = some oi) (hj : ops[j]? = some oj) (gi : fs[i]? = some fi) (gj : fs[j]? = some fj) :
    ((ancL ops []).getD j 0).testBit i = true ∨ (Oper.apart ops.toArray oi oj = true ∧ heapApart fi fj = true) := by
  obtain ⟨m, hm, hml⟩ := ancL_append ops []
  have hjl : j < ops.length := by
    rcases Nat.lt_or_ge j ops.length with h | h
    · exact h
    · simp [List.getElem?_eq_none h] at hj
  have hm' : (ancL ops [])[j]? = some ((ancL ops []).getD j 0) := by
    have : j < (ancL ops []).length := by rw [hm]; simp [hml, hjl]
    simp [List.getD_eq_getElem?_getD, List.getElem?_eq_getElem this]
  have h1 := (confGo_spec ops fs (ancL ops []) 0 h j oj fj _ hj gj hm').1
  have h2 := rowOk_spec _ _ 0 h1 i oi fi (by simpa [hij] using hi) (by simpa [hij] using gi)
  simp only [pairOk, Nat.zero_add, Bool.or_eq_true, Bool.and_eq_true] at h2
  exact h2

theorem confOk_edges {ops : List Oper} {fs : List Foot} (hl : fs.length = ops.length) (h : confOk ops fs = true) {j : Nat} {oj : Oper} (hj : ops[j]? = some oj) :
    ∀ e, e ∈ oj.after.toList → Region.binds .any e = true → e.on < j := by
  obtain ⟨m, hm, hml⟩ := ancL_append ops []
  have hjl : j < ops.length := by
    rcases Nat.lt_or_ge j ops.length with h | h
    · exact h
    · simp [List.getElem?_eq_none h] at hj
  have hm' : (ancL ops [])[j]? = some ((ancL ops []).getD j 0) := by
    have : j < (ancL ops []).length := by rw [hm]; simp [hml, hjl]
    simp [List.getD_eq_getElem?_getD, List.getElem?_eq_getElem this]
  have hf : fs[j]? = some fs[j] := by simp [hl, hjl]
  simpa using (confGo_spec ops fs (ancL ops []) 0 h j oj _ _ hj hf hm').2

theorem meets_false {a b : List Nat} (h : meets a b = false) {n : Nat} (h1 : n ∈ a) (h2 : n ∈ b) : False := by
  have := List.any_eq_false.1 h n h1
  simp [h2] at this

end Go.Proofs.Ytbhhbadeabhfcaa
