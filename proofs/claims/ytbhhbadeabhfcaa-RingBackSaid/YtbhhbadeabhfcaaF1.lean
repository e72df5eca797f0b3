/- Abstract values, by which the walks of this seat tell what a call does: data by value, memory of the call's own by name. -/
import Derived.Orders
import Derived.Below
import Derived.KernelRfl
set_option linter.unusedVariables false
set_option linter.unusedSimpArgs false
namespace Go.Proofs.Ytbhhbadeabhfcaa
open Go

inductive AV where
  | undef
  | bool (b : Bool)
  | int (k : IntKind) (n : Int)
  | str (s : ByteArray)
  | nilptr
  | ptr (n off : Nat) (p : List Nat)
  | vptr (root : AV) (off : Nat) (p : List Nat)
  | nilsl
  | sl (n off : Nat) (p : List Nat) (i len cap w : Nat)
  | vsl (es : List AV) (len : Nat)
  | nilmap
  | mapv (n : Nat)
  | func (f : Nat) (caps : List AV)
  | nilfunc
  | iface (t : Nat) (v : AV)
  | niliface
  | agg (vs : List AV)
  | tuple (vs : List AV)

mutual
def AV.flat : AV → List AV
  | .agg vs => AV.flatL vs
  | v => [v]
def AV.flatL : List AV → List AV
  | [] => []
  | v :: vs => AV.flat v ++ AV.flatL vs
end

mutual
def AV.size : AV → Nat
  | .agg vs => AV.sizeL vs
  | _ => 1
def AV.sizeL : List AV → Nat
  | [] => 0
  | v :: vs => AV.size v + AV.sizeL vs
end

mutual
theorem AV.flat_length : ∀ v : AV, (AV.flat v).length = AV.size v
  | .agg vs => by simp only [AV.flat, AV.size]; exact AV.flatL_length vs
  | .undef | .bool _ | .int _ _ | .str _ | .nilptr | .ptr _ _ _ | .vptr _ _ _ | .nilsl | .sl _ _ _ _ _ _ _ | .vsl _ _ | .nilmap | .mapv _
  | .func _ _ | .nilfunc | .iface _ _ | .niliface | .tuple _ => by simp [AV.flat, AV.size]
theorem AV.flatL_length : ∀ vs : List AV, (AV.flatL vs).length = AV.sizeL vs
  | [] => by simp [AV.flatL, AV.sizeL]
  | v :: vs => by simp only [AV.flatL, AV.sizeL, List.length_append, AV.flat_length v, AV.flatL_length vs]
end

theorem AV.flatL_append (a b : List AV) : AV.flatL (a ++ b) = AV.flatL a ++ AV.flatL b := by
  induction a with
  | nil => simp [AV.flatL]
  | cons x xs ih => simp [AV.flatL, ih]
theorem AV.sizeL_append (a b : List AV) : AV.sizeL (a ++ b) = AV.sizeL a + AV.sizeL b := by
  induction a with
  | nil => simp [AV.sizeL]
  | cons x xs ih => simp [AV.sizeL, ih]; omega

/-- What stands at a path inside a value. -/
def AV.proj : AV → List Nat → Option AV
  | v, [] => some v
  | .agg vs, j :: p => match vs[j]? with
    | some u => AV.proj u p
    | none => none
  | _, _ :: _ => none

/-- How many cells lie ahead of it. -/
def AV.offOf : AV → List Nat → Nat
  | _, [] => 0
  | .agg vs, j :: p => AV.sizeL (vs.take j) + match vs[j]? with
    | some u => AV.offOf u p
    | none => 0
  | _, _ :: _ => 0

/-- A value with another one at a path. -/
def AV.upd : AV → List Nat → AV → AV
  | _, [], x => x
  | .agg vs, j :: p, x => match vs[j]? with
    | some u => .agg (vs.set j (AV.upd u p x))
    | none => .agg vs
  | v, _ :: _, _ => v

theorem split_at {α : Type} {l : List α} {j : Nat} {u : α} (h : l[j]? = some u) : l = l.take j ++ u :: l.drop (j + 1) := by
  have hj : j < l.length := by
    rcases Nat.lt_or_ge j l.length with h1 | h1
    · exact h1
    · simp [List.getElem?_eq_none h1] at h
  have hu : l[j] = u := by simpa [List.getElem?_eq_getElem hj] using h
  rw [← hu, ← List.drop_eq_getElem_cons hj, List.take_append_drop]

theorem set_split {α : Type} {l : List α} {j : Nat} {u : α} (h : l[j]? = some u) (x : α) : l.set j x = l.take j ++ x :: l.drop (j + 1) := by
  have hj : j < l.length := by
    rcases Nat.lt_or_ge j l.length with h1 | h1
    · exact h1
    · simp [List.getElem?_eq_none h1] at h
  rw [List.set_eq_take_append_cons_drop]; simp [hj]

/-- A value's cells around what stands at a path; and with another one there. -/
theorem AV.flat_at : ∀ (p : List Nat) (v u : AV), AV.proj v p = some u →
    ∃ pre post, pre.length = AV.offOf v p ∧ AV.flat v = pre ++ AV.flat u ++ post ∧ ∀ x, AV.flat (AV.upd v p x) = pre ++ AV.flat x ++ post
  | [], v, u, h => by
    simp only [AV.proj, Option.some.injEq] at h
    subst h
    exact ⟨[], [], by simp [AV.offOf], by simp, fun x => by simp [AV.upd]⟩
  | j :: p, v, u, h => by
    cases v with
    | agg vs =>
      simp only [AV.proj] at h
      cases hj : vs[j]? with
      | none => simp [hj] at h
      | some y =>
        simp only [hj] at h
        obtain ⟨pre, post, hl, hf, hx⟩ := AV.flat_at p y u h
        refine ⟨AV.flatL (vs.take j) ++ pre, post ++ AV.flatL (vs.drop (j + 1)), ?_, ?_, ?_⟩
        · simp [AV.offOf, hj, hl, AV.flatL_length]
        · conv => lhs; rw [split_at hj]
          simp [AV.flat, AV.flatL_append, AV.flatL, hf]
        · intro x
          simp only [AV.upd, hj, AV.flat]
          rw [set_split hj]
          simp [AV.flatL_append, AV.flatL, hx]
    | _ => simp [AV.proj] at h

theorem AV.size_upd {v u : AV} {p : List Nat} (h : AV.proj v p = some u) {x : AV} (hx : x.size = u.size) : (AV.upd v p x).size = v.size := by
  obtain ⟨pre, post, _, hf, hu⟩ := AV.flat_at p v u h
  rw [← AV.flat_length, ← AV.flat_length, hf, hu]
  simp [AV.flat_length, hx]

end Go.Proofs.Ytbhhbadeabhfcaa
