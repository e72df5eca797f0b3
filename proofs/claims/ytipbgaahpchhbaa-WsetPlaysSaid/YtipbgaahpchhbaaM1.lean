/- Abstract values, by which the walks of this seat tell what a call does: data by value, memory of the call's own by name. -/
import Derived.Orders
import Derived.Below
import Derived.KernelRfl
import Derived.Laws.Sem
import Derived.Laws.World
import Derived.Laws.Cells
set_option linter.unusedVariables false
set_option linter.unusedSimpArgs false
namespace Go.Proofs.Ytipbgaahpchhbaa
open Go

inductive AV where
  | undef
  | bool (b : Bool)
  | int (k : IntKind) (n : Int)
  | str (s : ByteArray)
  | nilptr
  | ptr (n off : Nat) (p : List Nat)
  | vptr (root : AV) (off : Nat) (p : List Nat)
  | nilsl
  | sl (n off : Nat) (p : List Nat) (i len cap w : Nat)
  | vsl (es : List AV) (len : Nat)
  | nilmap
  | mapv (n : Nat)
  | func (f : Nat) (caps : List AV)
  | nilfunc
  | iface (t : Nat) (v : AV)
  | niliface
  | agg (vs : List AV)
  | tuple (vs : List AV)

mutual
def AV.flat : AV → List AV
  | .agg vs => AV.flatL vs
  | v => [v]
def AV.flatL : List AV → List AV
  | [] => []
  | v :: vs => AV.flat v ++ AV.flatL vs
end

mutual
def AV.size : AV → Nat
  | .agg vs => AV.sizeL vs
  | _ => 1
def AV.sizeL : List AV → Nat
  | [] => 0
  | v :: vs => AV.size v + AV.sizeL vs
end

mutual
theorem AV.flat_length : ∀ v : AV, (AV.flat v).length = AV.size v
  | .agg vs => by simp only [AV.flat, AV.size]; exact AV.flatL_length vs
  | .undef | .bool _ | .int _ _ | .str _ | .nilptr | .ptr _ _ _ | .vptr _ _ _ | .nilsl | .sl _ _ _ _ _ _ _ | .vsl _ _ | .nilmap | .mapv _
  | .func _ _ | .nilfunc | .iface _ _ | .niliface | .tuple _ => by simp [AV.flat, AV.size]
theorem AV.flatL_length : ∀ vs : List AV, (AV.flatL vs).length = AV.sizeL vs
  | [] => by simp [AV.flatL, AV.sizeL]
  | v :: vs => by simp only [AV.flatL, AV.sizeL, List.length_append, AV.flat_length v, AV.flatL_length vs]
end

theorem AV.flatL_append (a b : List AV) : AV.flatL (a ++ b) = AV.flatL a ++ AV.flatL b := by
  induction a with
  | nil => simp [AV.flatL]
  | cons x xs ih => simp [AV.flatL, ih]
theorem AV.sizeL_append (a b : List AV) : AV.sizeL (a ++ b) = AV.sizeL a + AV.sizeL b := by
  induction a with
  | nil => simp [AV.sizeL]
  | cons x xs ih => simp [AV.sizeL, ih]; omega

/-- What stands at a path inside a value. -/
def AV.proj : AV → List Nat → Option AV
  | v, [] => some v
  | .agg vs, j :: p => match vs[j]? with
    | some u => AV.proj u p
    | none => none
  | _, _ :: _ => none

/-- How many cells lie ahead of it. -/
def AV.offOf : AV → List Nat → Nat
  | _, [] => 0
  | .agg vs, j :: p => AV.sizeL (vs.take j) + match vs[j]? with
    | some u => AV.offOf u p
    | none => 0
  | _, _ :: _ => 0

/-- A value with another one at a path. -/
def AV.upd : AV → List Nat → AV → AV
  | _, [], x => x
  | .agg vs, j :: p, x => match vs[j]? with
    | some u => .agg (vs.set j (AV.upd u p x))
    | none => .agg vs
  | v, _ :: _, _ => v

theorem split_at {α : Type} {l : List α} {j : Nat} {u : α} (h : l[j]? = some u) : l = l.take j ++ u :: l.drop (j + 1) := by
  have hj : j < l.length := by
    rcases Nat.lt_or_ge j l.length with h1 | h1
    · exact h1
    · simp [List.getElem?_eq_none h1] at h
  have hu : l[j] = u := by simpa [List.getElem?_eq_getElem hj] using h
  rw [← hu, ← List.drop_eq_getElem_cons hj, List.take_append_drop]

theorem set_split {α : Type} {l : List α} {j : Nat} {u : α} (h : l[j]? = some u) (x : α) : l.set j x = l.take j ++ x :: l.drop (j + 1) := by
  have hj : j < l.length := by
    rcases Nat.lt_or_ge j l.length with h1 | h1
    · exact h1
    · simp [List.getElem?_eq_none h1] at h
  rw [List.set_eq_take_append_cons_drop]; simp [hj]

/-- A value's cells around what stands at a path; and with another one there. -/
theorem AV.flat_at : ∀ (p : List Nat) (v u : AV), AV.proj v p = some u →
    ∃ pre post, pre.length = AV.offOf v p ∧ AV.flat v = pre ++ AV.flat u ++ post ∧ ∀ x, AV.flat (AV.upd v p x) = pre ++ AV.flat x ++ post
  | [], v, u, h => by
    simp only [AV.proj, Option.some.injEq] at h
    subst h
    exact ⟨[], [], by simp [AV.offOf], by simp, fun x => by simp [AV.upd]⟩
  | j :: p, v, u, h => by
    cases v with
    | agg vs =>
      simp only [AV.proj] at h
      cases hj : vs[j]? with
      | none => simp [hj] at h
      | some y =>
        simp only [hj] at h
        obtain ⟨pre, post, hl, hf, hx⟩ := AV.flat_at p y u h
        refine ⟨AV.flatL (vs.take j) ++ pre, post ++ AV.flatL (vs.drop (j + 1)), ?_, ?_, ?_⟩
        · simp [AV.offOf, hj, hl, AV.flatL_length]
        · conv => lhs; rw [split_at hj]
          simp [AV.flat, AV.flatL_append, AV.flatL, hf]
        · intro x
          simp only [AV.upd, hj, AV.flat]
          rw [set_split hj]
          simp [AV.flatL_append, AV.flatL, hx]
    | _ => simp [AV.proj] at h

theorem AV.size_upd {v u : AV} {p : List Nat} (h : AV.proj v p = some u) {x : AV} (hx : x.size = u.size) : (AV.upd v p x).size = v.size := by
  obtain ⟨pre, post, _, hf, hu⟩ := AV.flat_at p v u h
  rw [← AV.flat_length, ← AV.flat_length, hf, hu]
  simp [AV.flat_length, hx]

end Go.Proofs.Ytipbgaahpchhbaa
/- How abstract values, memory and frames stand to the machine's own. -/
namespace Go.Proofs.Ytipbgaahpchhbaa
open Go Go.RowKit

/-- Of a name: its block, where in it, and how many cells there are from there on. -/
abbrev Rho := Nat → Option (Nat × Nat × Nat)

inductive CRel (w : World) (I : Nat → Prop) (ρ : Rho) : AV → Value → Prop
  | undef (c : Value) : c.oneCell' = true → CRel w I ρ .undef c
  | bool (b : Bool) : CRel w I ρ (.bool b) (.bool b)
  | int (k : IntKind) (n : Int) : CRel w I ρ (.int k n) (.int k n)
  | str (s : ByteArray) : CRel w I ρ (.str s) (.string s)
  | nilptr : CRel w I ρ .nilptr (.pointer none)
  | ptr (n off : Nat) (p : List Nat) (b o r : Nat) : ρ n = some (b, o, r) → CRel w I ρ (.ptr n off p) (.pointer (some ⟨b, o + off, none⟩))
  | vptr (root : AV) (off : Nat) (p : List Nat) (b o : Nat) (c : Nat → Value) : I b → (∀ k, k < root.size → w.cell? ⟨b, o + k, none⟩ = some (c k)) →
      (∀ k, k < root.size → CRel w I ρ (root.flat.getD k .undef) (c k)) → CRel w I ρ (.vptr root off p) (.pointer (some ⟨b, o + off, none⟩))
  | nilsl : CRel w I ρ .nilsl (.slice none 0 0)
  | sl (n off : Nat) (p : List Nat) (i len cap wd : Nat) (b o r c : Nat) : ρ n = some (b, o, r) → len ≤ cap → cap ≤ c → off + c * wd ≤ r →
      CRel w I ρ (.sl n off p i len cap wd) (.slice (some ⟨b, o + off, none⟩) len c)
  | sl0 (n off : Nat) (p : List Nat) (i wd : Nat) (a : Addr) : CRel w I ρ (.sl n off p i 0 0 wd) (.slice (some a) 0 0)
  | vsl0 (a : Option Addr) (c : Nat) : CRel w I ρ (.vsl [] 0) (.slice a 0 c)
  | vsl (es : List AV) (len : Nat) (b o cap : Nat) (c : Nat → Value) : I b → len ≤ es.length → es.length ≤ cap → (∀ k, k < AV.sizeL es → w.cell? ⟨b, o + k, none⟩ = some (c k)) →
      (∀ k, k < AV.sizeL es → CRel w I ρ ((AV.flatL es).getD k .undef) (c k)) → CRel w I ρ (.vsl es len) (.slice (some ⟨b, o, none⟩) len cap)
  | nilmap : CRel w I ρ .nilmap (.map none)
  | mapv (n : Nat) (b o r : Nat) : ρ n = some (b, o, r) → CRel w I ρ (.mapv n) (.map (some b))
  | func (f : Nat) (caps : List AV) (cs : Array Value) : cs.size = caps.length → (∀ k, k < caps.length → CRel w I ρ (caps.getD k .undef) (cs.getD k Go.undef)) →
      CRel w I ρ (.func f caps) (.func (.func f) #[] cs)
  | nilfunc : CRel w I ρ .nilfunc .nilFunc
  | iface (t : Nat) (v : AV) (c : Value) : CRel w I ρ v c → CRel w I ρ (.iface t v) (.iface t c)
  | niliface : CRel w I ρ .niliface .nilIface

/-- A run of cells. -/
def CsRel (w : World) (I : Nat → Prop) (ρ : Rho) (xs : List AV) (cs : List Value) : Prop :=
  cs.length = xs.length ∧ ∀ k, k < xs.length → CRel w I ρ (xs.getD k .undef) (cs.getD k Go.undef)

def XRel (w : World) (I : Nat → Prop) (ρ : Rho) : AV → Value → Prop
  | .agg vs, c => ∃ cs : Array Value, c = .agg cs ∧ CsRel w I ρ (AV.flatL vs) cs.toList
  | .tuple _, _ => False
  | .undef, _ => True
  | v, c => CRel w I ρ v c

def VRel (w : World) (I : Nat → Prop) (ρ : Rho) : AV → Value → Prop
  | .tuple vs, c => ∃ cs : Array Value, c = .tuple cs ∧ cs.size = vs.length ∧ ∀ k, k < vs.length → XRel w I ρ (vs.getD k .undef) (cs.getD k Go.undef)
  | v, c => XRel w I ρ v c

inductive ABlk where
  | cells (v : AV)
  | map (es : List (AV × AV))
  | raw (b : Nat) (ob : Obj)

/-- Cells that lie in a block. -/
structure Lies (w : World) (I : Nat → Prop) (ρ : Rho) (b o r : Nat) (xs : List AV) : Prop where
  ex : ∃ (arr : Array Value) (T : TypeId) (fz : Nat × Nat), w.heap[b]? = some (.cells arr T fz) ∧ arr.size = o + r ∧ (∀ k, k < arr.size → ¬ (fz.1 ≤ k ∧ k < fz.2)) ∧
    xs.length ≤ r ∧ ∀ k, k < xs.length → CRel w I ρ (xs.getD k .undef) (arr.getD (o + k) Go.undef)

structure MapLies (w : World) (I : Nat → Prop) (ρ : Rho) (b : Nat) (es : List (AV × AV)) : Prop where
  ex : ∃ (ents : Array MapEntry) (clock : Nat) (es0 : List (AV × AV)), es0.Perm es ∧ w.heap[b]? = some (.map ents clock) ∧ ents.size = es0.length ∧
    (∀ k, k < es0.length → XRel w I ρ (es0.getD k (.undef, .undef)).1 (ents.getD k default).key ∧ XRel w I ρ (es0.getD k (.undef, .undef)).2 (ents.getD k default).val) ∧
    (∀ k, k < ents.size → (ents.getD k default).born < clock) ∧ (∀ j k, j < k → k < ents.size → (ents.getD j default).born ≠ (ents.getD k default).born)

def BRel (w : World) (I : Nat → Prop) (ρ : Rho) (n : Nat) : ABlk → Prop
  | .cells v => ∃ b o r, ρ n = some (b, o, r) ∧ ¬ I b ∧ Lies w I ρ b o r v.flat
  | .map es => ∃ b o r, ρ n = some (b, o, r) ∧ ¬ I b ∧ MapLies w I ρ b es
  | .raw b ob => ∃ o r, ρ n = some (b, o, r) ∧ ¬ I b ∧ ((∃ i j k l, ob = .mapIter i j k l) → o = 0) ∧ w.heap[b]? = some ob

abbrev Heap := List (Nat × ABlk)
def Heap.get (H : Heap) (n : Nat) : Option ABlk := match H with
  | [] => none
  | (m, b) :: r => if n = m then some b else Heap.get r n

/-- The blocks of the names that a heap tells. -/
def Owns (ρ : Rho) (h : Nat → Option ABlk) (b : Nat) : Prop := ∃ n blk o r, h n = some blk ∧ ρ n = some (b, o, r)

structure HRel (w : World) (I : Nat → Prop) (ρ : Rho) (h : Nat → Option ABlk) : Prop where
  rel : ∀ n blk, h n = some blk → BRel w I ρ n blk
  inj : ∀ n m x y, n ≠ m → h n = some x → h m = some y → ∀ b o r b' o' r', ρ n = some (b, o, r) → ρ m = some (b', o', r') → b ≠ b'

structure Ext (own : Nat → Prop) (w w' : World) (I I' : Nat → Prop) (ρ ρ' : Rho) : Prop where
  os : w'.os = w.os
  tape : w'.tape = w.tape
  output : w'.output = w.output
  size : w.heap.size ≤ w'.heap.size
  keep : ∀ b, b < w.heap.size → ¬ own b → w'.heap[b]? = w.heap[b]?
  imm : ∀ b, I b → I' b
  new : ∀ b, I' b → I b ∨ own b ∨ w.heap.size ≤ b
  rho : ∀ n x, ρ n = some x → ρ' n = some x

theorem Ext.refl (own : Nat → Prop) (w : World) (I : Nat → Prop) (ρ : Rho) : Ext own w w I I ρ ρ :=
  ⟨rfl, rfl, rfl, Nat.le_refl _, fun _ _ _ => rfl, fun _ h => h, fun _ h => .inl h, fun _ _ h => h⟩

theorem Ext.trans {own own' : Nat → Prop} {w w' w'' : World} {I I' I'' : Nat → Prop} {ρ ρ' ρ'' : Rho} (h : Ext own w w' I I' ρ ρ') (k : Ext own' w' w'' I' I'' ρ' ρ'')
    (ho : ∀ b, own' b → own b ∨ w.heap.size ≤ b) : Ext own w w'' I I'' ρ ρ'' where
  os := k.os.trans h.os
  tape := k.tape.trans h.tape
  output := k.output.trans h.output
  size := Nat.le_trans h.size k.size
  keep := fun b hb hn => (k.keep b (Nat.lt_of_lt_of_le hb h.size) fun hc => (ho b hc).elim hn (fun hc => by omega)).trans (h.keep b hb hn)
  imm := fun b hb => k.imm b (h.imm b hb)
  new := fun b hb => by
    rcases k.new b hb with h1 | h1 | h1
    · exact h.new b h1
    · rcases ho b h1 with h2 | h2
      · exact .inr (.inl h2)
      · exact .inr (.inr h2)
    · exact .inr (.inr (Nat.le_trans h.size h1))
  rho := fun n x hx => k.rho n x (h.rho n x hx)

/-- What is immutable lies and is none of the call's own. -/
def Imm (own : Nat → Prop) (w : World) (I : Nat → Prop) : Prop := ∀ b, I b → b < w.heap.size ∧ ¬ own b

theorem cell?_same {w w' : World} {b : Nat} (h : w'.heap[b]? = w.heap[b]?) (o : Nat) : w'.cell? ⟨b, o, none⟩ = w.cell? ⟨b, o, none⟩ := by
  simp only [World.cell?, h]

theorem CRel.mono {own : Nat → Prop} {w w' : World} {I I' : Nat → Prop} {ρ ρ' : Rho} (h : Ext own w w' I I' ρ ρ') (hi : Imm own w I) {x : AV} {c : Value}
    (hc : CRel w I ρ x c) : CRel w' I' ρ' x c := by
  induction hc with
  | undef c h => exact .undef c h
  | bool b => exact .bool b
  | int k n => exact .int k n
  | str s => exact .str s
  | nilptr => exact .nilptr
  | ptr n off p b o r hr => exact .ptr n off p b o r (h.rho _ _ hr)
  | vptr root off p b o c hb hc _ ih => exact .vptr root off p b o c (h.imm _ hb) (fun k hk => (cell?_same (h.keep b (hi b hb).1 (hi b hb).2) _).trans (hc k hk)) ih
  | nilsl => exact .nilsl
  | sl n off p i len cap wd b o r c hr h1 h2 h3 => exact .sl n off p i len cap wd b o r c (h.rho _ _ hr) h1 h2 h3
  | sl0 n off p i wd a => exact .sl0 n off p i wd a
  | vsl0 a c => exact .vsl0 a c
  | vsl es len b o cap c hb h1 h2 hc _ ih => exact .vsl es len b o cap c (h.imm _ hb) h1 h2 (fun k hk => (cell?_same (h.keep b (hi b hb).1 (hi b hb).2) _).trans (hc k hk)) ih
  | nilmap => exact .nilmap
  | mapv n b o r hr => exact .mapv n b o r (h.rho _ _ hr)
  | func f caps cs hs _ ih => exact .func f caps cs hs ih
  | nilfunc => exact .nilfunc
  | iface t v c _ ih => exact .iface t v c ih
  | niliface => exact .niliface

section
variable {own : Nat → Prop} {w w' : World} {I I' : Nat → Prop} {ρ ρ' : Rho}

theorem CsRel.mono (h : Ext own w w' I I' ρ ρ') (hi : Imm own w I) {xs : List AV} {cs : List Value} (hc : CsRel w I ρ xs cs) : CsRel w' I' ρ' xs cs :=
  ⟨hc.1, fun k hk => (hc.2 k hk).mono h hi⟩

theorem XRel.mono (h : Ext own w w' I I' ρ ρ') (hi : Imm own w I) {x : AV} {c : Value} (hc : XRel w I ρ x c) : XRel w' I' ρ' x c := by
  cases x with
  | agg vs => obtain ⟨cs, rfl, hcs⟩ := hc; exact ⟨cs, rfl, hcs.mono h hi⟩
  | tuple vs => exact hc.elim
  | undef => trivial
  | _ => exact CRel.mono h hi hc

theorem VRel_eq (x : AV) (hx : ∀ vs, x ≠ .tuple vs) (c : Value) : VRel w I ρ x c = XRel w I ρ x c := by
  cases x <;> first | rfl | exact absurd rfl (hx _)
theorem XRel_eq (x : AV) (hx : ∀ vs, x ≠ .tuple vs) (hy : ∀ vs, x ≠ .agg vs) (hz : x ≠ .undef) (c : Value) : XRel w I ρ x c = CRel w I ρ x c := by
  cases x <;> first | rfl | exact absurd rfl (hx _) | exact absurd rfl (hy _) | exact absurd rfl hz

theorem VRel.mono (h : Ext own w w' I I' ρ ρ') (hi : Imm own w I) {x : AV} {c : Value} (hc : VRel w I ρ x c) : VRel w' I' ρ' x c := by
  cases x with
  | tuple vs => obtain ⟨cs, rfl, hs, hcs⟩ := hc; exact ⟨cs, rfl, hs, fun k hk => (hcs k hk).mono h hi⟩
  | _ => rw [VRel_eq _ (by intro vs h; cases h)] at hc ⊢; exact XRel.mono h hi hc

theorem Lies.mono (h : Ext own w w' I I' ρ ρ') (hi : Imm own w I) {b o r : Nat} {xs : List AV} (hb : w'.heap[b]? = w.heap[b]?) (hc : Lies w I ρ b o r xs) : Lies w' I' ρ' b o r xs := by
  obtain ⟨arr, T, fz, h1, h2, h3, h4, h5⟩ := hc.ex
  exact ⟨arr, T, fz, hb.trans h1, h2, h3, h4, fun k hk => (h5 k hk).mono h hi⟩

theorem MapLies.mono (h : Ext own w w' I I' ρ ρ') (hi : Imm own w I) {b : Nat} {es : List (AV × AV)} (hb : w'.heap[b]? = w.heap[b]?) (hc : MapLies w I ρ b es) : MapLies w' I' ρ' b es := by
  obtain ⟨ents, clock, es0, hp, h1, h2, h3, h4, h5⟩ := hc.ex
  exact ⟨ents, clock, es0, hp, hb.trans h1, h2, fun k hk => ⟨(h3 k hk).1.mono h hi, (h3 k hk).2.mono h hi⟩, h4, h5⟩

theorem Lies.lt {b o r : Nat} {xs : List AV} (hc : Lies w I ρ b o r xs) : b < w.heap.size := by
  obtain ⟨arr, T, fz, h1, _⟩ := hc.ex
  rcases Nat.lt_or_ge b w.heap.size with h | h
  · exact h
  · simp [Array.getElem?_eq_none h] at h1
theorem MapLies.lt {b : Nat} {es : List (AV × AV)} (hc : MapLies w I ρ b es) : b < w.heap.size := by
  obtain ⟨arr, T, es0, hp, h1, _⟩ := hc.ex
  rcases Nat.lt_or_ge b w.heap.size with h | h
  · exact h
  · simp [Array.getElem?_eq_none h] at h1

theorem BRel.dom {n : Nat} {blk : ABlk} (hc : BRel w I ρ n blk) : ∃ b o r, ρ n = some (b, o, r) ∧ ¬ I b := by
  cases blk with
  | cells v => obtain ⟨b, o, r, h1, h2, _⟩ := hc; exact ⟨b, o, r, h1, h2⟩
  | map es => obtain ⟨b, o, r, h1, h2, _⟩ := hc; exact ⟨b, o, r, h1, h2⟩
  | raw b ob => obtain ⟨o, r, h1, h2, _⟩ := hc; exact ⟨b, o, r, h1, h2⟩

theorem BRel.lt {n : Nat} {blk : ABlk} (hc : BRel w I ρ n blk) {b o r : Nat} (hr : ρ n = some (b, o, r)) : b < w.heap.size := by
  cases blk with
  | cells v => obtain ⟨b', o', r', h1, _, h2⟩ := hc; rw [hr] at h1; cases h1; exact h2.lt
  | map es => obtain ⟨b', o', r', h1, _, h2⟩ := hc; rw [hr] at h1; cases h1; exact h2.lt
  | raw b' ob =>
    obtain ⟨o', r', h1, _, _, h2⟩ := hc; rw [hr] at h1; cases h1
    rcases Nat.lt_or_ge b w.heap.size with h | h
    · exact h
    · simp [Array.getElem?_eq_none h] at h2

/-- A block that a step has left alone. -/
theorem BRel.mono (h : Ext own w w' I I' ρ ρ') (hi : Imm own w I) {n : Nat} {blk : ABlk} (hc : BRel w I ρ n blk)
    (hk : ∀ b o r, ρ n = some (b, o, r) → w'.heap[b]? = w.heap[b]? ∧ ¬ I' b) : BRel w' I' ρ' n blk := by
  cases blk with
  | cells v => obtain ⟨b, o, r, h1, h2, h3⟩ := hc; exact ⟨b, o, r, h.rho _ _ h1, (hk _ _ _ h1).2, h3.mono h hi (hk _ _ _ h1).1⟩
  | map es => obtain ⟨b, o, r, h1, h2, h3⟩ := hc; exact ⟨b, o, r, h.rho _ _ h1, (hk _ _ _ h1).2, h3.mono h hi (hk _ _ _ h1).1⟩
  | raw b ob => obtain ⟨o, r, h1, h2, h3, h4⟩ := hc; exact ⟨o, r, h.rho _ _ h1, (hk _ _ _ h1).2, h3, (hk _ _ _ h1).1.trans h4⟩
end

end Go.Proofs.Ytipbgaahpchhbaa
/- The states of a walk, and the rules for code without operations. -/
namespace Go.Proofs.Ytipbgaahpchhbaa
open Go Go.RowKit

abbrev Env := List (Nat × AV)
def look : Env → Nat → Option AV
  | [], _ => none
  | (m, v) :: r, n => if n = m then some v else look r n

structure St where
  n : Nat
  t : Env
  H : Heap
  nx : Nat

/-- How a call began. -/
structure Ctx where
  w : World
  I : Nat → Prop
  ρ : Rho
  own : Nat → Prop
  pin : ∀ n x, ρ n = some x → n < 100

/-- A state as functions; fr: the names that are still free. -/
structure FS where
  n : Nat
  t : Nat → Option AV
  H : Nat → Option ABlk
  fr : Nat → Prop

def St.fs (s : St) : FS := ⟨s.n, look s.t, Heap.get s.H, fun n => s.nx ≤ n⟩

structure SRel (w : World) (I : Nat → Prop) (ρ : Rho) (s : FS) (a : Act) : Prop where
  sz : a.tmps.size = s.n
  tmps : ∀ d v, s.t d = some v → d < a.tmps.size ∧ VRel w I ρ v (a.tmps.getD d Go.undef)
  defers : a.defers = []
  heap : HRel w I ρ s.H
  imm : Imm (Owns ρ s.H) w I
  fresh : ∀ n, s.fr n → ρ n = none

structure FAt (C : Ctx) (s : FS) (a : Act) (w : World) : Prop where
  ex : ∃ I ρ, Ext C.own C.w w C.I I C.ρ ρ ∧ SRel w I ρ s a ∧ (∀ b, Owns ρ s.H b → C.own b ∨ C.w.heap.size ≤ b)

abbrev At (C : Ctx) (s : St) (a : Act) (w : World) : Prop := FAt C s.fs a w

def AWp (P : Program) (c : Code) (s : St) (Q : Exit → St → Prop) : Prop :=
  ∀ C a w, At C s a w → c.wp P (fun e a' w' => ∃ s', Q e s' ∧ At C s' a' w') a w

/-- A state that tells less. -/
def Wk (s s' : St) : Prop := ∀ C a w, At C s a w → At C s' a w

theorem Wk.refl (s : St) : Wk s s := fun _ _ _ h => h
theorem Wk.trans {a b c : St} (h : Wk a b) (k : Wk b c) : Wk a c := fun C x w g => k C x w (h C x w g)

theorem Owns.sub {ρ : Rho} {h h' : Nat → Option ABlk} (hh : ∀ n b, h' n = some b → h n = some b) {b : Nat} (hb : Owns ρ h' b) : Owns ρ h b := by
  obtain ⟨n, blk, o, r, h1, h2⟩ := hb
  exact ⟨n, blk, o, r, hh _ _ h1, h2⟩

theorem FAt.weaken {C : Ctx} {s s' : FS} {a : Act} {w : World} (ha : FAt C s a w) (ht : ∀ d v, s'.t d = some v → s.t d = some v) (hH : ∀ n b, s'.H n = some b → s.H n = some b)
    (hn : ∀ n, s'.fr n → s.fr n) (hz : s'.n = s.n) : FAt C s' a w := by
  obtain ⟨I, ρ, hx, hs, ho⟩ := ha.ex
  refine ⟨I, ρ, hx, ⟨hs.sz.trans hz.symm, fun d v h => hs.tmps d v (ht d v h), hs.defers, ⟨fun n b h => hs.heap.rel n b (hH n b h), fun n m x y hnm h1 h2 => hs.heap.inj n m x y hnm (hH _ _ h1) (hH _ _ h2)⟩, ?_, fun n h => hs.fresh n (hn n h)⟩, fun b hb => ho b (hb.sub hH)⟩
  exact fun b hb => ⟨(hs.imm b hb).1, fun h => (hs.imm b hb).2 (h.sub hH)⟩

theorem Wk.mk {s s' : St} (ht : ∀ d v, look s'.t d = some v → look s.t d = some v) (hH : ∀ n b, Heap.get s'.H n = some b → Heap.get s.H n = some b) (hn : s.nx ≤ s'.nx) (hz : s'.n = s.n) : Wk s s' :=
  fun C a w ha => ha.weaken ht hH (fun n h => Nat.le_trans hn h) hz

section
variable {P : Program} {s : St} {Q : Exit → St → Prop}

theorem AWp.mono {c : Code} {Q' : Exit → St → Prop} (h : AWp P c s Q) (hq : ∀ e s, Q e s → Q' e s) : AWp P c s Q' :=
  fun C a w ha => wp_mono (h C a w ha) fun e a' w' ⟨s', h1, h2⟩ => ⟨s', hq _ _ h1, h2⟩

theorem AWp.weaken {c : Code} {s' : St} (hw : Wk s s') (h : AWp P c s' Q) : AWp P c s Q := fun C a w ha => h C a w (hw C a w ha)

theorem AWp.skip (h : Q .normal s) : AWp P .skip s Q := fun _ a w ha => wp_skip ⟨s, h, ha⟩
theorem AWp.exit {id : Nat} (h : Q (.exit id) s) : AWp P (.exit id) s Q := fun _ a w ha => wp_exit ⟨s, h, ha⟩
theorem AWp.ret (h : Q .ret s) : AWp P .ret s Q := fun _ a w ha => wp_ret ⟨s, h, ha⟩

def Then (P : Program) (y : Code) (Q : Exit → St → Prop) : Exit → St → Prop
  | .normal, s => AWp P y s Q
  | e, s => Q e s

theorem AWp.seq {x y : Code} (h : AWp P x s (Then P y Q)) : AWp P (.seq x y) s Q := fun C a w ha =>
  wp_seq (wp_mono (h C a w ha) fun e a' w' ⟨s', h1, h2⟩ => by
    cases e with
    | normal => exact h1 C a' w' h2
    | _ => exact ⟨s', h1, h2⟩)

def InBlock (id : Nat) (Q : Exit → St → Prop) : Exit → St → Prop
  | .exit i, s => if i = id then Q .normal s else Q (.exit i) s
  | e, s => Q e s

theorem AWp.block {id : Nat} {c : Code} (h : AWp P c s (InBlock id Q)) : AWp P (.block id c) s Q := fun C a w ha =>
  wp_block (wp_mono (h C a w ha) fun e a' w' ⟨s', h1, h2⟩ => by
    cases e with
    | exit i =>
      simp only [InBlock, Exit.inBlock] at h1 ⊢
      split <;> rename_i hi <;> simp only [hi, if_true, if_false] at h1 <;> exact ⟨s', h1, h2⟩
    | _ => exact ⟨s', h1, h2⟩)

/-- What a constant stands for. -/
def constAV : Value → Option AV
  | .bool b => some (.bool b)
  | .int k n => some (.int k n)
  | .string s => some (.str s)
  | .pointer none => some .nilptr
  | .slice none 0 0 => some .nilsl
  | .map none => some .nilmap
  | .nilFunc => some .nilfunc
  | .nilIface => some .niliface
  | _ => none

theorem constAV_rel {w : World} {I : Nat → Prop} {ρ : Rho} {c : Value} {v : AV} (h : constAV c = some v) : VRel w I ρ v c := by
  unfold constAV at h
  split at h <;> simp only [Option.some.injEq, reduceCtorEq] at h <;> subst h <;> constructor

def evF (t : Nat → Option AV) : Operand → Option AV
  | .tmp x => t x
  | .const v => constAV v
  | .global _ => none
  | .func f => some (.func f [])

abbrev St.ev (s : St) : Operand → Option AV := evF (look s.t)

theorem SRel.ev {w : World} {I : Nat → Prop} {ρ : Rho} {a : Act} {s : FS} (hs : SRel w I ρ s a) {x : Operand} {v : AV} (h : evF s.t x = some v) : VRel w I ρ v (a.eval x) := by
  cases x with
  | tmp t => exact (hs.tmps t v h).2
  | const c => exact constAV_rel h
  | global g => cases h
  | func f => cases h; exact CRel.func f [] #[] rfl (fun k hk => absurd hk (Nat.not_lt_zero k))

theorem VRel.bool_inv {w : World} {I : Nat → Prop} {ρ : Rho} {t : Bool} {c : Value} (h : VRel w I ρ (.bool t) c) : c = .bool t := by
  change CRel w I ρ (.bool t) c at h
  cases h; rfl

theorem AWp.cond {c : Operand} {x y : Code} {t : Bool} (hc : s.ev c = some (.bool t)) (ht : t = true → AWp P x s Q) (hf : t = false → AWp P y s Q) : AWp P (.cond c x y) s Q := by
  intro C a w ha
  obtain ⟨I, ρ, hx, hs, ho⟩ := ha.ex
  exact wp_cond_split (hs.ev hc).bool_inv (fun h => ht h C a w ha) (fun h => hf h C a w ha)

def Round (Inv : Nat → St → Prop) (n : Nat) (Q : Exit → St → Prop) : Exit → St → Prop
  | .normal, s => ∃ m s', m < n ∧ Inv m s' ∧ Wk s s'
  | e, s => Q e s

theorem AWp.loop {c : Code} (Inv : Nat → St → Prop) {n0 : Nat} {s0 : St} (hw : Wk s s0) (h0 : Inv n0 s0) (round : ∀ n s, Inv n s → AWp P c s (Round Inv n Q)) : AWp P (.loop c) s Q := by
  intro C a w ha
  have key : ∀ n (a : Act) (w : World), (∃ s, Inv n s ∧ At C s a w) → ∀ (b : Frame) (k : List Item) (cs : List Frame),
      ∃ e a' w', (∃ s', Q e s' ∧ At C s' a' w') ∧ Arrives P (lone (b.at a (.code c :: .inLoop c :: k)) cs w) b k cs e a' w' := by
    intro n
    induction n using Nat.strongRecOn with
    | _ n ih =>
      intro a w ⟨s, hI, hA⟩ b k cs
      obtain ⟨e, a₁, w₁, ⟨s₁, hq, hA₁⟩, harr⟩ := round n s hI C a w hA b (.inLoop c :: k) cs
      cases e with
      | normal =>
        obtain ⟨m, s₂, hlt, hI₂, hw₂⟩ := hq
        obtain ⟨e₂, a₂, w₂, hq₂, harr₂⟩ := ih m hlt a₁ w₁ ⟨s₂, hI₂, hw₂ _ _ _ hA₁⟩ b k cs
        exact ⟨e₂, a₂, w₂, hq₂, .of_steps (Steps.trans harr (.one step_inLoop)) harr₂⟩
      | exit id => exact ⟨_, a₁, w₁, ⟨s₁, hq, hA₁⟩, .pass (x := .inLoop c) rfl (fun _ _ => .inl (by simp)) harr⟩
      | goto l => exact ⟨_, a₁, w₁, ⟨s₁, hq, hA₁⟩, .pass (x := .inLoop c) rfl (fun _ _ => .inl (by simp)) harr⟩
      | ret => exact ⟨_, a₁, w₁, ⟨s₁, hq, hA₁⟩, .pass (x := .inLoop c) rfl (fun _ _ => .inl (by simp)) harr⟩
      | panic ch => exact ⟨_, a₁, w₁, ⟨s₁, hq, hA₁⟩, .pass (x := .inLoop c) rfl (fun _ _ => .inl (by simp)) harr⟩
      | outgrown => exact ⟨_, a₁, w₁, ⟨s₁, hq, hA₁⟩, .pass (x := .inLoop c) rfl (fun _ _ => .inl (by simp)) harr⟩
  intro b k cs
  obtain ⟨e, a', w', hq, harr⟩ := key n0 a w ⟨s0, h0, hw _ _ _ ha⟩ b k cs
  exact ⟨e, a', w', hq, .of_steps (.one step_loop) harr⟩
end

end Go.Proofs.Ytipbgaahpchhbaa
/- What one operation does, said of the memory that it touches alone; regions in the text's order. -/
namespace Go.Proofs.Ytipbgaahpchhbaa
open Go Go.RowKit

/-- An operation's effect: its value; the names that it reads; those that it writes or that fall away; what then lies there, and what is new. -/
structure Eff where
  v : AV
  rd : List Nat := []
  wr : List Nat := []
  put : Heap := []

def OwnW (ρ : Rho) (wr : List Nat) (b : Nat) : Prop := ∃ n, n ∈ wr ∧ ∃ o r, ρ n = some (b, o, r)

structure LSPost (w : World) (I : Nat → Prop) (ρ : Rho) (e : Eff) (c : Value) (w' : World) (I' : Nat → Prop) (ρ' : Rho) : Prop where
  val : VRel w' I' ρ' e.v c
  blk : ∀ n b, Heap.get e.put n = some b → BRel w' I' ρ' n b
  inj : ∀ n m x y, n ≠ m → Heap.get e.put n = some x → Heap.get e.put m = some y → ∀ b o r b' o' r', ρ' n = some (b, o, r) → ρ' m = some (b', o', r') → b ≠ b'
  own : ∀ n x, Heap.get e.put n = some x → ∀ b o r, ρ' n = some (b, o, r) → OwnW ρ e.wr b ∨ w.heap.size ≤ b
  ext : Ext (OwnW ρ e.wr) w w' I I' ρ ρ'
  lt : ∀ b, I' b → b < w'.heap.size
  fresh : ∀ n, ρ n = none → Heap.get e.put n = none → ρ' n = none

def LSat (P : Program) (o : Oper) (ev : Operand → Option AV) (H : Nat → Option ABlk) (e : Eff) (a : Act) (w : World) : Prop :=
  ∀ (I : Nat → Prop) (ρ : Rho), a.defers = [] →
    (∀ x, x ∈ o.op.operands → ∀ v, ev x = some v → VRel w I ρ v (a.eval x)) →
    (∀ n, n ∈ e.rd ∨ n ∈ e.wr → ∀ b, H n = some b → BRel w I ρ n b) →
    (∀ n m x y, n ∈ e.wr → m ∈ e.rd ∨ m ∈ e.wr → n ≠ m → H n = some x → H m = some y →
      ∀ b o r b' o' r', ρ n = some (b, o, r) → ρ m = some (b', o', r') → b ≠ b') →
    Imm (OwnW ρ e.wr) w I →
    (∀ n x, Heap.get e.put n = some x → n ∉ e.wr → ρ n = none) →
    ∀ (K : Act → World → Prop) (Q : Exit → Act → World → Prop),
      (∀ c w' I' ρ', LSPost w I ρ e c w' I' ρ' → K (a.put o.dst c) w') → o.wp P a w K Q
def LS (P : Program) (o : Oper) (ev : Operand → Option AV) (H : Nat → Option ABlk) (e : Eff) : Prop :=
  ∀ (a : Act) (w : World), LSat P o ev H e a w

def Heap.del (H : Heap) (n : Nat) : Heap := match H with
  | [] => []
  | (m, b) :: r => if n = m then Heap.del r n else (m, b) :: Heap.del r n
def Heap.dels (H : Heap) : List Nat → Heap
  | [] => H
  | n :: r => Heap.dels (H.del n) r

theorem get_append (A B : Heap) (n : Nat) : Heap.get (A ++ B) n = match Heap.get A n with | some b => some b | none => Heap.get B n := by
  induction A with
  | nil => simp [Heap.get]
  | cons x r ih =>
    obtain ⟨m, b⟩ := x
    simp only [List.cons_append, Heap.get]
    by_cases h : n = m
    · simp [h]
    · simp [h, ih]

theorem get_del (H : Heap) (n m : Nat) : Heap.get (H.del n) m = if m = n then none else Heap.get H m := by
  induction H with
  | nil => simp [Heap.del, Heap.get]
  | cons x r ih =>
    obtain ⟨k, b⟩ := x
    simp only [Heap.del]
    by_cases h : n = k
    · subst h
      simp only [if_true, ih, Heap.get]
      by_cases hm : m = n <;> simp [hm]
    · simp only [h, if_false, Heap.get, ih]
      by_cases hk : m = k
      · subst hk; simp [Ne.symm h]
      · simp [hk]

theorem get_dels (l : List Nat) : ∀ (H : Heap) (m : Nat), Heap.get (H.dels l) m = if m ∈ l then none else Heap.get H m := by
  induction l with
  | nil => intro H m; simp [Heap.dels]
  | cons n r ih =>
    intro H m
    simp only [Heap.dels, ih, get_del, List.mem_cons]
    by_cases h1 : m ∈ r
    · simp [h1]
    · by_cases h2 : m = n <;> simp [h1, h2]

def Env.put (t : Env) (dst : Option Tmp) (v : AV) : Env := match dst with
  | some d => (d, v) :: t
  | none => t

/-- A state behind an effect; nx: the next name. -/
def St.app (s : St) (dst : Option Tmp) (e : Eff) (nx : Nat) : St := { n := s.n, t := Env.put s.t dst e.v, H := e.put ++ s.H.dels e.wr, nx := nx }

/-- A state as functions behind an effect. -/
def FS.app (s : FS) (dst : Option Tmp) (e : Eff) (fr : Nat → Prop) : FS :=
  { n := s.n, t := fun d => if dst = some d then some e.v else s.t d, H := fun n => match Heap.get e.put n with | some b => some b | none => if n ∈ e.wr then none else s.H n, fr := fr }

/-- The names fit: what is written lies there, what is new is new. -/
structure EffFits (s : FS) (e : Eff) (fr : Nat → Prop) : Prop where
  sub : ∀ n, fr n → s.fr n ∧ ∀ x, Heap.get e.put n = some x → n ∈ e.wr
  new : ∀ n x, Heap.get e.put n = some x → n ∉ e.wr → s.fr n
  wr : ∀ n, n ∈ e.wr → ∃ b, s.H n = some b

def EffOk (s : St) (e : Eff) (nx : Nat) : Prop :=
  s.nx ≤ nx ∧ (∀ n x, Heap.get e.put n = some x → n ∉ e.wr → s.nx ≤ n ∧ n < nx) ∧ (∀ n, n ∈ e.wr → ∃ b, Heap.get s.H n = some b)

theorem EffOk.fits {s : St} {e : Eff} {nx : Nat} (h : EffOk s e nx) : EffFits s.fs e (fun n => nx ≤ n) where
  sub := fun n hn => ⟨Nat.le_trans h.1 hn, fun x hg => by
    by_cases hw : n ∈ e.wr
    · exact hw
    · have := (h.2.1 n x hg hw).2; omega⟩
  new := fun n x h1 h2 => (h.2.1 n x h1 h2).1
  wr := h.2.2

theorem Act.put_size (a : Act) (dst : Option Tmp) (v : Value) : (a.put dst v).tmps.size = a.tmps.size := by
  cases dst <;> simp [Act.put]

theorem Act.put_getD (a : Act) (d : Nat) (v : Value) (x : Nat) : (a.put (some d) v).tmps.getD x Go.undef = if x = d ∧ x < a.tmps.size then v else a.tmps.getD x Go.undef := by
  simp only [Act.put, Array.getD_eq_getD_getElem?, Array.getElem?_setIfInBounds]
  by_cases h : d = x
  · subst h
    by_cases h2 : d < a.tmps.size
    · simp [h2]
    · simp [h2]
  · simp [h, Ne.symm h]

/-- A state at which an operation is done; the frame has room for its slot. -/
def Fits (ntmps : Nat) (o : Oper) : Prop := ∀ d, o.dst = some d → d < ntmps

section
variable {P : Program}

theorem FAt.stepAt {C : Ctx} {s : FS} {a : Act} {w : World} {o : Oper} {e : Eff} {fr : Nat → Prop} {ev : Operand → Option AV} {H : Nat → Option ABlk} (ha : FAt C s a w) (hl : LSat P o ev H e a w)
    (hev : ∀ x, x ∈ o.op.operands → ev x = evF s.t x) (hH : ∀ n, n ∈ e.rd ∨ n ∈ e.wr → H n = s.H n) (hok : EffFits s e fr)
    (hd : ∀ d, o.dst = some d → d < s.n) {K : Act → World → Prop} {Q : Exit → Act → World → Prop}
    (hK : ∀ a' w', FAt C (s.app o.dst e fr) a' w' → K a' w') : o.wp P a w K Q := by
  obtain ⟨I, ρ, hx, hs, ho⟩ := ha.ex
  have hsub : ∀ b, OwnW ρ e.wr b → Owns ρ s.H b := by
    rintro b ⟨n, hn, o', r', hr⟩
    obtain ⟨blk, hb⟩ := hok.wr n hn
    exact ⟨n, blk, o', r', hb, hr⟩
  have himm : Imm (OwnW ρ e.wr) w I := fun b hb => ⟨(hs.imm b hb).1, fun h => (hs.imm b hb).2 (hsub b h)⟩
  refine hl I ρ hs.defers (fun x hx v h => hs.ev (hev x hx ▸ h)) (fun n hn b hb => hs.heap.rel n b (hH n hn ▸ hb))
    (fun n m x y hn hm hnm h1 h2 => hs.heap.inj n m x y hnm (hH n (.inr hn) ▸ h1) (hH m hm ▸ h2))
    himm (fun n x h1 h2 => hs.fresh n (hok.new n x h1 h2)) K Q ?_
  intro c w' I' ρ' hp
  have hdefined : ∀ n blk, s.H n = some blk → ∃ b o r, ρ n = some (b, o, r) := fun n blk h =>
    let ⟨b, o, r, h1, _⟩ := (hs.heap.rel n blk h).dom; ⟨b, o, r, h1⟩
  have hfar : ∀ n blk, n ∉ e.wr → s.H n = some blk → ∀ b o r, ρ n = some (b, o, r) → ¬ OwnW ρ e.wr b ∧ b < w.heap.size := by
    intro n blk hn hb b o r hr
    refine ⟨?_, (hs.heap.rel n blk hb).lt hr⟩
    rintro ⟨m, hm, o', r', hr'⟩
    obtain ⟨blk', hb'⟩ := hok.wr m hm
    exact hs.heap.inj n m blk blk' (fun h => hn (h ▸ hm)) hb hb' _ _ _ _ _ _ hr hr' rfl
  have hnotI : ∀ b, I' b → ∀ n blk, n ∉ e.wr → s.H n = some blk → ∀ o r, ρ n = some (b, o, r) → False := by
    intro b hb n blk hn hg o r hr
    obtain ⟨h1, h2⟩ := hfar n blk hn hg b o r hr
    rcases hp.ext.new b hb with h | h | h
    · exact (hs.imm b h).2 ⟨n, blk, o, r, hg, hr⟩
    · exact h1 h
    · omega
  have hget : ∀ n b, (s.app o.dst e fr).H n = some b → Heap.get e.put n = some b ∨ (n ∉ e.wr ∧ s.H n = some b) := by
    intro n b h
    simp only [FS.app] at h
    cases hg : Heap.get e.put n with
    | some x => rw [hg] at h; exact .inl h
    | none =>
      simp only [hg] at h
      by_cases hn : n ∈ e.wr <;> simp only [hn, if_true, if_false] at h
      · cases h
      · exact .inr ⟨hn, h⟩
  have hback : ∀ n blk, n ∉ e.wr → s.H n = some blk → ∀ x, ρ' n = some x → ρ n = some x := by
    intro n blk hn hb x hx
    obtain ⟨b, o, r, hr⟩ := hdefined n blk hb
    rw [hp.ext.rho n _ hr] at hx; cases hx; exact hr
  refine hK _ _ ⟨I', ρ', hx.trans hp.ext (fun b hb => ho b (hsub b hb)), ⟨(Act.put_size _ _ _).trans hs.sz, ?_, ?_, ⟨?_, ?_⟩, ?_, ?_⟩, ?_⟩
  · -- slots
    intro d v hv
    simp only [FS.app] at hv
    by_cases hdd : o.dst = some d
    · simp only [hdd, if_true, Option.some.injEq] at hv
      subst hv
      have ht : d < a.tmps.size := hs.sz ▸ hd d hdd
      refine ⟨by rw [Act.put_size]; exact ht, ?_⟩
      rw [hdd, Act.put_getD, if_pos ⟨rfl, ht⟩]; exact hp.val
    · simp only [hdd, if_false] at hv
      obtain ⟨h1, h2⟩ := hs.tmps d v hv
      refine ⟨by rw [Act.put_size]; exact h1, ?_⟩
      cases hdst : o.dst with
      | none => simpa [Act.put] using h2.mono hp.ext himm
      | some t =>
        rw [Act.put_getD, if_neg (fun h => hdd (by rw [hdst, h.1]))]
        exact h2.mono hp.ext himm
  · cases o.dst <;> exact hs.defers
  · -- blocks
    intro n b h
    rcases hget n b h with h | ⟨h1, h2⟩
    · exact hp.blk n b h
    · refine (hs.heap.rel n b h2).mono hp.ext himm ?_
      intro bb oo rr hr
      obtain ⟨h3, h4⟩ := hfar n b h1 h2 bb oo rr hr
      exact ⟨hp.ext.keep bb h4 h3, fun hI => hnotI bb hI n b h1 h2 oo rr hr⟩
  · -- apart
    intro n m x y hnm h1 h2 b o r b' o' r' hr hr'
    rcases hget n x h1 with g1 | ⟨g1, g1'⟩ <;> rcases hget m y h2 with g2 | ⟨g2, g2'⟩
    · exact hp.inj n m x y hnm g1 g2 b o r b' o' r' hr hr'
    · obtain ⟨k1, k2⟩ := hfar m y g2 g2' b' o' r' (hback m y g2 g2' _ hr')
      intro he
      subst he
      exact (hp.own n x g1 b o r hr).elim k1 (fun h => by omega)
    · obtain ⟨k1, k2⟩ := hfar n x g1 g1' b o r (hback n x g1 g1' _ hr)
      intro he
      subst he
      exact (hp.own m y g2 b o' r' hr').elim k1 (fun h => by omega)
    · exact hs.heap.inj n m x y hnm g1' g2' b o r b' o' r' (hback n x g1 g1' _ hr) (hback m y g2 g2' _ hr')
  · -- the immutable
    intro b hb
    refine ⟨hp.lt b hb, ?_⟩
    rintro ⟨n, blk, o, r, h1, h2⟩
    rcases hget n blk h1 with g | ⟨g1, g2⟩
    · obtain ⟨b1, o1, r1, h3, h4⟩ := (hp.blk n blk g).dom
      rw [h2] at h3; cases h3; exact h4 hb
    · exact hnotI b hb n blk g1 g2 o r (hback n blk g1 g2 _ h2)
  · -- new names
    intro n hn
    have hf := hs.fresh n (hok.sub n hn).1
    refine hp.fresh n hf ?_
    cases hg : Heap.get e.put n with
    | none => rfl
    | some x =>
      obtain ⟨b, hb⟩ := hok.wr n ((hok.sub n hn).2 x hg)
      obtain ⟨b1, o1, r1, h1⟩ := hdefined n b hb
      rw [hf] at h1; cases h1
  · rintro b ⟨n, blk, o, r, h1, h2⟩
    rcases hget n blk h1 with g | ⟨g1, g2⟩
    · rcases hp.own n blk g b o r h2 with h | h
      · exact ho b (hsub b h)
      · exact .inr (Nat.le_trans hx.size h)
    · exact ho b ⟨n, blk, o, r, g2, hback n blk g1 g2 _ h2⟩

theorem FAt.step {C : Ctx} {s : FS} {a : Act} {w : World} {o : Oper} {e : Eff} {fr : Nat → Prop} {ev : Operand → Option AV} {H : Nat → Option ABlk} (ha : FAt C s a w) (hl : LS P o ev H e)
    (hev : ∀ x, x ∈ o.op.operands → ev x = evF s.t x) (hH : ∀ n, n ∈ e.rd ∨ n ∈ e.wr → H n = s.H n) (hok : EffFits s e fr)
    (hd : ∀ d, o.dst = some d → d < s.n) {K : Act → World → Prop} {Q : Exit → Act → World → Prop}
    (hK : ∀ a' w', FAt C (s.app o.dst e fr) a' w' → K a' w') : o.wp P a w K Q := ha.stepAt (hl a w) hev hH hok hd hK

theorem St.app_fs (s : St) (dst : Option Tmp) (e : Eff) (nx : Nat) : (s.app dst e nx).fs = s.fs.app dst e (fun n => nx ≤ n) := by
  simp only [St.fs, St.app, FS.app, FS.mk.injEq, true_and, and_true]
  constructor
  · funext d
    cases dst with
    | none => simp [Env.put]
    | some t =>
      simp only [Env.put, look, Option.some.injEq]
      by_cases h : d = t
      · simp [h]
      · simp [h, Ne.symm h]
  · funext n
    rw [get_append, get_dels]

theorem At.step {C : Ctx} {s : St} {a : Act} {w : World} {o : Oper} {e : Eff} {nx : Nat} (ha : At C s a w) (hl : LS P o s.ev (Heap.get s.H) e) (hok : EffOk s e nx)
    (hd : ∀ d, o.dst = some d → d < s.n) {K : Act → World → Prop} {Q : Exit → Act → World → Prop}
    (hK : ∀ a' w', At C (s.app o.dst e nx) a' w' → K a' w') : o.wp P a w K Q :=
  FAt.step ha hl (fun _ _ => rfl) (fun _ _ => rfl) hok.fits hd fun a' w' h => hK a' w' (by rw [At, St.app_fs]; exact h)

theorem At.stepAt {C : Ctx} {s : St} {a : Act} {w : World} {o : Oper} {e : Eff} {nx : Nat} (ha : At C s a w) (hl : LSat P o s.ev (Heap.get s.H) e a w) (hok : EffOk s e nx)
    (hd : ∀ d, o.dst = some d → d < s.n) {K : Act → World → Prop} {Q : Exit → Act → World → Prop}
    (hK : ∀ a' w', At C (s.app o.dst e nx) a' w' → K a' w') : o.wp P a w K Q :=
  FAt.stepAt ha hl (fun _ _ => rfl) (fun _ _ => rfl) hok.fits hd fun a' w' h => hK a' w' (by rw [At, St.app_fs]; exact h)

theorem FAt.skip {C : Ctx} {s : FS} {a : Act} {w : World} (ha : FAt C s a w) (dst : Option Tmp) (hd : ∀ d, dst = some d → d < s.n) :
    FAt C { s with t := fun d => if dst = some d then some (.tuple []) else s.t d } (a.put dst Go.undef) w := by
  obtain ⟨I, ρ, hx, hs, ho⟩ := ha.ex
  refine ⟨I, ρ, hx, ⟨(Act.put_size _ _ _).trans hs.sz, ?_, ?_, hs.heap, hs.imm, hs.fresh⟩, ho⟩
  · intro d v hv
    by_cases hdd : dst = some d
    · simp only [hdd, if_true, Option.some.injEq] at hv
      subst hv
      have ht : d < a.tmps.size := hs.sz ▸ hd d hdd
      refine ⟨by rw [Act.put_size]; exact ht, ?_⟩
      rw [hdd, Act.put_getD, if_pos ⟨rfl, ht⟩]; exact ⟨#[], rfl, rfl, fun k hk => absurd hk (Nat.not_lt_zero k)⟩
    · simp only [hdd, if_false] at hv
      obtain ⟨h1, h2⟩ := hs.tmps d v hv
      refine ⟨by rw [Act.put_size]; exact h1, ?_⟩
      cases hdst : dst with
      | none => simpa [Act.put] using h2
      | some t =>
        rw [Act.put_getD, if_neg (fun h => hdd (by rw [hdst, h.1]))]
        exact h2
  · cases dst <;> exact hs.defers

theorem look_put (t : Env) (dst : Option Tmp) (v : AV) : look (Env.put t dst v) = fun d => if dst = some d then some v else look t d := by
  funext d
  cases dst with
  | none => simp [Env.put]
  | some x =>
    simp only [Env.put, look, Option.some.injEq]
    by_cases h : d = x
    · simp [h]
    · simp [h, Ne.symm h]

theorem At.skip {C : Ctx} {s : St} {a : Act} {w : World} (ha : At C s a w) (dst : Option Tmp) (hd : ∀ d, dst = some d → d < s.n) :
    At C { s with t := Env.put s.t dst (.tuple []) } (a.put dst Go.undef) w := by
  have := FAt.skip ha dst hd
  simpa only [At, St.fs, look_put] using this

/-- One operation that is done. -/
def AStep (P : Program) (o : Oper) (s : St) (K : St → Prop) : Prop :=
  ∃ e nx, LS P o s.ev (Heap.get s.H) e ∧ EffOk s e nx ∧ K (s.app o.dst e nx)
/-- One operation of which the tape says what comes. -/
def SStep (P : Program) (o : Oper) (s : St) (K : St → Prop) : Prop :=
  ∀ (C : Ctx) (a : Act) (w : World) (K' : Act → World → Prop) (Q : Exit → Act → World → Prop), At C s a w → (∀ d, o.dst = some d → d < s.n) →
    (∀ s' a' w', K s' → s'.n = s.n → At C s' a' w' → K' a' w') → o.wp P a w K' Q

def dstOk (n : Nat) (o : Oper) : Bool := match o.dst with | some d => d < n | none => true
theorem dstOk_spec {n : Nat} {o : Oper} (h : dstOk n o = true) : ∀ d, o.dst = some d → d < n := by
  intro d hd
  simpa [dstOk, hd] using h

/-- What a guard's slot says: the empty tuple stands where an operation was skipped. -/
def gdBool : Option AV → Option (Option Bool)
  | some (.bool b) => some (some b)
  | some (.tuple []) => some none
  | _ => none
theorem gdBool_rel {w : World} {I : Nat → Prop} {ρ : Rho} {v : AV} {c : Value} {r : Option Bool} (h : gdBool (some v) = some r) (hc : VRel w I ρ v c) : (match some c with | some (.bool b) => some b | _ => none) = r := by
  cases v <;> simp only [gdBool, Option.some.injEq, reduceCtorEq] at h
  · subst h; rw [hc.bool_inv]
  · rename_i vs
    cases vs with
    | nil =>
      simp only [gdBool, Option.some.injEq] at h
      subst h
      obtain ⟨cs, rfl, _⟩ := hc
      rfl
    | cons _ _ => simp [gdBool] at h

/-- Operations in the text's order. -/
def AOps (P : Program) (all : List Oper) : List Oper → St → (St → Prop) → Prop
  | [], s, K => K s
  | o :: os, s, K => match o.guard with
    | none => AStep P o s (fun s' => AOps P all os s' K) ∨ SStep P o s (fun s' => AOps P all os s' K)
    | some (j, want) => match gdBool (((all[j]?).bind (·.dst)).bind (look s.t)) with
      | some b => if b = some want then AStep P o s fun s' => AOps P all os s' K else AOps P all os { s with t := Env.put s.t o.dst (.tuple []) } K
      | _ => False

theorem wanted_none {all : Array Oper} {o : Oper} {t : Array Value} (h : o.guard = none) : Region.wanted o (yielded all t) = true := by
  simp [Region.wanted, h]

theorem yielded_of {C : Ctx} {s : St} {a : Act} {w : World} (ha : At C s a w) {all : List Oper} {j : Nat} {b : Option Bool}
    (h : gdBool (((all[j]?).bind (·.dst)).bind (look s.t)) = some b) : yielded all.toArray a.tmps j = b := by
  obtain ⟨I, ρ, hx, hs, ho⟩ := ha.ex
  cases hd : (all[j]?).bind (·.dst) with
  | none => simp [hd, gdBool] at h
  | some d =>
    simp only [hd, Option.bind_some] at h
    cases hv : look s.t d with
    | none => simp [hv, gdBool] at h
    | some v =>
      rw [hv] at h
      obtain ⟨h1, h2⟩ := hs.tmps d v hv
      have h3 := gdBool_rel h h2
      have h4 : a.tmps[d]? = some (a.tmps.getD d Go.undef) := by
        simp [Array.getD_eq_getD_getElem?, Array.getElem?_eq_getElem h1]
      unfold yielded
      simp only [List.getElem?_toArray, hd, Option.bind_some, h4]
      exact h3

theorem AOps.sound {C : Ctx} {all : List Oper} {K : St → Prop} {Q : Exit → Act → World → Prop} (hQ : ∀ s a w, K s → At C s a w → Q .normal a w) :
    ∀ (l : List Oper) (k : Nat), (∀ i, l[i]? = all[k + i]?) → ∀ (n : Nat), (l.all (dstOk n)) = true → ∀ (s : St) (a : Act) (w : World), s.n = n → At C s a w → AOps P all l s K →
      wpOps P all.toArray Q (List.range' k l.length) a w
  | [], k, hl, n, hd, s, a, w, hn, ha, h => by simpa [wpOps] using hQ s a w h ha
  | o :: os, k, hl, n, hd, s, a, w, hn, ha, h => by
    have hk : all[k]? = some o := by simpa using (hl 0).symm
    have hl' : ∀ i, os[i]? = all[k + 1 + i]? := fun i => by
      have := hl (i + 1)
      simp only [List.getElem?_cons_succ] at this
      rw [this]; congr 1; omega
    simp only [List.all_cons, Bool.and_eq_true] at hd
    have hdo := dstOk_spec hd.1
    have go : AStep P o s (fun s' => AOps P all os s' K) → o.wp P a w (wpOps P all.toArray Q (List.range' (k + 1) os.length)) Q := by
      rintro ⟨e, nx, h1, h2, h3⟩
      refine ha.step h1 h2 (hn ▸ hdo) fun a' w' ha' => ?_
      exact AOps.sound hQ os (k + 1) hl' n hd.2 (s.app o.dst e nx) a' w' hn ha' h3
    rw [List.length_cons, List.range'_succ]
    simp only [wpOps, List.getElem?_toArray, hk]
    simp only [AOps] at h
    cases hg : o.guard with
    | none =>
      simp only [hg] at h
      rw [wanted_none hg, if_pos rfl]
      rcases h with h | h
      · exact .inl (go h)
      · refine .inl (h C a w _ _ ha (hn ▸ hdo) fun s' a' w' h3 hn' ha' => ?_)
        exact AOps.sound hQ os (k + 1) hl' n hd.2 s' a' w' (hn'.trans hn) ha' h3
    | some jw =>
      obtain ⟨j, want⟩ := jw
      simp only [hg] at h
      split at h
      · rename_i b hb
        have hy := yielded_of ha hb
        have hw : Region.wanted o (yielded all.toArray a.tmps) = (b == some want) := by
          simp [Region.wanted, hg, hy]
        rw [hw]
        by_cases hbw : b = some want
        · subst hbw
          simp only [if_true] at h
          simp only [beq_self_eq_true, if_true]
          exact .inl (go h)
        · simp only [hbw, if_false] at h
          have : (b == some want) = false := by simpa using hbw
          rw [this]
          simp only [Bool.false_eq_true, if_false]
          exact AOps.sound hQ os (k + 1) hl' n hd.2 { s with t := Env.put s.t o.dst (.tuple []) } _ w hn (ha.skip o.dst (hn ▸ hdo)) h
      · exact h.elim

/-- A region in the text's order. -/
theorem AWp.region {id : Nat} {ops : List Oper} {s : St} {Q : Exit → St → Prop} (hd : (ops.all (dstOk s.n)) = true) (h : AOps P ops ops s (Q .normal)) :
    AWp P (.region id ops.toArray false) s Q := by
  intro C a w ha
  refine wp_region ?_
  have := AOps.sound (P := P) (C := C) (all := ops) (K := Q .normal) (Q := fun e a' w' => ∃ s', Q e s' ∧ At C s' a' w') (fun s' a' w' h1 h2 => ⟨s', h1, h2⟩) ops 0 (by simp) s.n hd s a w rfl ha h
  simpa [List.range_eq_range'] using this

end
end Go.Proofs.Ytipbgaahpchhbaa
/- A region that draws its order: if no two operations that may stand either way round meet, each order does what the text's order does. -/
namespace Go.Proofs.Ytipbgaahpchhbaa
open Go Go.RowKit

abbrev Foot := List Nat × List Nat
def Eff.foot (e : Eff) : Foot := (e.rd, e.wr ++ e.put.map (·.1))
def footOf : Option Eff → Foot
  | some e => e.foot
  | none => ([], [])

/-- Which operations stand ahead of each one, as bits. -/
def ancL : List Oper → List Nat → List Nat
  | [], acc => acc
  | o :: os, acc => ancL os (acc ++ [o.after.toList.foldl (fun s e => if Region.binds .any e then s ||| 2 ^ e.on ||| acc.getD e.on 0 else s) 0])

def meets (a b : List Nat) : Bool := a.any fun x => b.contains x
def heapApart (x y : Foot) : Bool := !(meets x.2 y.2) && !(meets x.2 y.1) && !(meets x.1 y.2)

def pairOk (all : Array Oper) (m : Nat) (i : Nat) (oi : Oper) (fi : Foot) (oj : Oper) (fj : Foot) : Bool :=
  m.testBit i || (Oper.apart all oi oj && heapApart fi fj)
def rowOk (all : Array Oper) (m : Nat) (oj : Oper) (fj : Foot) : Nat → List Oper → List Foot → Bool
  | i, oi :: os, fi :: fs => pairOk all m i oi fi oj fj && rowOk all m oj fj (i + 1) os fs
  | _, _, _ => true
def confGo (all : Array Oper) (ops0 : List Oper) (fs0 : List Foot) : Nat → List Oper → List Foot → List Nat → Bool
  | j, oj :: os, fj :: fs, m :: ms => rowOk all m oj fj 0 (ops0.take j) (fs0.take j) && (oj.after.all fun e => !Region.binds .any e || decide (e.on < j)) && confGo all ops0 fs0 (j + 1) os fs ms
  | _, _, _, _ => true
/-- No two operations meet that may stand either way round. -/
def confOk (ops : List Oper) (fs : List Foot) : Bool := confGo ops.toArray ops fs 0 ops fs (ancL ops [])

/-- Operations in the text's order, and what each of them touches. -/
def AOpsD (P : Program) (all : List Oper) : List Oper → St → List Foot → (List Foot → St → Prop) → Prop
  | [], s, L, K => K L s
  | o :: os, s, L, K => match o.guard with
    | none => ∃ e nx, LS P o s.ev (Heap.get s.H) e ∧ EffOk s e nx ∧ AOpsD P all os (s.app o.dst e nx) (L ++ [e.foot]) K
    | some (j, want) => match gdBool (((all[j]?).bind (·.dst)).bind (look s.t)) with
      | some b => if b = some want then ∃ e nx, LS P o s.ev (Heap.get s.H) e ∧ EffOk s e nx ∧ AOpsD P all os (s.app o.dst e nx) (L ++ [e.foot]) K
          else AOpsD P all os { s with t := Env.put s.t o.dst (.tuple []) } (L ++ [([], [])]) K
      | _ => False

/-- How the run in the text's order went. -/
def CRun (P : Program) (all : List Oper) : List Oper → St → List (Option Eff) → St → Prop
  | [], s, rs, s' => rs = [] ∧ s' = s
  | o :: os, s, r :: rs, s' =>
    (match o.guard with
      | none => r ≠ none
      | some (j, want) => ∃ b, gdBool (((all[j]?).bind (·.dst)).bind (look s.t)) = some b ∧ ((b = some want) ↔ r ≠ none)) ∧
    (match r with
      | some e => ∃ nx, LS P o s.ev (Heap.get s.H) e ∧ EffOk s e nx ∧ CRun P all os (s.app o.dst e nx) rs s'
      | none => CRun P all os { s with t := Env.put s.t o.dst (.tuple []) } rs s')
  | _ :: _, _, [], _ => False

theorem AOpsD.run {P : Program} {all : List Oper} {K : List Foot → St → Prop} : ∀ (l : List Oper) (s : St) (L : List Foot), AOpsD P all l s L K →
    ∃ rs s', CRun P all l s rs s' ∧ K (L ++ rs.map footOf) s'
  | [], s, L, h => ⟨[], s, ⟨rfl, rfl⟩, by simpa [AOpsD] using h⟩
  | o :: os, s, L, h => by
    simp only [AOpsD] at h
    cases hg : o.guard with
    | none =>
      simp only [hg] at h
      obtain ⟨e, nx, h1, h2, h3⟩ := h
      obtain ⟨rs, s', h4, h5⟩ := AOpsD.run os _ _ h3
      exact ⟨some e :: rs, s', ⟨by simp [hg], nx, h1, h2, h4⟩, by simpa [footOf] using h5⟩
    | some jw =>
      obtain ⟨j, want⟩ := jw
      simp only [hg] at h
      split at h
      · rename_i b hb
        by_cases hbw : b = some want
        · simp only [hbw, if_true] at h
          obtain ⟨e, nx, h1, h2, h3⟩ := h
          obtain ⟨rs, s', h4, h5⟩ := AOpsD.run os _ _ h3
          exact ⟨some e :: rs, s', ⟨by simp only [hg]; exact ⟨b, hb, by simp [hbw]⟩, nx, h1, h2, h4⟩, by simpa [footOf] using h5⟩
        · simp only [hbw, if_false] at h
          obtain ⟨rs, s', h4, h5⟩ := AOpsD.run os _ _ h
          exact ⟨none :: rs, s', ⟨by simp only [hg]; exact ⟨b, hb, by simp [hbw]⟩, h4⟩, by simpa [footOf] using h5⟩
      · exact h.elim

/-! #### ancestors -/
theorem ancL_append : ∀ (l : List Oper) (acc : List Nat), ∃ m, ancL l acc = acc ++ m ∧ m.length = l.length
  | [], acc => ⟨[], by simp [ancL]⟩
  | o :: os, acc => by
    obtain ⟨m, h, hl⟩ := ancL_append os (acc ++ [o.after.toList.foldl (fun s e => if Region.binds .any e then s ||| 2 ^ e.on ||| acc.getD e.on 0 else s) 0])
    exact ⟨_ :: m, by simp only [ancL, h]; simp; rfl, by simp [hl]⟩

theorem fold_bit (i : Nat) (acc : List Nat) : ∀ (es : List Edge) (s : Nat), (es.foldl (fun s e => if Region.binds .any e then s ||| 2 ^ e.on ||| acc.getD e.on 0 else s) s).testBit i = true →
    s.testBit i = true ∨ ∃ e, e ∈ es ∧ Region.binds .any e = true ∧ (i = e.on ∨ (acc.getD e.on 0).testBit i = true)
  | [], s, h => .inl (by simpa using h)
  | e :: es, s, h => by
    simp only [List.foldl_cons] at h
    rcases fold_bit i acc es _ h with h1 | ⟨e', h1, h2, h3⟩
    · by_cases hb : Region.binds .any e = true
      · simp only [hb, if_true, Nat.testBit_or, Bool.or_eq_true] at h1
        rcases h1 with (h1 | h1) | h1
        · exact .inl h1
        · refine .inr ⟨e, by simp, hb, .inl ?_⟩
          rw [Nat.testBit_two_pow] at h1
          exact (by simpa using h1 : e.on = i).symm
        · exact .inr ⟨e, by simp, hb, .inr h1⟩
      · simp only [hb, if_false, Bool.false_eq_true] at h1
        exact .inl h1
    · exact .inr ⟨e', by simp [h1], h2, h3⟩

theorem ancL_spec (i : Nat) : ∀ (l : List Oper) (acc : List Nat) (j : Nat) (o : Oper), l[j]? = some o → ((ancL l acc).getD (acc.length + j) 0).testBit i = true →
    ∃ e, e ∈ o.after.toList ∧ Region.binds .any e = true ∧ (i = e.on ∨ (e.on < acc.length + j ∧ ((ancL l acc).getD e.on 0).testBit i = true))
  | [], acc, j, o, h, _ => by simp at h
  | x :: xs, acc, j, o, h, hb => by
    simp only [ancL] at hb ⊢
    cases j with
    | zero =>
      simp only [List.getElem?_cons_zero, Option.some.injEq] at h
      subst h
      obtain ⟨m, hm, _⟩ := ancL_append xs (acc ++ [x.after.toList.foldl (fun s e => if Region.binds .any e then s ||| 2 ^ e.on ||| acc.getD e.on 0 else s) 0])
      rw [hm] at hb ⊢
      have hb' : (x.after.toList.foldl (fun s e => if Region.binds .any e then s ||| 2 ^ e.on ||| acc.getD e.on 0 else s) 0).testBit i = true := by
        simpa [List.getD_eq_getElem?_getD] using hb
      rcases fold_bit i acc _ _ hb' with h1 | ⟨e, h1, h2, h3⟩
      · simp at h1
      · refine ⟨e, h1, h2, ?_⟩
        rcases h3 with h3 | h3
        · exact .inl h3
        · have hlt : e.on < acc.length := by
            rcases Nat.lt_or_ge e.on acc.length with h4 | h4
            · exact h4
            · simp [List.getD_eq_getElem?_getD, List.getElem?_eq_none h4] at h3
          refine .inr ⟨by omega, ?_⟩
          simpa [List.getD_eq_getElem?_getD, List.getElem?_append, hlt] using h3
    | succ j =>
      have := ancL_spec i xs (acc ++ [x.after.toList.foldl (fun s e => if Region.binds .any e then s ||| 2 ^ e.on ||| acc.getD e.on 0 else s) 0]) j o (by simpa using h)
        (by simpa [Nat.add_assoc, Nat.add_comm 1 j] using hb)
      obtain ⟨e, h1, h2, h3⟩ := this
      refine ⟨e, h1, h2, ?_⟩
      rcases h3 with h3 | ⟨h3, h4⟩
      · exact .inl h3
      · exact .inr ⟨by simp at h3; omega, h4⟩

/-- What stands ahead of what is done is done. -/
theorem anc_done {ops : List Oper} {L : Nat → Bool} (hc : ∀ (j : Nat) (o : Oper), ops[j]? = some o → L j = true → ∀ e, e ∈ o.after.toList → Region.binds .any e = true → L e.on = true) {i : Nat} :
    ∀ (j : Nat) (o : Oper), ops[j]? = some o → (L j = true ∨ ∀ e, e ∈ o.after.toList → Region.binds .any e = true → L e.on = true) → ((ancL ops []).getD j 0).testBit i = true → L i = true := by
  intro j
  induction j using Nat.strongRecOn with
  | _ j ih =>
    intro o ho hj hb
    obtain ⟨e, h1, h2, h3⟩ := ancL_spec i ops [] j o ho (by simpa using hb)
    have hon : L e.on = true := hj.elim (fun h => hc j o ho h e h1 h2) (fun h => h e h1 h2)
    rcases h3 with rfl | ⟨h3, h4⟩
    · exact hon
    · have h3' : e.on < j := by simpa using h3
      have hlt : e.on < ops.length := by
        have : j < ops.length := by
          rcases Nat.lt_or_ge j ops.length with h | h
          · exact h
          · simp [List.getElem?_eq_none h] at ho
        omega
      exact ih e.on h3' ops[e.on] (by simp [hlt]) (.inl hon) h4

/-! #### what the check says -/
theorem rowOk_spec {all : Array Oper} {m : Nat} {oj : Oper} {fj : Foot} : ∀ (os : List Oper) (fs : List Foot) (k : Nat), rowOk all m oj fj k os fs = true → ∀ (i : Nat) (oi : Oper) (fi : Foot), os[i]? = some oi → fs[i]? = some fi →
    pairOk all m (k + i) oi fi oj fj = true
  | [], fs, k, h, i, oi, fi, h1, _ => by simp at h1
  | o :: os, [], k, h, i, oi, fi, _, h2 => by simp at h2
  | o :: os, f :: fs, k, h, i, oi, fi, h1, h2 => by
    simp only [rowOk, Bool.and_eq_true] at h
    cases i with
    | zero => simp at h1 h2; subst h1; subst h2; exact h.1
    | succ i =>
      have := rowOk_spec os fs (k + 1) h.2 i oi fi (by simpa using h1) (by simpa using h2)
      rwa [Nat.add_assoc, Nat.add_comm 1 i] at this

theorem confGo_spec {all : Array Oper} {ops0 : List Oper} {fs0 : List Foot} : ∀ (os : List Oper) (fs : List Foot) (ms : List Nat) (k : Nat), confGo all ops0 fs0 k os fs ms = true →
    ∀ (j : Nat) (oj : Oper) (fj : Foot) (m : Nat), os[j]? = some oj → fs[j]? = some fj → ms[j]? = some m →
      rowOk all m oj fj 0 (ops0.take (k + j)) (fs0.take (k + j)) = true ∧ (∀ e, e ∈ oj.after.toList → Region.binds .any e = true → e.on < k + j)
  | [], fs, ms, k, h, j, oj, fj, m, h1, _, _ => by simp at h1
  | o :: os, [], ms, k, h, j, oj, fj, m, _, h2, _ => by simp at h2
  | o :: os, f :: fs, [], k, h, j, oj, fj, m, _, _, h3 => by simp at h3
  | o :: os, f :: fs, x :: ms, k, h, j, oj, fj, m, h1, h2, h3 => by
    simp only [confGo, Bool.and_eq_true] at h
    cases j with
    | zero =>
      simp at h1 h2 h3; subst h1; subst h2; subst h3
      refine ⟨h.1.1, fun e he hb => ?_⟩
      have := h.1.2
      rw [Array.all_eq_true'] at this
      have := this e (Array.mem_toList_iff.1 he)
      simpa [hb] using this
    | succ j =>
      have := confGo_spec os fs ms (k + 1) h.2 j oj fj m (by simpa using h1) (by simpa using h2) (by simpa using h3)
      rwa [Nat.add_assoc, Nat.add_comm 1 j] at this

theorem confOk_spec {ops : List Oper} {fs : List Foot} (hl : fs.length = ops.length) (h : confOk ops fs = true) {i j : Nat} {oi oj : Oper} {fi fj : Foot} (hij : i < j)
    (hi : ops[i]? = some oi) (hj : ops[j]? = some oj) (gi : fs[i]? = some fi) (gj : fs[j]? = some fj) :
    ((ancL ops []).getD j 0).testBit i = true ∨ (Oper.apart ops.toArray oi oj = true ∧ heapApart fi fj = true) := by
  obtain ⟨m, hm, hml⟩ := ancL_append ops []
  have hjl : j < ops.length := by
    rcases Nat.lt_or_ge j ops.length with h | h
    · exact h
    · simp [List.getElem?_eq_none h] at hj
  have hm' : (ancL ops [])[j]? = some ((ancL ops []).getD j 0) := by
    have : j < (ancL ops []).length := by rw [hm]; simp [hml, hjl]
    simp [List.getD_eq_getElem?_getD, List.getElem?_eq_getElem this]
  have h1 := (confGo_spec ops fs (ancL ops []) 0 h j oj fj _ hj gj hm').1
  have h2 := rowOk_spec _ _ 0 h1 i oi fi (by simpa [hij] using hi) (by simpa [hij] using gi)
  simp only [pairOk, Nat.zero_add, Bool.or_eq_true, Bool.and_eq_true] at h2
  exact h2

theorem confOk_edges {ops : List Oper} {fs : List Foot} (hl : fs.length = ops.length) (h : confOk ops fs = true) {j : Nat} {oj : Oper} (hj : ops[j]? = some oj) :
    ∀ e, e ∈ oj.after.toList → Region.binds .any e = true → e.on < j := by
  obtain ⟨m, hm, hml⟩ := ancL_append ops []
  have hjl : j < ops.length := by
    rcases Nat.lt_or_ge j ops.length with h | h
    · exact h
    · simp [List.getElem?_eq_none h] at hj
  have hm' : (ancL ops [])[j]? = some ((ancL ops []).getD j 0) := by
    have : j < (ancL ops []).length := by rw [hm]; simp [hml, hjl]
    simp [List.getD_eq_getElem?_getD, List.getElem?_eq_getElem this]
  have hf : fs[j]? = some fs[j] := by simp [hl, hjl]
  simpa using (confGo_spec ops fs (ancL ops []) 0 h j oj _ _ hj hf hm').2

theorem meets_false {a b : List Nat} (h : meets a b = false) {n : Nat} (h1 : n ∈ a) (h2 : n ∈ b) : False := by
  have := List.any_eq_false.1 h n h1
  simp [h2] at this

end Go.Proofs.Ytipbgaahpchhbaa
/- A region that draws its order: the proof. -/
namespace Go.Proofs.Ytipbgaahpchhbaa
open Go Go.RowKit

def valOf : Option Eff → AV
  | some e => e.v
  | none => .tuple []

/-- What the slots, and the memory, hold when some of the operations are done. -/
def tF (L : Nat → Bool) : Nat → List Oper → List (Option Eff) → (Nat → Option AV) → Nat → Option AV
  | k, o :: os, r :: rs, b => tF L (k + 1) os rs (if L k then (fun d => if o.dst = some d then some (valOf r) else b d) else b)
  | _, _, _, b => b
def hApp (r : Option Eff) (b : Nat → Option ABlk) (n : Nat) : Option ABlk := match r with
  | some e => match Heap.get e.put n with | some x => some x | none => if n ∈ e.wr then none else b n
  | none => b n
def hF (L : Nat → Bool) : Nat → List (Option Eff) → (Nat → Option ABlk) → Nat → Option ABlk
  | k, r :: rs, b => hF L (k + 1) rs (if L k then hApp r b else b)
  | _, _, b => b

theorem tF_congr {L L' : Nat → Bool} {d : Nat} : ∀ (os : List Oper) (rs : List (Option Eff)) (k : Nat) (b b' : Nat → Option AV), b d = b' d →
    (∀ (j : Nat) (o : Oper), os[j]? = some o → j < rs.length → o.dst = some d → L (k + j) = L' (k + j)) → tF L k os rs b d = tF L' k os rs b' d
  | [], rs, k, b, b', h, _ => by cases rs <;> exact h
  | o :: os, [], k, b, b', h, _ => h
  | o :: os, r :: rs, k, b, b', h, hL => by
    simp only [tF]
    refine tF_congr os rs (k + 1) _ _ ?_ (fun j o' h1 h2 h3 => ?_)
    · by_cases hd : o.dst = some d
      · have := hL 0 o (by simp) (by simp) hd
        simp only [Nat.add_zero] at this
        rw [this]
        by_cases hk : L' k = true <;> simp [hk, hd, h]
      · by_cases hk : L k = true <;> by_cases hk' : L' k = true <;> simp [hk, hk', hd, h]
    · have := hL (j + 1) o' (by simpa using h1) (by simpa using h2) h3
      rwa [show k + (j + 1) = k + 1 + j by omega] at this

/-- Does an effect touch a name? -/
def Touches (r : Option Eff) (n : Nat) : Prop := ∃ e, r = some e ∧ (n ∈ e.wr ∨ Heap.get e.put n ≠ none)

theorem hApp_far {r : Option Eff} {b : Nat → Option ABlk} {n : Nat} (h : ¬ Touches r n) : hApp r b n = b n := by
  cases r with
  | none => rfl
  | some e =>
    simp only [hApp]
    have h1 : Heap.get e.put n = none := by
      cases hg : Heap.get e.put n with
      | none => rfl
      | some x => exact absurd ⟨e, rfl, .inr (by simp [hg])⟩ h
    have h2 : n ∉ e.wr := fun h3 => h ⟨e, rfl, .inl h3⟩
    simp [h1, h2]

theorem hApp_near {r : Option Eff} {b b' : Nat → Option ABlk} {n : Nat} (h : Touches r n) : hApp r b n = hApp r b' n := by
  obtain ⟨e, rfl, h⟩ := h
  simp only [hApp]
  cases hg : Heap.get e.put n with
  | some x => rfl
  | none =>
    rcases h with h | h
    · simp [h]
    · exact absurd hg h

theorem hF_congr {L L' : Nat → Bool} {n : Nat} : ∀ (rs : List (Option Eff)) (k : Nat) (b b' : Nat → Option ABlk), b n = b' n →
    (∀ (j : Nat) (r : Option Eff), rs[j]? = some r → Touches r n → L (k + j) = L' (k + j)) → hF L k rs b n = hF L' k rs b' n
  | [], k, b, b', h, _ => h
  | r :: rs, k, b, b', h, hL => by
    simp only [hF]
    refine hF_congr rs (k + 1) _ _ ?_ (fun j r' h1 h3 => ?_)
    · by_cases hd : Touches r n
      · have := hL 0 r (by simp) hd
        simp only [Nat.add_zero] at this
        rw [this]
        by_cases hk : L' k = true
        · simp only [hk, if_true]; exact hApp_near hd
        · simp [hk, h]
      · by_cases hk : L k = true <;> by_cases hk' : L' k = true <;> simp [hk, hk', hApp_far hd, h]
    · have := hL (j + 1) r' (by simpa using h1) h3
      rwa [show k + (j + 1) = k + 1 + j by omega] at this

/-- The state of the run in the text's order ahead of operation i. -/
structure Stands (P : Program) (all : List Oper) (s0 : St) (rs : List (Option Eff)) (s' : St) (i : Nat) (o : Oper) (r : Option Eff) (s : St) (s1 : St) : Prop where
  t : look s.t = tF (fun j => decide (j < i)) 0 all rs (look s0.t)
  h : Heap.get s.H = hF (fun j => decide (j < i)) 0 rs (Heap.get s0.H)
  t1 : look s1.t = tF (fun j => decide (j < i + 1)) 0 all rs (look s0.t)
  h1 : Heap.get s1.H = hF (fun j => decide (j < i + 1)) 0 rs (Heap.get s0.H)
  app : look s1.t = (fun d => if o.dst = some d then some (valOf r) else look s.t d)
  apph : Heap.get s1.H = hApp r (Heap.get s.H)
  guard : match o.guard with
      | none => r ≠ none
      | some (j, want) => ∃ b, gdBool (((all[j]?).bind (·.dst)).bind (look s.t)) = some b ∧ ((b = some want) ↔ r ≠ none)
  ls : ∀ e, r = some e → LS P o s.ev (Heap.get s.H) e ∧ EffOk s e s1.nx
  nx : s0.nx ≤ s.nx ∧ s.nx ≤ s1.nx ∧ s1.nx ≤ s'.nx
  prev : ∀ (j : Nat) (e : Eff) (m : Nat) (x : ABlk), j < i → rs[j]? = some (some e) → Heap.get e.put m = some x → m < s.nx
  n : s.n = s0.n

theorem tF_none (L : Nat → Bool) : ∀ (os : List Oper) (rs : List (Option Eff)) (k : Nat) (b : Nat → Option AV), (∀ j, k ≤ j → L j = false) → tF L k os rs b = b
  | [], rs, k, b, _ => by cases rs <;> rfl
  | o :: os, [], k, b, _ => rfl
  | o :: os, r :: rs, k, b, h => by simp only [tF, h k (Nat.le_refl _)]; exact tF_none L os rs (k + 1) b fun j hj => h j (by omega)
theorem hF_none (L : Nat → Bool) : ∀ (rs : List (Option Eff)) (k : Nat) (b : Nat → Option ABlk), (∀ j, k ≤ j → L j = false) → hF L k rs b = b
  | [], k, b, _ => rfl
  | r :: rs, k, b, h => by simp only [hF, h k (Nat.le_refl _)]; exact hF_none L rs (k + 1) b fun j hj => h j (by omega)

theorem tF_pre (L : Nat → Bool) : ∀ (os : List Oper) (rs : List (Option Eff)) (k : Nat) (b : Nat → Option AV) (os' : List Oper) (rs' : List (Option Eff)), os.length = rs.length →
    tF L k (os ++ os') (rs ++ rs') b = tF L (k + os.length) os' rs' (tF L k os rs b)
  | [], [], k, b, os', rs', _ => by simp [tF]
  | o :: os, r :: rs, k, b, os', rs', h => by
    simp only [List.cons_append, tF, List.length_cons]
    rw [tF_pre L os rs (k + 1) _ os' rs' (by simpa using h)]
    congr 1; omega
  | [], r :: rs, k, b, os', rs', h => by simp at h
  | o :: os, [], k, b, os', rs', h => by simp at h
theorem hF_pre (L : Nat → Bool) : ∀ (rs : List (Option Eff)) (k : Nat) (b : Nat → Option ABlk) (rs' : List (Option Eff)),
    hF L k (rs ++ rs') b = hF L (k + rs.length) rs' (hF L k rs b)
  | [], k, b, rs' => by simp [hF]
  | r :: rs, k, b, rs' => by
    simp only [List.cons_append, hF, List.length_cons]
    rw [hF_pre L rs (k + 1) _ rs']
    congr 1; omega

theorem CRun.length {P : Program} {all : List Oper} : ∀ {l : List Oper} {s : St} {rs : List (Option Eff)} {s' : St}, CRun P all l s rs s' → rs.length = l.length
  | [], s, rs, s', h => by simp [h.1]
  | o :: os, s, [], s', h => h.elim
  | o :: os, s, some e :: rs, s', h => by obtain ⟨_, nx, _, _, h⟩ := h; simp [CRun.length h]
  | o :: os, s, none :: rs, s', h => by obtain ⟨_, h⟩ := h; simp [CRun.length h]

theorem CRun.nx {P : Program} {all : List Oper} : ∀ {l : List Oper} {s : St} {rs : List (Option Eff)} {s' : St}, CRun P all l s rs s' → s.nx ≤ s'.nx ∧ s'.n = s.n
  | [], s, rs, s', h => by rw [h.2]; simp
  | o :: os, s, [], s', h => h.elim
  | o :: os, s, some e :: rs, s', h => by obtain ⟨_, nx, _, h2, h⟩ := h; have := CRun.nx h; exact ⟨Nat.le_trans h2.1 this.1, this.2⟩
  | o :: os, s, none :: rs, s', h => by obtain ⟨_, h⟩ := h; exact CRun.nx (P := P) (all := all) (l := os) (s := { s with t := Env.put s.t o.dst (.tuple []) }) (rs := rs) (s' := s') h

theorem get_app (e : Eff) (H : Heap) : Heap.get (e.put ++ H.dels e.wr) = hApp (some e) (Heap.get H) := by
  funext n
  rw [get_append, get_dels]; rfl

theorem CRun.stands {P : Program} {all : List Oper} {s0 : St} {s' : St} : ∀ (l : List Oper) (s : St) (rs : List (Option Eff)) (pre : List Oper) (prs : List (Option Eff)),
    all = pre ++ l → pre.length = prs.length → look s.t = tF (fun j => decide (j < pre.length)) 0 pre prs (look s0.t) → Heap.get s.H = hF (fun j => decide (j < pre.length)) 0 prs (Heap.get s0.H) → s0.nx ≤ s.nx → s.n = s0.n → (∀ (j : Nat) (e : Eff) (m : Nat) (x : ABlk), prs[j]? = some (some e) → Heap.get e.put m = some x → m < s.nx) → (∀ m x, Heap.get s.H m = some x → m < s.nx) →
    CRun P all l s rs s' → ∀ (i : Nat) (o : Oper), l[i]? = some o → ∃ r s1 s2, rs[i]? = some r ∧ Stands P all s0 (prs ++ rs) s' (pre.length + i) o r s1 s2
  | [], s, rs, pre, prs, _, _, _, _, _, _, _, _, _, i, o, hi => by simp at hi
  | o :: os, s, [], pre, prs, _, _, _, _, _, _, _, _, h, _, _, _ => h.elim
  | o :: os, s, r :: rs, pre, prs, hall, hlen, ht, hh, hnx, hn, hpv, hnm, hr, i, oi, hi => by
    have hext : ∀ m, pre.length ≤ m → m ≤ pre.length → tF (fun j => decide (j < m)) 0 all (prs ++ r :: rs) (look s0.t) = tF (fun j => decide (j < pre.length)) 0 pre prs (look s0.t) := by
      intro m h1 h2
      have : m = pre.length := by omega
      subst this
      rw [hall, tF_pre _ _ _ _ _ _ _ hlen, tF_none _ _ _ _ _ (fun j hj => by simpa using hj)]
    have hexth : hF (fun j => decide (j < pre.length)) 0 (prs ++ r :: rs) (Heap.get s0.H) = hF (fun j => decide (j < pre.length)) 0 prs (Heap.get s0.H) := by
      rw [hF_pre, hF_none _ _ _ _ (fun j hj => by simp; omega)]
    -- the state behind
    have hnext : ∃ s2, look s2.t = (fun d => if o.dst = some d then some (valOf r) else look s.t d) ∧ Heap.get s2.H = hApp r (Heap.get s.H) ∧ s.nx ≤ s2.nx ∧ s2.n = s.n ∧ CRun P all os s2 rs s' ∧
        (∀ e, r = some e → LS P o s.ev (Heap.get s.H) e ∧ EffOk s e s2.nx) := by
      cases r with
      | some e =>
        obtain ⟨_, nx, h1, h2, h3⟩ := hr
        exact ⟨s.app o.dst e nx, by simp only [St.app]; rw [look_put]; rfl, by simp only [St.app]; rw [get_app], h2.1, rfl, h3, fun e' he => by cases he; exact ⟨h1, h2⟩⟩
      | none =>
        obtain ⟨_, h3⟩ := hr
        exact ⟨{ s with t := Env.put s.t o.dst (.tuple []) }, by rw [look_put]; rfl, rfl, Nat.le_refl _, rfl, h3, fun e' he => by cases he⟩
    obtain ⟨s2, n1, n2, n3, n4, n5, n6⟩ := hnext
    have hsp : ∀ (x : Nat → Option AV), tF (fun j => decide (j < pre.length + 1)) 0 (pre ++ [o]) (prs ++ [r]) x = fun d => if o.dst = some d then some (valOf r) else tF (fun j => decide (j < pre.length)) 0 pre prs x d := by
      intro x
      rw [tF_pre _ _ _ _ _ _ _ hlen]
      have hc : tF (fun j => decide (j < pre.length + 1)) 0 pre prs x = tF (fun j => decide (j < pre.length)) 0 pre prs x := by
        funext d
        refine tF_congr pre prs 0 _ _ rfl fun j o' h1 h2 _ => ?_
        rw [← hlen] at h2
        simp; omega
      rw [hc]
      simp [tF]
    have hsph : ∀ (x : Nat → Option ABlk), hF (fun j => decide (j < pre.length + 1)) 0 (prs ++ [r]) x = hApp r (hF (fun j => decide (j < pre.length)) 0 prs x) := by
      intro x
      rw [hF_pre]
      have hc : hF (fun j => decide (j < pre.length + 1)) 0 prs x = hF (fun j => decide (j < pre.length)) 0 prs x := by
        funext d
        refine hF_congr prs 0 _ _ rfl fun j r' h1 _ => ?_
        have h2 : j < prs.length := by
          rcases Nat.lt_or_ge j prs.length with h | h
          · exact h
          · simp [List.getElem?_eq_none h] at h1
        rw [← hlen] at h2
        simp; omega
      rw [hc]
      simp [hF, hlen]
    have ht2 : look s2.t = tF (fun j => decide (j < (pre ++ [o]).length)) 0 (pre ++ [o]) (prs ++ [r]) (look s0.t) := by
      rw [n1, ht]; simp only [List.length_append, List.length_cons, List.length_nil, Nat.zero_add]; rw [hsp]
    have hh2 : Heap.get s2.H = hF (fun j => decide (j < (pre ++ [o]).length)) 0 (prs ++ [r]) (Heap.get s0.H) := by
      rw [n2, hh]; simp only [List.length_append, List.length_cons, List.length_nil, Nat.zero_add]; rw [hsph]
    have hput : ∀ (e : Eff), r = some e → ∀ m x, Heap.get e.put m = some x → m < s2.nx := by
      intro e he m x hx
      by_cases hw : m ∈ e.wr
      · obtain ⟨b, hb⟩ := (n6 e he).2.2.2 m hw
        exact Nat.lt_of_lt_of_le (hnm m b hb) n3
      · exact ((n6 e he).2.2.1 m x hx hw).2
    have hnm2 : ∀ m x, Heap.get s2.H m = some x → m < s2.nx := by
      intro m x hx
      rw [n2] at hx
      cases r with
      | none => exact Nat.lt_of_lt_of_le (hnm m x hx) n3
      | some e =>
        simp only [hApp] at hx
        cases hg : Heap.get e.put m with
        | some y => exact hput e rfl m y hg
        | none =>
          simp only [hg] at hx
          by_cases hw : m ∈ e.wr
          · simp [hw] at hx
          · simp only [hw, if_false] at hx
            exact Nat.lt_of_lt_of_le (hnm m x hx) n3
    have hpv2 : ∀ (j : Nat) (e : Eff) (m : Nat) (x : ABlk), (prs ++ [r])[j]? = some (some e) → Heap.get e.put m = some x → m < s2.nx := by
      intro j e m x hg hx
      rcases Nat.lt_or_ge j prs.length with h | h
      · exact Nat.lt_of_lt_of_le (hpv j e m x (by simpa [List.getElem?_append, h] using hg) hx) n3
      · rcases Nat.eq_or_lt_of_le h with h | h
        · subst h
          simp only [List.getElem?_append_right (Nat.le_refl _), Nat.sub_self, List.getElem?_cons_zero, Option.some.injEq] at hg
          exact hput e hg m x hx
        · simp [List.getElem?_eq_none (l := prs ++ [r]) (i := j) (by simp; omega)] at hg
    cases i with
    | zero =>
      simp only [List.getElem?_cons_zero, Option.some.injEq] at hi
      subst hi
      refine ⟨r, s, s2, by simp, ⟨?_, ?_, ?_, ?_, n1, n2, ?_, n6, ⟨hnx, n3, (CRun.nx n5).1⟩, ?_, hn⟩⟩
      · rw [ht, Nat.add_zero, hext _ (Nat.le_refl _) (Nat.le_refl _)]
      · rw [hh, Nat.add_zero, hexth]
      · have e1 : ∀ L : Nat → Bool, (∀ j, pre.length + 1 ≤ j → L j = false) → ∀ x, tF L 0 all (prs ++ r :: rs) x = tF L 0 (pre ++ [o]) (prs ++ [r]) x := by
          intro L hL x
          rw [hall, show pre ++ o :: os = (pre ++ [o]) ++ os by simp, show prs ++ r :: rs = (prs ++ [r]) ++ rs by simp, tF_pre L (pre ++ [o]) (prs ++ [r]) 0 x os rs (by simp [hlen]),
            tF_none L os rs _ _ (fun j hj => hL j (by simpa using hj))]
        rw [ht2, Nat.add_zero, e1 _ (fun j hj => decide_eq_false (by omega))]
        simp only [List.length_append, List.length_cons, List.length_nil, Nat.zero_add]
      · have e1 : ∀ L : Nat → Bool, (∀ j, pre.length + 1 ≤ j → L j = false) → ∀ x, hF L 0 (prs ++ r :: rs) x = hF L 0 (prs ++ [r]) x := by
          intro L hL x
          rw [show prs ++ r :: rs = (prs ++ [r]) ++ rs by simp, hF_pre L (prs ++ [r]) 0 x rs, hF_none L rs _ _ (fun j hj => hL j (by simp at hj; omega))]
        rw [hh2, Nat.add_zero, e1 _ (fun j hj => decide_eq_false (by omega))]
        simp only [List.length_append, List.length_cons, List.length_nil, Nat.zero_add]
      · exact hr.1
      · intro j e m x hj hg hx
        refine hpv j e m x ?_ hx
        rw [Nat.add_zero, hlen] at hj
        simpa [List.getElem?_append, hj] using hg
    | succ i =>
      have := CRun.stands os s2 rs (pre ++ [o]) (prs ++ [r]) (by simp [hall]) (by simp [hlen]) ht2 hh2 (Nat.le_trans hnx n3) (n4.trans hn) hpv2 hnm2 n5 i oi (by simpa using hi)
      obtain ⟨r', s1', s2', h1, h2⟩ := this
      refine ⟨r', s1', s2', by simpa using h1, ?_⟩
      have e1 : (pre ++ [o]).length + i = pre.length + (i + 1) := by simp; omega
      have e2 : prs ++ [r] ++ rs = prs ++ r :: rs := by simp
      rwa [e1, e2] at h2

end Go.Proofs.Ytipbgaahpchhbaa
/- A region that draws its order: the rule. -/
namespace Go.Proofs.Ytipbgaahpchhbaa
open Go Go.RowKit

theorem FAt.draws {C : Ctx} {s : FS} {a : Act} {w w' : World} (ha : FAt C s a w) (h1 : w'.heap = w.heap) (h2 : w'.os = w.os) (h3 : w'.tape = w.tape) (h4 : w'.output = w.output) : FAt C s a w' := by
  obtain ⟨I, ρ, hx, hs, ho⟩ := ha.ex
  have hy : Ext (fun _ => False) w w' I I ρ ρ := ⟨h2, h3, h4, by rw [h1]; exact Nat.le_refl _, fun b _ _ => by rw [h1], fun _ h => h, fun _ h => .inl h, fun _ _ h => h⟩
  have hi : Imm (fun _ => False) w I := fun b hb => ⟨(hs.imm b hb).1, fun h => h⟩
  refine ⟨I, ρ, hx.trans hy (fun _ h => h.elim), ⟨hs.sz, fun d v h => ⟨(hs.tmps d v h).1, (hs.tmps d v h).2.mono hy hi⟩, hs.defers, ⟨fun n b h => (hs.heap.rel n b h).mono hy hi fun b' o r hr => ?_, hs.heap.inj⟩, fun b hb => ⟨by rw [h1]; exact (hs.imm b hb).1, (hs.imm b hb).2⟩, hs.fresh⟩, ho⟩
  obtain ⟨b1, o1, r1, g1, g2⟩ := (hs.heap.rel n b h).dom
  rw [hr] at g1; cases g1
  exact ⟨by rw [h1], g2⟩

/-- The state when some of the operations are done. -/
def fsL (s : St) (ops : List Oper) (rs : List (Option Eff)) (last : Nat) (L : Nat → Bool) : FS :=
  { n := s.n, t := tF L 0 ops rs (look s.t), H := hF L 0 rs (Heap.get s.H), fr := fun m => last ≤ m ∨ (s.nx ≤ m ∧ ∀ j e, L j = true → rs[j]? = some (some e) → Heap.get e.put m = none) }

theorem get_map {H : Heap} {n : Nat} {b : ABlk} (h : Heap.get H n = some b) : n ∈ H.map (·.1) := by
  induction H with
  | nil => simp [Heap.get] at h
  | cons x r ih =>
    obtain ⟨m, c⟩ := x
    simp only [Heap.get] at h
    by_cases hm : n = m
    · simp [hm]
    · simp only [hm, if_false] at h
      simp only [List.map_cons, List.mem_cons]
      exact .inr (ih h)

theorem touches_foot {r : Option Eff} {n : Nat} (h : Touches r n) : n ∈ (footOf r).2 := by
  obtain ⟨e, rfl, h⟩ := h
  simp only [footOf, Eff.foot, List.mem_append]
  rcases h with h | h
  · exact .inl h
  · cases hg : Heap.get e.put n with
    | none => exact absurd hg h
    | some b => exact .inr (get_map hg)

section
variable {P : Program} {ops : List Oper} {s s' : St} {rs : List (Option Eff)}

/-- For an operation that is ready: whoever meets it is done just if it stands ahead. -/
theorem meets_side (hlen : rs.length = ops.length) (hc : confOk ops (rs.map footOf) = true) {L : Nat → Bool}
    (hcl : ∀ (j : Nat) (o : Oper), ops[j]? = some o → L j = true → ∀ e, e ∈ o.after.toList → Region.binds .any e = true → L e.on = true)
    {i : Nat} {oi : Oper} {ri : Option Eff} (hi : ops[i]? = some oi) (gi : rs[i]? = some ri) (hn : L i = false) (hr : ∀ e, e ∈ oi.after.toList → Region.binds .any e = true → L e.on = true)
    {j : Nat} {oj : Oper} {rj : Option Eff} (hj : ops[j]? = some oj) (gj : rs[j]? = some rj) (hji : j ≠ i)
    (hm : ∀ x y : Oper, ∀ f g : Foot, (x = oi ∧ y = oj ∧ f = footOf ri ∧ g = footOf rj ∨ x = oj ∧ y = oi ∧ f = footOf rj ∧ g = footOf ri) → ¬ (Oper.apart ops.toArray x y = true ∧ heapApart f g = true)) :
    L j = decide (j < i) := by
  have gi' : (rs.map footOf)[i]? = some (footOf ri) := by simp [gi]
  have gj' : (rs.map footOf)[j]? = some (footOf rj) := by simp [gj]
  rcases Nat.lt_or_ge j i with h | h
  · rcases confOk_spec (by simp [hlen]) hc h hj hi gj' gi' with h1 | h1
    · rw [anc_done hcl i oi hi (.inr hr) h1]; simp [h]
    · exact absurd h1 (hm oj oi _ _ (.inr ⟨rfl, rfl, rfl, rfl⟩))
  · have hlt : i < j := by omega
    have : ¬ j < i := by omega
    simp only [this, decide_false]
    rcases confOk_spec (by simp [hlen]) hc hlt hi hj gi' gj' with h1 | h1
    · cases hL : L j with
      | false => rfl
      | true => rw [anc_done hcl j oj hj (.inl hL) h1] at hn; cases hn
    · exact absurd h1 (hm oi oj _ _ (.inl ⟨rfl, rfl, rfl, rfl⟩))

theorem get_some {α β : Type} {l : List α} {m : List β} (h : m.length = l.length) {j : Nat} {x : α} (hj : l[j]? = some x) : ∃ y, m[j]? = some y := by
  have : j < l.length := by
    rcases Nat.lt_or_ge j l.length with h | h
    · exact h
    · simp [List.getElem?_eq_none h] at hj
  exact ⟨m[j]'(by omega), by simp [h, this]⟩

theorem setL (listed : Array Bool) (i : Nat) (hi : i < listed.size) (j : Nat) : (listed.setIfInBounds i true).getD j false = if j = i then true else listed.getD j false := by
  by_cases h : j = i
  · subst h; simp [hi]
  · rw [getD_set_ne false (Ne.symm h)]; simp [h]

theorem count_set {n : Nat} {L L' : Nat → Bool} {i : Nat} (hi : i < n) (h0 : L i = false) (h1 : L' i = true) (h : ∀ j, j ≠ i → L' j = L j) :
    ((List.range n).filter fun j => !L' j).length + 1 = ((List.range n).filter fun j => !L j).length := by
  induction n with
  | zero => omega
  | succ n ih =>
    rw [List.range_succ, List.filter_append, List.filter_append, List.length_append, List.length_append]
    by_cases hin : i = n
    · subst hin
      have : (List.range i).filter (fun j => !L' j) = (List.range i).filter fun j => !L j := by
        refine List.filter_congr fun j hj => ?_
        rw [List.mem_range] at hj
        rw [h j (by omega)]
      rw [this]
      simp [h0, h1]
    · have := ih (by omega)
      have hn : L' n = L n := h n (fun h => hin h.symm)
      simp only [List.filter_cons, List.filter_nil, hn]
      split <;> simp <;> omega

theorem CRun.final {all : List Oper} : ∀ {l : List Oper} {s : St} {rs : List (Option Eff)} {s' : St}, CRun P all l s rs s' → ∀ k,
    look s'.t = tF (fun _ => true) k l rs (look s.t) ∧ Heap.get s'.H = hF (fun _ => true) k rs (Heap.get s.H)
  | [], s, rs, s', h, k => by obtain ⟨rfl, rfl⟩ := h; exact ⟨rfl, rfl⟩
  | o :: os, s, [], s', h, _ => h.elim
  | o :: os, s, some e :: rs, s', h, k => by
    obtain ⟨_, nx, _, h2, h⟩ := h
    obtain ⟨g1, g2⟩ := CRun.final h (k + 1)
    refine ⟨?_, ?_⟩
    · rw [g1]; simp only [tF, if_true, St.app, look_put, valOf]
    · rw [g2]; simp only [hF, if_true, St.app, get_app]
  | o :: os, s, none :: rs, s', h, k => by
    obtain ⟨_, h⟩ := h
    obtain ⟨g1, g2⟩ := CRun.final (all := all) (l := os) (s := { s with t := Env.put s.t o.dst (.tuple []) }) (rs := rs) (s' := s') h (k + 1)
    refine ⟨?_, ?_⟩
    · rw [g1]; simp only [tF, if_true, look_put, valOf]
    · rw [g2]; simp only [hF, if_true]; rfl

theorem AWp.regionD {id : Nat} {Q : Exit → St → Prop} (hm : P.follows .mixedOrders = true) (hd : (ops.all (dstOk s.n)) = true)
    (h : AOpsD P ops ops s [] (fun L s' => confOk ops L = true ∧ Q .normal s')) : AWp P (.region id ops.toArray true) s Q := by
  intro C a w ha
  obtain ⟨rs, s', hrun, hc, hQ⟩ := AOpsD.run ops s [] h
  simp only [List.nil_append] at hc
  have hlen := hrun.length
  have hfin := hrun.final 0
  have hnm0 : ∀ m x, Heap.get s.H m = some x → m < s.nx := by
    intro m x hx
    obtain ⟨I, ρ, _, hs, _⟩ := ha.ex
    obtain ⟨b, o, r, h1, _⟩ := (hs.heap.rel m x hx).dom
    rcases Nat.lt_or_ge m s.nx with h | h
    · exact h
    · rw [hs.fresh m h] at h1; cases h1
  have hst := fun i o hi => CRun.stands (P := P) (all := ops) (s0 := s) (s' := s') ops s rs [] [] rfl rfl (by simp [tF]) (by simp [hF]) (Nat.le_refl _) rfl (by simp) hnm0 hrun i o hi
  simp only [List.length_nil, Nat.zero_add, List.nil_append] at hst
  refine wp_region_any hm ?_
  have ha' : FAt C s.fs a { w with drawn := w.drawn + 1 } := ha.draws rfl rfl rfl rfl
  generalize hw' : ({ w with drawn := w.drawn + 1 } : World) = w' at ha'
  clear ha hw' w
  have hall : ∀ (listed : Array Bool), listed.size = ops.length → Region.ready .any ops.toArray listed = [] → ∀ j, j < ops.length → listed.getD j false = true := by
    intro listed hsz hr j
    induction j using Nat.strongRecOn with
    | _ j ih =>
      intro hj
      cases hL : listed.getD j false with
      | true => rfl
      | false =>
        exfalso
        have : j ∈ Region.ready .any ops.toArray listed := by
          rw [mem_ready]
          refine ⟨?_, ops[j], by simp [hj], fun e he hb => ?_⟩
          · have hj' : j < listed.size := by omega
            simpa [Array.getD_eq_getD_getElem?, hj'] using hL
          · have hlt := confOk_edges (by simp [hlen]) hc (j := j) (oj := ops[j]) (by simp [hj]) e (Array.mem_toList_iff.2 he) hb
            exact ih e.on hlt (by omega)
        rw [hr] at this; cases this
  have hend : ∀ (listed : Array Bool) (a : Act) (w : World), (∀ j, j < ops.length → listed.getD j false = true) →
      FAt C (fsL s ops rs s'.nx fun j => listed.getD j false) a w → ∃ s', Q .normal s' ∧ At C s' a w := by
    intro listed a w hj hA
    refine ⟨s', hQ, hA.weaken ?_ ?_ (fun n hn => .inl hn) hrun.nx.2⟩
    · intro d v hv
      refine Eq.trans ?_ hv
      show tF (fun j => listed.getD j false) 0 ops rs (look s.t) d = look s'.t d
      rw [hfin.1]
      refine tF_congr ops rs 0 _ _ rfl fun j o' h1 h2 _ => ?_
      simpa using hj j (by omega)
    · intro d v hv
      refine Eq.trans ?_ hv
      show hF (fun j => listed.getD j false) 0 rs (Heap.get s.H) d = Heap.get s'.H d
      rw [hfin.2]
      refine hF_congr rs 0 _ _ rfl fun j r h1 _ => ?_
      have h2 : j < rs.length := by
        rcases Nat.lt_or_ge j rs.length with h | h
        · exact h
        · simp [List.getElem?_eq_none h] at h1
      simpa using hj j (by omega)
  have key : ∀ (fuel : Nat) (listed : Array Bool) (a : Act) (w : World), listed.size = ops.length →
      (∀ (j : Nat) (o : Oper), ops[j]? = some o → listed.getD j false = true → ∀ e, e ∈ o.after.toList → Region.binds .any e = true → listed.getD e.on false = true) →
      ((List.range ops.length).filter fun j => !listed.getD j false).length ≤ fuel →
      FAt C (fsL s ops rs s'.nx fun j => listed.getD j false) a w →
      wpAny P .any ops.toArray (fun e a' w' => ∃ s', Q e s' ∧ At C s' a' w') fuel listed a w := by
    intro fuel
    induction fuel with
    | zero =>
      intro listed a w hsz hcl hcnt hA
      have hj : ∀ j, j < ops.length → listed.getD j false = true := by
        intro j hj
        cases hL : listed.getD j false with
        | true => rfl
        | false =>
          have : j ∈ (List.range ops.length).filter fun j => !listed.getD j false := by simp [hj]; simpa using hL
          have := List.length_pos_of_mem this
          omega
      refine ⟨?_, hend listed a w hj hA⟩
      rw [List.eq_nil_iff_forall_not_mem]
      intro j hjr
      rw [mem_ready] at hjr
      obtain ⟨h0, o, ho, _⟩ := hjr
      have hlt : j < ops.length := by
        rcases Nat.lt_or_ge j ops.length with h | h
        · exact h
        · simp [List.getElem?_eq_none h] at ho
      have h1 := hj j hlt
      simp [Array.getD_eq_getD_getElem?, hsz, hlt] at h0 h1
      rw [h0] at h1; cases h1
    | succ fuel ih =>
      intro listed a w hsz hcl hcnt hA
      refine ⟨fun hr => hend listed a w (hall listed hsz hr) hA, fun i hi => ?_⟩
      rw [mem_ready] at hi
      obtain ⟨h0, o, ho, hafter⟩ := hi
      have ho' : ops[i]? = some o := by simpa using ho
      have hlt : i < ops.length := by
        rcases Nat.lt_or_ge i ops.length with h | h
        · exact h
        · simp [List.getElem?_eq_none h] at ho'
      have hL : listed.getD i false = false := by
        simpa [Array.getD_eq_getD_getElem?, hsz, hlt] using h0
      have hr : ∀ e, e ∈ o.after.toList → Region.binds .any e = true → listed.getD e.on false = true := fun e he hb => hafter e (Array.mem_toList_iff.1 he) hb
      obtain ⟨r, s1, s2, hri, hS⟩ := hst i o ho'
      -- who meets this operation
      have side : ∀ (j : Nat) (oj : Oper) (rj : Option Eff), ops[j]? = some oj → rs[j]? = some rj → j ≠ i →
          (∀ x y : Oper, ∀ f g : Foot, (x = o ∧ y = oj ∧ f = footOf r ∧ g = footOf rj ∨ x = oj ∧ y = o ∧ f = footOf rj ∧ g = footOf r) → ¬ (Oper.apart ops.toArray x y = true ∧ heapApart f g = true)) →
          listed.getD j false = decide (j < i) :=
        fun j oj rj g1 g2 g3 g4 => meets_side hlen hc (L := fun j => listed.getD j false) hcl ho' hri hL hr g1 g2 g3 g4
      have sideDst : ∀ (j : Nat) (oj : Oper) (d : Nat), ops[j]? = some oj → oj.dst = some d → (d ∈ o.looksAt ops.toArray ∨ o.dst = some d) → j ≠ i → listed.getD j false = decide (j < i) := by
        intro j oj d g1 g2 g3 g4
        obtain ⟨rj, grj⟩ := get_some hlen g1
        refine side j oj rj g1 grj g4 ?_
        rintro x y f g (⟨rfl, rfl, _, _⟩ | ⟨rfl, rfl, _, _⟩) ⟨hap, _⟩
        · obtain ⟨k1, k2, k3⟩ := Oper.apart_spec hap
          rcases g3 with g3 | g3
          · exact k3 d g2 g3
          · exact k2 d g3 g2
        · obtain ⟨k1, k2, k3⟩ := Oper.apart_spec hap
          rcases g3 with g3 | g3
          · exact k1 d g2 g3
          · exact k2 d g2 g3
      have sideH : ∀ (j : Nat) (rj : Option Eff) (n : Nat), rs[j]? = some rj → Touches rj n → (n ∈ (footOf r).1 ∨ n ∈ (footOf r).2) → j ≠ i → listed.getD j false = decide (j < i) := by
        intro j rj n g1 g2 g3 g4
        obtain ⟨oj, goj⟩ := get_some (l := rs) (m := ops) hlen.symm g1
        refine side j oj rj goj g1 g4 ?_
        have g2' := touches_foot g2
        rintro x y f g (⟨rfl, rfl, rfl, rfl⟩ | ⟨rfl, rfl, rfl, rfl⟩) ⟨_, hap⟩ <;>
          (simp only [heapApart, Bool.and_eq_true, Bool.not_eq_true'] at hap
           rcases g3 with g3 | g3
           · first | exact meets_false hap.2 g3 g2' | exact meets_false hap.1.2 g2' g3
           · first | exact meets_false hap.1.1 g3 g2' | exact meets_false hap.1.1 g2' g3)
      -- what it reads stands as in the text's order
      have hslot : ∀ d, (d ∈ o.looksAt ops.toArray ∨ o.dst = some d) → (tF (fun j => listed.getD j false) 0 ops rs (look s.t)) d = look s1.t d := by
        intro d hd
        rw [hS.t]
        refine tF_congr ops rs 0 _ _ rfl fun j oj g1 g2 g3 => ?_
        simp only [Nat.zero_add]
        by_cases hji : j = i
        · subst hji; rw [hL]; simp
        · exact sideDst j oj d g1 g3 hd hji
      have hname : ∀ n, (n ∈ (footOf r).1 ∨ n ∈ (footOf r).2) → (hF (fun j => listed.getD j false) 0 rs (Heap.get s.H)) n = Heap.get s1.H n := by
        intro n hn
        rw [hS.h]
        refine hF_congr rs 0 _ _ rfl fun j rj g1 g2 => ?_
        simp only [Nat.zero_add]
        by_cases hji : j = i
        · subst hji; rw [hL]; simp
        · exact sideH j rj n g1 g2 hn hji
      -- the state behind
      have hT' : tF (fun j => (listed.setIfInBounds i true).getD j false) 0 ops rs (look s.t) = fun d => if o.dst = some d then some (valOf r) else tF (fun j => listed.getD j false) 0 ops rs (look s.t) d := by
        funext d
        by_cases hd : o.dst = some d
        · simp only [hd, if_true]
          have : look s2.t d = some (valOf r) := by rw [hS.app]; simp [hd]
          rw [← this, hS.t1]
          refine tF_congr ops rs 0 _ _ rfl fun j oj g1 g2 g3 => ?_
          simp only [Nat.zero_add]
          rw [setL _ _ (by omega)]
          by_cases hji : j = i
          · subst hji; simp
          · simp only [hji, if_false]
            rw [sideDst j oj d g1 g3 (.inr hd) hji]
            simp only [decide_eq_decide]; omega
        · simp only [hd, if_false]
          refine tF_congr ops rs 0 _ _ rfl fun j oj g1 g2 g3 => ?_
          simp only [Nat.zero_add]
          rw [setL _ _ (by omega)]
          by_cases hji : j = i
          · subst hji; rw [ho'] at g1; cases g1; exact absurd g3 hd
          · simp [hji]
      have hH' : hF (fun j => (listed.setIfInBounds i true).getD j false) 0 rs (Heap.get s.H) = hApp r (hF (fun j => listed.getD j false) 0 rs (Heap.get s.H)) := by
        funext n
        by_cases hn : Touches r n
        · rw [hApp_near hn (b' := Heap.get s1.H), ← hS.apph, hS.h1]
          refine hF_congr rs 0 _ _ rfl fun j rj g1 g2 => ?_
          simp only [Nat.zero_add]
          rw [setL _ _ (by omega)]
          by_cases hji : j = i
          · subst hji; simp
          · simp only [hji, if_false]
            rw [sideH j rj n g1 g2 (.inr (touches_foot hn)) hji]
            simp only [decide_eq_decide]; omega
        · rw [hApp_far hn]
          refine hF_congr rs 0 _ _ rfl fun j rj g1 g2 => ?_
          simp only [Nat.zero_add]
          rw [setL _ _ (by omega)]
          by_cases hji : j = i
          · subst hji; rw [hri] at g1; cases g1; exact absurd g2 hn
          · simp [hji]
      have hdst : ∀ d, o.dst = some d → d < s.n := by
        rw [List.all_eq_true] at hd
        exact dstOk_spec (hd o (List.mem_of_getElem? ho'))
      have next : ∀ a' w', FAt C (fsL s ops rs s'.nx fun j => (listed.setIfInBounds i true).getD j false) a' w' →
          wpAny P .any ops.toArray (fun e a' w' => ∃ s', Q e s' ∧ At C s' a' w') fuel (listed.setIfInBounds i true) a' w' := by
        intro a' w' hA'
        refine ih _ a' w' (by simp [hsz]) ?_ ?_ hA'
        · intro j oj g1 g2 e ge hb
          rw [setL _ _ (by omega)] at g2 ⊢
          by_cases hji : j = i
          · subst hji
            rw [ho'] at g1; cases g1
            have := hr e ge hb
            by_cases he : e.on = j
            · rw [if_pos he]
            · rw [if_neg he]; exact this
          · simp only [hji, if_false] at g2
            have := hcl j oj g1 g2 e ge hb
            by_cases he : e.on = i
            · rw [if_pos he]
            · rw [if_neg he]; exact this
        · have := count_set (n := ops.length) (L := fun j => listed.getD j false) (L' := fun j => (listed.setIfInBounds i true).getD j false) hlt hL (by simp [hsz, hlt]) (fun j hj => by
            show (listed.setIfInBounds i true).getD j false = _
            rw [setL _ _ (by omega)]; simp [hj])
          omega
      -- its guard
      have hguard : Region.wanted o (yielded ops.toArray a.tmps) = (match r with | some _ => true | none => false) := by
        have hg := hS.guard
        cases hgo : o.guard with
        | none =>
          simp only [hgo] at hg
          cases r with
          | none => exact absurd rfl hg
          | some e => simp [Region.wanted, hgo]
        | some jw =>
          obtain ⟨g, want⟩ := jw
          simp only [hgo] at hg
          obtain ⟨b, hb, hbw⟩ := hg
          have hy : yielded ops.toArray a.tmps g = b := by
            cases hgd : (ops[g]?).bind (·.dst) with
            | none => simp [hgd, gdBool] at hb
            | some d =>
              simp only [hgd, Option.bind_some] at hb
              have hlook : d ∈ o.looksAt ops.toArray := by
                simp [Oper.looksAt, hgo, hgd]
              obtain ⟨I, ρ, hx, hs, hoo⟩ := hA.ex
              have hbv : gdBool ((fsL s ops rs s'.nx fun j => listed.getD j false).t d) = some b := by
                have e := hslot d (.inl hlook)
                exact (congrArg gdBool e).trans hb
              cases hv : (fsL s ops rs s'.nx fun j => listed.getD j false).t d with
              | none => rw [hv] at hbv; simp [gdBool] at hbv
              | some v =>
                rw [hv] at hbv
                obtain ⟨k1, k2⟩ := hs.tmps d v hv
                have k3 := gdBool_rel hbv k2
                have k4 : a.tmps[d]? = some (a.tmps.getD d Go.undef) := by
                  simp [Array.getD_eq_getD_getElem?, Array.getElem?_eq_getElem k1]
                unfold yielded
                simp only [List.getElem?_toArray, hgd, Option.bind_some, k4]
                exact k3
          have : Region.wanted o (yielded ops.toArray a.tmps) = (b == some want) := by simp [Region.wanted, hgo, hy]
          rw [this]
          cases r with
          | none => simpa using hbw
          | some e => simpa using hbw
      unfold wpOp
      simp only [List.getElem?_toArray, ho', hguard]
      cases r with
      | none =>
        simp only [Bool.false_eq_true, if_false]
        refine next _ _ ?_
        have := hA.skip o.dst hdst
        have e1 : (fsL s ops rs s'.nx fun j => (listed.setIfInBounds i true).getD j false).t = fun d => if o.dst = some d then some (AV.tuple []) else (fsL s ops rs s'.nx fun j => listed.getD j false).t d := hT'
        refine this.weaken (fun d v hv => by rw [e1] at hv; exact hv) (fun n b hb => ?_) (fun n hn => ?_) rfl
        · have : (fsL s ops rs s'.nx fun j => (listed.setIfInBounds i true).getD j false).H = hF (fun j => listed.getD j false) 0 rs (Heap.get s.H) := hH'
          rw [this] at hb; exact hb
        · rcases hn with hn | ⟨hn1, hn2⟩
          · exact .inl hn
          · refine .inr ⟨hn1, fun j e hj => hn2 j e ?_⟩
            show (listed.setIfInBounds i true).getD j false = true
            exact getD_set_true hj
      | some e =>
        simp only [if_true]
        refine .inl ?_
        obtain ⟨hls, hok⟩ := hS.ls e rfl
        refine FAt.step (fr := (fsL s ops rs s'.nx fun j => (listed.setIfInBounds i true).getD j false).fr) hA hls ?_ ?_ ⟨?_, ?_, ?_⟩ hdst fun a' w' hA' => next a' w' ?_
        · intro x hx
          cases x with
          | tmp d =>
            have : d ∈ o.looksAt ops.toArray := by
              unfold Oper.looksAt
              exact List.mem_append_left _ (List.mem_filterMap.2 ⟨.tmp d, by simpa using hx, rfl⟩)
            exact (hslot d (.inl this)).symm
          | _ => rfl
        · intro n hn
          refine (hname n ?_).symm
          simp only [footOf, Eff.foot, List.mem_append]
          rcases hn with hn | hn
          · exact .inl hn
          · exact .inr (.inl hn)
        · rintro n (hn | ⟨hn1, hn2⟩)
          · refine ⟨.inl hn, fun x hg => ?_⟩
            by_cases hw : n ∈ e.wr
            · exact hw
            · have := (hok.2.1 n x hg hw).2; have := hS.nx.2.2; omega
          · refine ⟨.inr ⟨hn1, fun j e hj => hn2 j e ?_⟩, fun x hg => absurd (hn2 i e ?_ hri) (by rw [hg]; simp)⟩
            · show (listed.setIfInBounds i true).getD j false = true
              exact getD_set_true hj
            · show (listed.setIfInBounds i true).getD i false = true
              simp [hsz, hlt]
        · intro n x hg hw
          obtain ⟨k1, k2⟩ := hok.2.1 n x hg hw
          refine .inr ⟨Nat.le_trans hS.nx.1 k1, fun j e' hj gj => ?_⟩
          have hj : listed.getD j false = true := hj
          cases hg' : Heap.get e'.put n with
          | none => rfl
          | some x' =>
            exfalso
            have hji : j ≠ i := by intro h; subst h; rw [hL] at hj; cases hj
            have ht : Touches (some e') n := ⟨e', rfl, .inr (by simp [hg'])⟩
            have := sideH j (some e') n gj ht (.inr (touches_foot ⟨e, rfl, .inr (by simp [hg])⟩)) hji
            rw [hj] at this
            have hlt' : j < i := by simpa using this.symm
            have := hS.prev j e' n x' hlt' gj hg'
            omega
        · intro n hn
          obtain ⟨b, hb⟩ := hok.2.2 n hn
          exact ⟨b, (hname n (.inr (by simp only [footOf, Eff.foot, List.mem_append]; exact .inl hn))).trans hb⟩
        · have e1 : (fsL s ops rs s'.nx fun j => listed.getD j false).app o.dst e (fsL s ops rs s'.nx fun j => (listed.setIfInBounds i true).getD j false).fr = fsL s ops rs s'.nx fun j => (listed.setIfInBounds i true).getD j false := by
            show FS.mk _ _ _ _ = FS.mk _ _ _ _
            congr 1
            · exact hT'.symm
            · exact hH'.symm
          rw [← e1]; exact hA'
  have hnone : ∀ j, (Array.replicate ops.length false).getD j false = false := by
    intro j
    by_cases hj : j < ops.length <;> simp [Array.getD_eq_getD_getElem?, Array.getElem?_replicate, hj]
  have := key ops.length (Array.replicate ops.length false) a w' (by simp) (fun j o _ h => by rw [hnone] at h; cases h) (by
    refine Nat.le_trans (List.length_filter_le _ _) (by simp)) ?_
  · simpa using this
  · refine ha'.weaken (fun d v hv => ?_) (fun d v hv => ?_) (fun n hn => ?_) rfl
    · have : (fsL s ops rs s'.nx fun j => (Array.replicate ops.length false).getD j false).t = look s.t := tF_none _ _ _ _ _ fun j _ => hnone j
      rw [this] at hv; exact hv
    · have : (fsL s ops rs s'.nx fun j => (Array.replicate ops.length false).getD j false).H = Heap.get s.H := hF_none _ _ _ _ fun j _ => hnone j
      rw [this] at hv; exact hv
    · rcases hn with hn | hn
      · exact Nat.le_trans hrun.nx.1 hn
      · exact hn.1
end
end Go.Proofs.Ytipbgaahpchhbaa
/- Operations that only make a value. -/
namespace Go.Proofs.Ytipbgaahpchhbaa
open Go Go.RowKit

def szOf (P : Program) (T : TypeId) : Option Nat := (P.info? T).map (·.size)

theorem run_underlying' {P : Program} {t : TypeId} {d : TypeDesc} (h : P.underlying t = some d) (w : World) : (underlying t).run P w = .ok d w := by
  simp [underlying, h]
theorem run_sizeOf' {P : Program} {t n : Nat} (h : szOf P t = some n) (w : World) : (sizeOf t).run P w = .ok n w := by
  unfold szOf at h
  cases hi : P.info? t with
  | none => simp [hi] at h
  | some i => simp [hi] at h; simp [sizeOf, typeInfo, hi, h]

def isAggD : TypeDesc → Bool
  | .struct _ | .array _ _ => true
  | _ => false

theorem run_isAgg' {P : Program} {t : TypeId} {d : TypeDesc} (h : P.underlying t = some d) (w : World) : (isAgg t).run P w = .ok (isAggD d) w := by
  unfold isAgg
  rw [Sem.run_bind, run_underlying' h]
  cases d <;> rfl

theorem add_mk (b o k : Nat) : (⟨b, o, none⟩ : Addr).add k = ⟨b, o + k, none⟩ := by
  unfold Addr.add
  by_cases h : k = 0 <;> simp [h]

section
variable {P : Program} {o : Oper} {ev : Operand → Option AV} {H : Nat → Option ABlk} {v : AV} {rd : List Nat}

/-- An operation that only makes a value. -/
theorem LS.value (h : ∀ (a : Act) (w : World) (I : Nat → Prop) (ρ : Rho), (∀ x, x ∈ o.op.operands → ∀ v, ev x = some v → VRel w I ρ v (a.eval x)) →
    (∀ n, n ∈ rd → ∀ b, H n = some b → BRel w I ρ n b) → ∃ c, VRel w I ρ v c ∧ (execOp a.eval o).run P w = .ok (.value c) w) : LS P o ev H ⟨v, rd, [], []⟩ := by
  intro a w I ρ hd hev hrd hinj himm hfr K Q hK
  obtain ⟨c, hc, hrun⟩ := h a w I ρ hev (fun n hn b hb => hrd n (.inl hn) b hb)
  unfold Oper.wp
  rw [hrun]
  refine hK c w I ρ ⟨hc, fun n b h => by simp [Heap.get] at h, fun n m x y _ h => by simp [Heap.get] at h, fun n x h => by simp [Heap.get] at h, Ext.refl _ _ _ _, fun b hb => (himm b hb).1, fun n h _ => h⟩

theorem VRel.cell {w : World} {I : Nat → Prop} {ρ : Rho} {x : AV} {c : Value} (h : CRel w I ρ x c) (h1 : ∀ vs, x ≠ .tuple vs) (h2 : ∀ vs, x ≠ .agg vs) : VRel w I ρ x c := by
  by_cases hu : x = .undef
  · subst hu; trivial
  · rw [VRel_eq x h1, XRel_eq x h1 h2 hu]; exact h

theorem ls_move {x : Operand} (ho : o.op = .move x ∨ o.op = .assign x) (hx : ev x = some v) : LS P o ev H ⟨v, [], [], []⟩ := by
  refine LS.value fun a w I ρ hev _ => ⟨a.eval x, hev x (by rcases ho with h | h <;> simp [h, Op.operands]) v hx, ?_⟩
  rcases ho with h | h <;> simp [execOp, h]

theorem ls_pick {c x y : Operand} {b : Bool} (ho : o.op = .pick c x y) (hc : ev c = some (.bool b)) (hx : ev (if b then x else y) = some v) : LS P o ev H ⟨v, [], [], []⟩ := by
  refine LS.value fun a w I ρ hev _ => ?_
  have hb := (hev c (by simp [ho, Op.operands]) _ hc).bool_inv
  refine ⟨a.eval (if b then x else y), hev _ (by cases b <;> simp [ho, Op.operands]) v hx, ?_⟩
  simp only [execOp, ho, hb, asBool, Sem.run_bind, Sem.run_pure, Result.andThen_ok]
  cases b <;> rfl

/-! #### what a related value is -/
section
variable {w : World} {I : Nat → Prop} {ρ : Rho} {c : Value}
theorem inv_int {k : IntKind} {n : Int} (h : VRel w I ρ (.int k n) c) : c = .int k n := by
  change CRel w I ρ _ c at h; cases h; rfl
theorem inv_str {s : ByteArray} (h : VRel w I ρ (.str s) c) : c = .string s := by
  change CRel w I ρ _ c at h; cases h; rfl
theorem inv_ptr {n off : Nat} {p : List Nat} (h : VRel w I ρ (.ptr n off p) c) : ∃ b o r, ρ n = some (b, o, r) ∧ c = .pointer (some ⟨b, o + off, none⟩) := by
  change CRel w I ρ _ c at h; cases h; exact ⟨_, _, _, ‹_›, rfl⟩
theorem inv_vptr {root : AV} {off : Nat} {p : List Nat} (h : VRel w I ρ (.vptr root off p) c) : ∃ (b o : Nat) (f : Nat → Value), I b ∧ (∀ k, k < root.size → w.cell? ⟨b, o + k, none⟩ = some (f k)) ∧
    (∀ k, k < root.size → CRel w I ρ (root.flat.getD k .undef) (f k)) ∧ c = .pointer (some ⟨b, o + off, none⟩) := by
  change CRel w I ρ _ c at h; cases h; exact ⟨_, _, _, ‹_›, ‹_›, ‹_›, rfl⟩
theorem inv_nilsl (h : VRel w I ρ .nilsl c) : c = .slice none 0 0 := by
  change CRel w I ρ _ c at h; cases h; rfl
theorem inv_sl {n off : Nat} {p : List Nat} {i len cap wd : Nat} (h : VRel w I ρ (.sl n off p i len cap wd) c) : (len = 0 ∧ cap = 0 ∧ ∃ a, c = .slice (some a) 0 0) ∨
    ∃ b o r k, ρ n = some (b, o, r) ∧ len ≤ cap ∧ cap ≤ k ∧ off + k * wd ≤ r ∧ c = .slice (some ⟨b, o + off, none⟩) len k := by
  change CRel w I ρ _ c at h; cases h
  · exact .inr ⟨_, _, _, _, ‹_›, ‹_›, ‹_›, ‹_›, rfl⟩
  · exact .inl ⟨rfl, rfl, _, rfl⟩
theorem inv_vsl {es : List AV} {len : Nat} (h : VRel w I ρ (.vsl es len) c) : (es = [] ∧ len = 0 ∧ ∃ a k, c = .slice a 0 k) ∨
    ∃ (b o k : Nat) (f : Nat → Value), I b ∧ len ≤ es.length ∧ es.length ≤ k ∧ (∀ j, j < AV.sizeL es → w.cell? ⟨b, o + j, none⟩ = some (f j)) ∧ (∀ j, j < AV.sizeL es → CRel w I ρ ((AV.flatL es).getD j .undef) (f j)) ∧ c = .slice (some ⟨b, o, none⟩) len k := by
  change CRel w I ρ _ c at h; cases h
  · exact .inl ⟨rfl, rfl, _, _, rfl⟩
  · exact .inr ⟨_, _, _, _, ‹_›, ‹_›, ‹_›, ‹_›, ‹_›, rfl⟩
theorem inv_agg {vs : List AV} (h : VRel w I ρ (.agg vs) c) : ∃ cs : Array Value, c = .agg cs ∧ CsRel w I ρ (AV.flatL vs) cs.toList := h
theorem inv_tuple {vs : List AV} (h : VRel w I ρ (.tuple vs) c) : ∃ cs : Array Value, c = .tuple cs ∧ cs.size = vs.length ∧ ∀ k, k < vs.length → XRel w I ρ (vs.getD k .undef) (cs.getD k Go.undef) := h
theorem inv_func {f : Nat} {caps : List AV} (h : VRel w I ρ (.func f caps) c) : ∃ cs : Array Value, c = .func (.func f) #[] cs ∧ cs.size = caps.length ∧ ∀ k, k < caps.length → CRel w I ρ (caps.getD k .undef) (cs.getD k Go.undef) := by
  change CRel w I ρ _ c at h; cases h; exact ⟨_, rfl, ‹_›, ‹_›⟩
end

/-- A scalar: a value of one cell that is no tuple and not unknown. -/
def AV.cell1 : AV → Bool
  | .agg _ | .tuple _ | .undef => false
  | _ => true

/-- May a value be read as one of a type? -/
def LoadOk (P : Program) (T : TypeId) (u : AV) : Prop :=
  match u with
  | .agg vs => (∃ d, P.underlying T = some d ∧ isAggD d = true) ∧ szOf P T = some (AV.sizeL vs)
  | .tuple _ => False
  | _ => ∃ d, P.underlying T = some d ∧ isAggD d = false

/-- Cells in memory that are related to a value's. -/
theorem run_loadVar' {w : World} {I : Nat → Prop} {ρ : Rho} {T : TypeId} {u : AV} {b off : Nat} {f : Nat → Value} (hl : LoadOk P T u) (hc : ∀ k, k < u.size → w.cell? ⟨b, off + k, none⟩ = some (f k))
    (hr : ∀ k, k < u.size → CRel w I ρ (u.flat.getD k .undef) (f k)) : ∃ c, VRel w I ρ u c ∧ (loadVar T ⟨b, off, none⟩).run P w = .ok c w := by
  by_cases hagg : ∃ vs, u = .agg vs
  · obtain ⟨vs, rfl⟩ := hagg
    obtain ⟨⟨d, hd, hda⟩, hs⟩ := hl
    refine ⟨.agg ((List.range (AV.sizeL vs)).map f).toArray, ⟨_, rfl, ?_, ?_⟩, ?_⟩
    · simp [AV.flatL_length]
    · intro k hk
      rw [AV.flatL_length] at hk
      have := hr k hk
      simpa [List.getD_eq_getElem?_getD, hk, AV.flat] using this
    · unfold loadVar
      simp only [Sem.run_bind, run_isAgg' hd, hda, Result.andThen_ok, if_true, run_sizeOf' hs]
      rw [run_loadCells w ⟨b, off, none⟩ (AV.sizeL vs) f (fun j hj => by rw [add_mk]; exact hc j hj)]
      simp
  · have h1 : ∀ vs, u ≠ .agg vs := fun vs h => hagg ⟨vs, h⟩
    have h2 : ∀ vs, u ≠ .tuple vs := fun vs h => by subst h; exact hl
    have hsz : u.size = 1 := by cases u <;> first | rfl | exact absurd rfl (h1 _)
    have hfl : u.flat = [u] := by cases u <;> first | rfl | exact absurd rfl (h1 _)
    have hd : ∃ d, P.underlying T = some d ∧ isAggD d = false := by
      cases u <;> first | exact hl | exact absurd rfl (h1 _) | exact absurd rfl (h2 _)
    obtain ⟨d, hd, hda⟩ := hd
    have h0 := hc 0 (by omega)
    have hr0 := hr 0 (by omega)
    rw [hfl] at hr0
    refine ⟨f 0, VRel.cell hr0 h2 h1, ?_⟩
    unfold loadVar
    simp only [Sem.run_bind, run_isAgg' hd, hda, Result.andThen_ok, if_false, Bool.false_eq_true, Sem.run_ite, run_load, Nat.add_zero] at h0 ⊢
    rw [h0]

theorem getD_mid {α : Type} (pre x post : List α) (d : α) (k : Nat) (hk : k < x.length) : (pre ++ x ++ post).getD (pre.length + k) d = x.getD k d := by
  rw [List.getD_eq_getElem?_getD, List.getD_eq_getElem?_getD, List.append_assoc, List.getElem?_append_right (Nat.le_add_right _ _), Nat.add_sub_cancel_left, List.getElem?_append_left hk]

theorem ls_load {T : TypeId} {x : Operand} {n off : Nat} {p : List Nat} {root u : AV} (ho : o.op = .load T x) (hx : ev x = some (.ptr n off p)) (hH : H n = some (.cells root)) (hp : root.proj p = some u)
    (hf : root.offOf p = off) (hl : LoadOk P T u) : LS P o ev H ⟨u, [n], [], []⟩ := by
  refine LS.value fun a w I ρ hev hrd => ?_
  obtain ⟨b, base, r, hr, hc⟩ := inv_ptr (hev x (by simp [ho, Op.operands]) _ hx)
  obtain ⟨b', o', r', hr', hI, hlies⟩ := hrd n (by simp) _ hH
  rw [hr] at hr'; cases hr'
  obtain ⟨arr, E, fz, h1, h2, h3, h4, h5⟩ := hlies.ex
  obtain ⟨pre, post, g1, g2, _⟩ := AV.flat_at p root u hp
  have hlen : root.flat.length = pre.length + u.size + post.length := by rw [g2]; simp [AV.flat_length]; omega
  obtain ⟨c, k1, k2⟩ := run_loadVar' (P := P) (w := w) (I := I) (ρ := ρ) (T := T) (u := u) (b := b) (off := base + off) (f := fun k => arr.getD (base + off + k) Go.undef) hl
    (fun k hk => by
      have hlt : base + off + k < arr.size := by rw [h2]; have := h4; rw [hlen] at this; rw [← hf, ← g1]; omega
      simp [World.cell?, h1, Array.getD_eq_getD_getElem?, Array.getElem?_eq_getElem hlt])
    (fun k hk => by
      have := h5 (pre.length + k) (by rw [hlen]; omega)
      rw [g2, getD_mid _ _ _ _ _ (by rw [AV.flat_length]; exact hk), g1, hf] at this
      rwa [Nat.add_assoc])
  refine ⟨c, k1, ?_⟩
  simp only [execOp, ho, hc, Instr.loadAt, Instr.sureAddr, pure_bind, Sem.run_bind, k2, Result.andThen_ok, Sem.run_pure]

theorem ls_loadv {T : TypeId} {x : Operand} {off : Nat} {p : List Nat} {root u : AV} (ho : o.op = .load T x) (hx : ev x = some (.vptr root off p)) (hp : root.proj p = some u)
    (hf : root.offOf p = off) (hl : LoadOk P T u) : LS P o ev H ⟨u, [], [], []⟩ := by
  refine LS.value fun a w I ρ hev hrd => ?_
  obtain ⟨b, base, f, hI, hcell, hrel, hc⟩ := inv_vptr (hev x (by simp [ho, Op.operands]) _ hx)
  obtain ⟨pre, post, g1, g2, _⟩ := AV.flat_at p root u hp
  have hlen : root.size = pre.length + u.size + post.length := by rw [← AV.flat_length, g2]; simp [AV.flat_length]; omega
  obtain ⟨c, k1, k2⟩ := run_loadVar' (P := P) (w := w) (I := I) (ρ := ρ) (T := T) (u := u) (b := b) (off := base + off) (f := fun k => f (off + k)) hl
    (fun k hk => by
      have := hcell (off + k) (by rw [hlen, ← hf, ← g1]; omega)
      rwa [← Nat.add_assoc] at this)
    (fun k hk => by
      have := hrel (pre.length + k) (by rw [hlen]; omega)
      rw [g2, getD_mid _ _ _ _ _ (by rw [AV.flat_length]; exact hk), g1, hf] at this
      exact this)
  refine ⟨c, k1, ?_⟩
  simp only [execOp, ho, hc, Instr.loadAt, Instr.sureAddr, pure_bind, Sem.run_bind, k2, Result.andThen_ok, Sem.run_pure]

/-! #### addresses -/
theorem run_fieldPlace {w : World} {b off : Nat} {f : Field} {n : Nat} (hs : szOf P f.type = some n) (hn : n ≠ 0) : (fieldPlace ⟨b, off, none⟩ f).run P w = .ok ⟨b, off + f.offset, none⟩ w := by
  simp [fieldPlace, run_sizeOf' hs, hn, add_mk]

theorem ls_fieldAddr {S : TypeId} {x : Operand} {j n off : Nat} {p : List Nat} {fs : Array Field} {f : Field} {k : Nat} (ho : o.op = .fieldAddr S x j) (hx : ev x = some (.ptr n off p))
    (hS : P.underlying S = some (.struct fs)) (hf : fs[j]? = some f) (hs : szOf P f.type = some k) (hk : k ≠ 0) : LS P o ev H ⟨.ptr n (off + f.offset) (p ++ [j]), [], [], []⟩ := by
  refine LS.value fun a w I ρ hev hrd => ?_
  obtain ⟨b, base, r, hr, hc⟩ := inv_ptr (hev x (by simp [ho, Op.operands]) _ hx)
  refine ⟨.pointer (some ⟨b, base + (off + f.offset), none⟩), VRel.cell (CRel.ptr _ _ _ _ _ _ hr) (by simp) (by simp), ?_⟩
  simp only [execOp, ho, hc, Instr.fieldAt, Instr.sureAddr, Sem.run_bind, run_underlying' hS, Result.andThen_ok, hf, pure_bind, run_fieldPlace hs hk, Sem.run_pure, Nat.add_assoc]

theorem ls_fieldAddrv {S : TypeId} {x : Operand} {j off : Nat} {root : AV} {p : List Nat} {fs : Array Field} {f : Field} {k : Nat} (ho : o.op = .fieldAddr S x j) (hx : ev x = some (.vptr root off p))
    (hS : P.underlying S = some (.struct fs)) (hf : fs[j]? = some f) (hs : szOf P f.type = some k) (hk : k ≠ 0) : LS P o ev H ⟨.vptr root (off + f.offset) (p ++ [j]), [], [], []⟩ := by
  refine LS.value fun a w I ρ hev hrd => ?_
  obtain ⟨b, base, g, hI, h1, h2, hc⟩ := inv_vptr (hev x (by simp [ho, Op.operands]) _ hx)
  refine ⟨.pointer (some ⟨b, base + (off + f.offset), none⟩), VRel.cell (CRel.vptr _ _ _ _ _ g hI h1 h2) (by simp) (by simp), ?_⟩
  simp only [execOp, ho, hc, Instr.fieldAt, Instr.sureAddr, Sem.run_bind, run_underlying' hS, Result.andThen_ok, hf, pure_bind, run_fieldPlace hs hk, Sem.run_pure, Nat.add_assoc]

theorem ls_indexAddr_sl {T E : TypeId} {x y : Operand} {n off : Nat} {p : List Nat} {i len cap wd : Nat} {k : IntKind} {q : Int} (ho : o.op = .indexAddr T x y) (hx : ev x = some (.sl n off p i len cap wd)) (hy : ev y = some (.int k q))
    (hT : P.underlying T = some (.slice E)) (hE : szOf P E = some wd) (h0 : 0 ≤ q) (h1 : q < len) : LS P o ev H ⟨.ptr n (off + q.toNat * wd) (p ++ [i + q.toNat]), [], [], []⟩ := by
  refine LS.value fun a w I ρ hev hrd => ?_
  have hq := inv_int (hev y (by simp [ho, Op.operands]) _ hy)
  rcases inv_sl (hev x (by simp [ho, Op.operands]) _ hx) with ⟨h2, _⟩ | ⟨b, base, r, c, hr, _, _, _, hc⟩
  · subst h2; simp at h1; omega
  refine ⟨.pointer (some ⟨b, base + (off + q.toNat * wd), none⟩), VRel.cell (CRel.ptr _ _ _ _ _ _ hr) (by simp) (by simp), ?_⟩
  simp only [execOp, ho, hc, hq, Instr.indexAt, asIntOf, pure_bind, Sem.run_bind, run_underlying' hT, Result.andThen_ok, Sem.run_pure, h0, h1, and_self, if_true, Sem.run_ite, run_sizeOf' hE, add_mk, Nat.add_assoc]

theorem ls_indexAddr_vsl {T E : TypeId} {x y : Operand} {es : List AV} {len wd : Nat} {k : IntKind} {q : Int} (ho : o.op = .indexAddr T x y) (hx : ev x = some (.vsl es len)) (hy : ev y = some (.int k q))
    (hT : P.underlying T = some (.slice E)) (hE : szOf P E = some wd) (h0 : 0 ≤ q) (h1 : q < len) : LS P o ev H ⟨.vptr (.agg es) (q.toNat * wd) [q.toNat], [], [], []⟩ := by
  refine LS.value fun a w I ρ hev hrd => ?_
  have hq := inv_int (hev y (by simp [ho, Op.operands]) _ hy)
  rcases inv_vsl (hev x (by simp [ho, Op.operands]) _ hx) with ⟨_, hl, _⟩ | ⟨b, base, c, f, hI, hl1, hl2, hc1, hc2, hc⟩
  · subst hl; simp at h1; omega
  · refine ⟨.pointer (some ⟨b, base + q.toNat * wd, none⟩), VRel.cell (CRel.vptr _ _ _ _ _ f hI (by simpa [AV.size] using hc1) (by simpa [AV.size, AV.flat] using hc2)) (by simp) (by simp), ?_⟩
    simp only [execOp, ho, hc, hq, Instr.indexAt, asIntOf, pure_bind, Sem.run_bind, run_underlying' hT, Result.andThen_ok, Sem.run_pure, h0, h1, and_self, if_true, Sem.run_ite, run_sizeOf' hE, add_mk]

theorem ls_indexAddr_arr {T E : TypeId} {x y : Operand} {n off : Nat} {p : List Nat} {len wd : Nat} {k : IntKind} {q : Int} (ho : o.op = .indexAddr T x y) (hx : ev x = some (.ptr n off p)) (hy : ev y = some (.int k q))
    (hT : P.underlying T = some (.array len E)) (hE : szOf P E = some wd) (h0 : 0 ≤ q) (h1 : q < len) : LS P o ev H ⟨.ptr n (off + q.toNat * wd) (p ++ [q.toNat]), [], [], []⟩ := by
  refine LS.value fun a w I ρ hev hrd => ?_
  obtain ⟨b, base, r, hr, hc⟩ := inv_ptr (hev x (by simp [ho, Op.operands]) _ hx)
  have hq := inv_int (hev y (by simp [ho, Op.operands]) _ hy)
  refine ⟨.pointer (some ⟨b, base + (off + q.toNat * wd), none⟩), VRel.cell (CRel.ptr _ _ _ _ _ _ hr) (by simp) (by simp), ?_⟩
  simp only [execOp, ho, hc, hq, Instr.indexAt, Instr.sureAddr, asIntOf, pure_bind, Sem.run_bind, run_underlying' hT, Result.andThen_ok, Sem.run_pure, h0, h1, and_self, if_true, Sem.run_ite, run_sizeOf' hE, add_mk, Nat.add_assoc]

theorem ls_nilCheck {x : Operand} {n off : Nat} {p : List Nat} (ho : o.op = .nilCheck x) (hx : ev x = some (.ptr n off p)) : LS P o ev H ⟨.ptr n off p, [], [], []⟩ := by
  refine LS.value fun a w I ρ hev hrd => ?_
  have h := hev x (by simp [ho, Op.operands]) _ hx
  obtain ⟨b, base, r, hr, hc⟩ := inv_ptr h
  exact ⟨_, h, by simp only [execOp, ho, hc, Sem.run_bind, Sem.run_pure, Result.andThen_ok]⟩

theorem ls_extract {x : Operand} {j : Nat} {vs : List AV} {u : AV} (ho : o.op = .extract x j) (hx : ev x = some (.tuple vs)) (hu : vs[j]? = some u) (ht : ∀ us, u ≠ .tuple us) : LS P o ev H ⟨u, [], [], []⟩ := by
  refine LS.value fun a w I ρ hev hrd => ?_
  obtain ⟨cs, hc, hs, hcs⟩ := inv_tuple (hev x (by simp [ho, Op.operands]) _ hx)
  have hj : j < vs.length := by
    rcases Nat.lt_or_ge j vs.length with h | h
    · exact h
    · simp [List.getElem?_eq_none h] at hu
  have := hcs j hj
  rw [List.getD_eq_getElem?_getD, hu, Option.getD_some] at this
  refine ⟨cs.getD j Go.undef, by rw [VRel_eq _ ht]; exact this, ?_⟩
  have hj' : cs[j]? = some (cs.getD j Go.undef) := by simp [Array.getD_eq_getD_getElem?, hs, hj]
  simp only [execOp, ho, hc, Instr.extract, hj', Sem.run_bind, Sem.run_pure, Result.andThen_ok]

end
end Go.Proofs.Ytipbgaahpchhbaa
