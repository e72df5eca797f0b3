/- How abstract values, memory and frames stand to the machine's own. -/
import Derived.Test.YtbhhbadeabhfcaaF1
import Derived.Laws.Sem
import Derived.Laws.World
import Derived.Laws.Cells
set_option linter.unusedVariables false
set_option linter.unusedSimpArgs false
namespace Go.Proofs.Ytbhhbadeabhfcaa
open Go Go.RowKit

/-- Of a name: its block, where in it, and how many cells there are from there on. -/
abbrev Rho := Nat → Option (Nat × Nat × Nat)

inductive CRel (w : World) (I : Nat → Prop) (ρ : Rho) : AV → Value → Prop
  | undef (c : Value) : c.oneCell' = true → CRel w I ρ .undef c
  | bool (b : Bool) : CRel w I ρ (.bool b) (.bool b)
  | int (k : IntKind) (n : Int) : CRel w I ρ (.int k n) (.int k n)
  | str (s : ByteArray) : CRel w I ρ (.str s) (.string s)
  | nilptr : CRel w I ρ .nilptr (.pointer none)
  | ptr (n off : Nat) (p : List Nat) (b o r : Nat) : ρ n = some (b, o, r) → CRel w I ρ (.ptr n off p) (.pointer (some ⟨b, o + off, none⟩))
  | vptr (root : AV) (off : Nat) (p : List Nat) (b o : Nat) (c : Nat → Value) : I b → (∀ k, k < root.size → w.cell? ⟨b, o + k, none⟩ = some (c k)) →
      (∀ k, k < root.size → CRel w I ρ (root.flat.getD k .undef) (c k)) → CRel w I ρ (.vptr root off p) (.pointer (some ⟨b, o + off, none⟩))
  | nilsl : CRel w I ρ .nilsl (.slice none 0 0)
  | sl (n off : Nat) (p : List Nat) (i len cap wd : Nat) (b o r c : Nat) : ρ n = some (b, o, r) → len ≤ cap → cap ≤ c → off + c * wd ≤ r →
      CRel w I ρ (.sl n off p i len cap wd) (.slice (some ⟨b, o + off, none⟩) len c)
  | sl0 (n off : Nat) (p : List Nat) (i wd : Nat) (a : Addr) : CRel w I ρ (.sl n off p i 0 0 wd) (.slice (some a) 0 0)
  | vsl0 (a : Option Addr) (c : Nat) : CRel w I ρ (.vsl [] 0) (.slice a 0 c)
  | vsl (es : List AV) (len : Nat) (b o cap : Nat) (c : Nat → Value) : I b → len ≤ es.length → es.length ≤ cap → (∀ k, k < AV.sizeL es → w.cell? ⟨b, o + k, none⟩ = some (c k)) →
      (∀ k, k < AV.sizeL es → CRel w I ρ ((AV.flatL es).getD k .undef) (c k)) → CRel w I ρ (.vsl es len) (.slice (some ⟨b, o, none⟩) len cap)
  | nilmap : CRel w I ρ .nilmap (.map none)
  | mapv (n : Nat) (b o r : Nat) : ρ n = some (b, o, r) → CRel w I ρ (.mapv n) (.map (some b))
  | func (f : Nat) (caps : List AV) (cs : Array Value) : cs.size = caps.length → (∀ k, k < caps.length → CRel w I ρ (caps.getD k .undef) (cs.getD k Go.undef)) →
      CRel w I ρ (.func f caps) (.func (.func f) #[] cs)
  | nilfunc : CRel w I ρ .nilfunc .nilFunc
  | iface (t : Nat) (v : AV) (c : Value) : CRel w I ρ v c → CRel w I ρ (.iface t v) (.iface t c)
  | niliface : CRel w I ρ .niliface .nilIface

/-- A run of cells. -/
def CsRel (w : World) (I : Nat → Prop) (ρ : Rho) (xs : List AV) (cs : List Value) : Prop :=
  cs.length = xs.length ∧ ∀ k, k < xs.length → CRel w I ρ (xs.getD k .undef) (cs.getD k Go.undef)

def XRel (w : World) (I : Nat → Prop) (ρ : Rho) : AV → Value → Prop
  | .agg vs, c => ∃ cs : Array Value, c = .agg cs ∧ CsRel w I ρ (AV.flatL vs) cs.toList
  | .tuple _, _ => False
  | .undef, _ => True
  | v, c => CRel w I ρ v c

def VRel (w : World) (I : Nat → Prop) (ρ : Rho) : AV → Value → Prop
  | .tuple vs, c => ∃ cs : Array Value, c = .tuple cs ∧ cs.size = vs.length ∧ ∀ k, k < vs.length → XRel w I ρ (vs.getD k .undef) (cs.getD k Go.undef)
  | v, c => XRel w I ρ v c

inductive ABlk where
  | cells (v : AV)
  | map (es : List (AV × AV))

/-- Cells that lie in a block. -/
structure Lies (w : World) (I : Nat → Prop) (ρ : Rho) (b o r : Nat) (xs : List AV) : Prop where
  ex : ∃ (arr : Array Value) (T : TypeId) (fz : Nat × Nat), w.heap[b]? = some (.cells arr T fz) ∧ arr.size = o + r ∧ (∀ k, k < arr.size → ¬ (fz.1 ≤ k ∧ k < fz.2)) ∧
    xs.length ≤ r ∧ ∀ k, k < xs.length → CRel w I ρ (xs.getD k .undef) (arr.getD (o + k) Go.undef)

structure MapLies (w : World) (I : Nat → Prop) (ρ : Rho) (b : Nat) (es : List (AV × AV)) : Prop where
  ex : ∃ (ents : Array MapEntry) (clock : Nat), w.heap[b]? = some (.map ents clock) ∧ ents.size = es.length ∧
    (∀ k, k < es.length → XRel w I ρ (es.getD k (.undef, .undef)).1 (ents.getD k default).key ∧ XRel w I ρ (es.getD k (.undef, .undef)).2 (ents.getD k default).val) ∧
    (∀ k, k < ents.size → (ents.getD k default).born < clock) ∧ (∀ j k, j < k → k < ents.size → (ents.getD j default).born ≠ (ents.getD k default).born)

def BRel (w : World) (I : Nat → Prop) (ρ : Rho) (n : Nat) : ABlk → Prop
  | .cells v => ∃ b o r, ρ n = some (b, o, r) ∧ ¬ I b ∧ Lies w I ρ b o r v.flat
  | .map es => ∃ b o r, ρ n = some (b, o, r) ∧ ¬ I b ∧ MapLies w I ρ b es

abbrev Heap := List (Nat × ABlk)
def Heap.get (H : Heap) (n : Nat) : Option ABlk := match H with
  | [] => none
  | (m, b) :: r => if n = m then some b else Heap.get r n

/-- The blocks of the names that a heap tells. -/
def Owns (ρ : Rho) (h : Nat → Option ABlk) (b : Nat) : Prop := ∃ n blk o r, h n = some blk ∧ ρ n = some (b, o, r)

structure HRel (w : World) (I : Nat → Prop) (ρ : Rho) (h : Nat → Option ABlk) : Prop where
  rel : ∀ n blk, h n = some blk → BRel w I ρ n blk
  inj : ∀ n m x y, n ≠ m → h n = some x → h m = some y → ∀ b o r b' o' r', ρ n = some (b, o, r) → ρ m = some (b', o', r') → b ≠ b'

structure Ext (own : Nat → Prop) (w w' : World) (I I' : Nat → Prop) (ρ ρ' : Rho) : Prop where
  os : w'.os = w.os
  tape : w'.tape = w.tape
  output : w'.output = w.output
  size : w.heap.size ≤ w'.heap.size
  keep : ∀ b, b < w.heap.size → ¬ own b → w'.heap[b]? = w.heap[b]?
  imm : ∀ b, I b → I' b
  new : ∀ b, I' b → I b ∨ own b ∨ w.heap.size ≤ b
  rho : ∀ n x, ρ n = some x → ρ' n = some x

theorem Ext.refl (own : Nat → Prop) (w : World) (I : Nat → Prop) (ρ : Rho) : Ext own w w I I ρ ρ :=
  ⟨rfl, rfl, rfl, Nat.le_refl _, fun _ _ _ => rfl, fun _ h => h, fun _ h => .inl h, fun _ _ h => h⟩

theorem Ext.trans {own own' : Nat → Prop} {w w' w'' : World} {I I' I'' : Nat → Prop} {ρ ρ' ρ'' : Rho} (h : Ext own w w' I I' ρ ρ') (k : Ext own' w' w'' I' I'' ρ' ρ'')
    (ho : ∀ b, own' b → own b ∨ w.heap.size ≤ b) : Ext own w w'' I I'' ρ ρ'' where
  os := k.os.trans h.os
  tape := k.tape.trans h.tape
  output := k.output.trans h.output
  size := Nat.le_trans h.size k.size
  keep := fun b hb hn => (k.keep b (Nat.lt_of_lt_of_le hb h.size) fun hc => (ho b hc).elim hn (fun hc => by omega)).trans (h.keep b hb hn)
  imm := fun b hb => k.imm b (h.imm b hb)
  new := fun b hb => by
    rcases k.new b hb with h1 | h1 | h1
    · exact h.new b h1
    · rcases ho b h1 with h2 | h2
      · exact .inr (.inl h2)
      · exact .inr (.inr h2)
    · exact .inr (.inr (Nat.le_trans h.size h1))
  rho := fun n x hx => k.rho n x (h.rho n x hx)

/-- What is immutable lies and is none of the call's own. -/
def Imm (own : Nat → Prop) (w : World) (I : Nat → Prop) : Prop := ∀ b, I b → b < w.heap.size ∧ ¬ own b

theorem cell?_same {w w' : World} {b : Nat} (h : w'.heap[b]? = w.heap[b]?) (o : Nat) : w'.cell? ⟨b, o, none⟩ = w.cell? ⟨b, o, none⟩ := by
  simp only [World.cell?, h]

theorem CRel.mono {own : Nat → Prop} {w w' : World} {I I' : Nat → Prop} {ρ ρ' : Rho} (h : Ext own w w' I I' ρ ρ') (hi : Imm own w I) {x : AV} {c : Value}
    (hc : CRel w I ρ x c) : CRel w' I' ρ' x c := by
  induction hc with
  | undef c h => exact .undef c h
  | bool b => exact .bool b
  | int k n => exact .int k n
  | str s => exact .str s
  | nilptr => exact .nilptr
  | ptr n off p b o r hr => exact .ptr n off p b o r (h.rho _ _ hr)
  | vptr root off p b o c hb hc _ ih => exact .vptr root off p b o c (h.imm _ hb) (fun k hk => (cell?_same (h.keep b (hi b hb).1 (hi b hb).2) _).trans (hc k hk)) ih
  | nilsl => exact .nilsl
  | sl n off p i len cap wd b o r c hr h1 h2 h3 => exact .sl n off p i len cap wd b o r c (h.rho _ _ hr) h1 h2 h3
  | sl0 n off p i wd a => exact .sl0 n off p i wd a
  | vsl0 a c => exact .vsl0 a c
  | vsl es len b o cap c hb h1 h2 hc _ ih => exact .vsl es len b o cap c (h.imm _ hb) h1 h2 (fun k hk => (cell?_same (h.keep b (hi b hb).1 (hi b hb).2) _).trans (hc k hk)) ih
  | nilmap => exact .nilmap
  | mapv n b o r hr => exact .mapv n b o r (h.rho _ _ hr)
  | func f caps cs hs _ ih => exact .func f caps cs hs ih
  | nilfunc => exact .nilfunc
  | iface t v c _ ih => exact .iface t v c ih
  | niliface => exact .niliface

section
variable {own : Nat → Prop} {w w' : World} {I I' : Nat → Prop} {ρ ρ' : Rho}

theorem CsRel.mono (h : Ext own w w' I I' ρ ρ') (hi : Imm own w I) {xs : List AV} {cs : List Value} (hc : CsRel w I ρ xs cs) : CsRel w' I' ρ' xs cs :=
  ⟨hc.1, fun k hk => (hc.2 k hk).mono h hi⟩

theorem XRel.mono (h : Ext own w w' I I' ρ ρ') (hi : Imm own w I) {x : AV} {c : Value} (hc : XRel w I ρ x c) : XRel w' I' ρ' x c := by
  cases x with
  | agg vs => obtain ⟨cs, rfl, hcs⟩ := hc; exact ⟨cs, rfl, hcs.mono h hi⟩
  | tuple vs => exact hc.elim
  | undef => trivial
  | _ => exact CRel.mono h hi hc

theorem VRel_eq (x : AV) (hx : ∀ vs, x ≠ .tuple vs) (c : Value) : VRel w I ρ x c = XRel w I ρ x c := by
  cases x <;> first | rfl | exact absurd rfl (hx _)
theorem XRel_eq (x : AV) (hx : ∀ vs, x ≠ .tuple vs) (hy : ∀ vs, x ≠ .agg vs) (hz : x ≠ .undef) (c : Value) : XRel w I ρ x c = CRel w I ρ x c := by
  cases x <;> first | rfl | exact absurd rfl (hx _) | exact absurd rfl (hy _) | exact absurd rfl hz

theorem VRel.mono (h : Ext own w w' I I' ρ ρ') (hi : Imm own w I) {x : AV} {c : Value} (hc : VRel w I ρ x c) : VRel w' I' ρ' x c := by
  cases x with
  | tuple vs => obtain ⟨cs, rfl, hs, hcs⟩ := hc; exact ⟨cs, rfl, hs, fun k hk => (hcs k hk).mono h hi⟩
  | _ => rw [VRel_eq _ (by intro vs h; cases h)] at hc ⊢; exact XRel.mono h hi hc

theorem Lies.mono (h : Ext own w w' I I' ρ ρ') (hi : Imm own w I) {b o r : Nat} {xs : List AV} (hb : w'.heap[b]? = w.heap[b]?) (hc : Lies w I ρ b o r xs) : Lies w' I' ρ' b o r xs := by
  obtain ⟨arr, T, fz, h1, h2, h3, h4, h5⟩ := hc.ex
  exact ⟨arr, T, fz, hb.trans h1, h2, h3, h4, fun k hk => (h5 k hk).mono h hi⟩

theorem MapLies.mono (h : Ext own w w' I I' ρ ρ') (hi : Imm own w I) {b : Nat} {es : List (AV × AV)} (hb : w'.heap[b]? = w.heap[b]?) (hc : MapLies w I ρ b es) : MapLies w' I' ρ' b es := by
  obtain ⟨ents, clock, h1, h2, h3, h4, h5⟩ := hc.ex
  exact ⟨ents, clock, hb.trans h1, h2, fun k hk => ⟨(h3 k hk).1.mono h hi, (h3 k hk).2.mono h hi⟩, h4, h5⟩

theorem Lies.lt {b o r : Nat} {xs : List AV} (hc : Lies w I ρ b o r xs) : b < w.heap.size := by
  obtain ⟨arr, T, fz, h1, _⟩ := hc.ex
  rcases Nat.lt_or_ge b w.heap.size with h | h
  · exact h
  · simp [Array.getElem?_eq_none h] at h1
theorem MapLies.lt {b : Nat} {es : List (AV × AV)} (hc : MapLies w I ρ b es) : b < w.heap.size := by
  obtain ⟨arr, T, h1, _⟩ := hc.ex
  rcases Nat.lt_or_ge b w.heap.size with h | h
  · exact h
  · simp [Array.getElem?_eq_none h] at h1

theorem BRel.dom {n : Nat} {blk : ABlk} (hc : BRel w I ρ n blk) : ∃ b o r, ρ n = some (b, o, r) ∧ ¬ I b := by
  cases blk with
  | cells v => obtain ⟨b, o, r, h1, h2, _⟩ := hc; exact ⟨b, o, r, h1, h2⟩
  | map es => obtain ⟨b, o, r, h1, h2, _⟩ := hc; exact ⟨b, o, r, h1, h2⟩

theorem BRel.lt {n : Nat} {blk : ABlk} (hc : BRel w I ρ n blk) {b o r : Nat} (hr : ρ n = some (b, o, r)) : b < w.heap.size := by
  cases blk with
  | cells v => obtain ⟨b', o', r', h1, _, h2⟩ := hc; rw [hr] at h1; cases h1; exact h2.lt
  | map es => obtain ⟨b', o', r', h1, _, h2⟩ := hc; rw [hr] at h1; cases h1; exact h2.lt

/-- A block that a step has left alone. -/
theorem BRel.mono (h : Ext own w w' I I' ρ ρ') (hi : Imm own w I) {n : Nat} {blk : ABlk} (hc : BRel w I ρ n blk)
    (hk : ∀ b o r, ρ n = some (b, o, r) → w'.heap[b]? = w.heap[b]? ∧ ¬ I' b) : BRel w' I' ρ' n blk := by
  cases blk with
  | cells v => obtain ⟨b, o, r, h1, h2, h3⟩ := hc; exact ⟨b, o, r, h.rho _ _ h1, (hk _ _ _ h1).2, h3.mono h hi (hk _ _ _ h1).1⟩
  | map es => obtain ⟨b, o, r, h1, h2, h3⟩ := hc; exact ⟨b, o, r, h.rho _ _ h1, (hk _ _ _ h1).2, h3.mono h hi (hk _ _ _ h1).1⟩
end

end Go.Proofs.Ytbhhbadeabhfcaa
