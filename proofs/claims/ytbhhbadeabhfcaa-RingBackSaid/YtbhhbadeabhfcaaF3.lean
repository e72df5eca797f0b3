/- The states of a walk, and the rules for code without operations. -/
import Derived.Test.YtbhhbadeabhfcaaF2
set_option linter.unusedVariables false
set_option linter.unusedSimpArgs false
namespace Go.Proofs.Ytbhhbadeabhfcaa
open Go Go.RowKit

abbrev Env := List (Nat × AV)
def look : Env → Nat → Option AV
  | [], _ => none
  | (m, v) :: r, n => if n = m then some v else look r n

structure St where
  n : Nat
  t : Env
  H : Heap
  nx : Nat

/-- How a call began. -/
structure Ctx where
  w : World
  I : Nat → Prop
  ρ : Rho
  own : Nat → Prop

/-- A state as functions; fr: the names that are still free. -/
structure FS where
  n : Nat
  t : Nat → Option AV
  H : Nat → Option ABlk
  fr : Nat → Prop

def St.fs (s : St) : FS := ⟨s.n, look s.t, Heap.get s.H, fun n => s.nx ≤ n⟩

structure SRel (w : World) (I : Nat → Prop) (ρ : Rho) (s : FS) (a : Act) : Prop where
  sz : a.tmps.size = s.n
  tmps : ∀ d v, s.t d = some v → d < a.tmps.size ∧ VRel w I ρ v (a.tmps.getD d Go.undef)
  defers : a.defers = []
  heap : HRel w I ρ s.H
  imm : Imm (Owns ρ s.H) w I
  fresh : ∀ n, s.fr n → ρ n = none

structure FAt (C : Ctx) (s : FS) (a : Act) (w : World) : Prop where
  ex : ∃ I ρ, Ext C.own C.w w C.I I C.ρ ρ ∧ SRel w I ρ s a ∧ (∀ b, Owns ρ s.H b → C.own b ∨ C.w.heap.size ≤ b)

abbrev At (C : Ctx) (s : St) (a : Act) (w : World) : Prop := FAt C s.fs a w

def AWp (P : Program) (c : Code) (s : St) (Q : Exit → St → Prop) : Prop :=
  ∀ C a w, At C s a w → c.wp P (fun e a' w' => ∃ s', Q e s' ∧ At C s' a' w') a w

/-- A state that tells less. -/
def Wk (s s' : St) : Prop := ∀ C a w, At C s a w → At C s' a w

theorem Wk.refl (s : St) : Wk s s := fun _ _ _ h => h
theorem Wk.trans {a b c : St} (h : Wk a b) (k : Wk b c) : Wk a c := fun C x w g => k C x w (h C x w g)

theorem Owns.sub {ρ : Rho} {h h' : Nat → Option ABlk} (hh : ∀ n b, h' n = some b → h n = some b) {b : Nat} (hb : Owns ρ h' b) : Owns ρ h b := by
  obtain ⟨n, blk, o, r, h1, h2⟩ := hb
  exact ⟨n, blk, o, r, hh _ _ h1, h2⟩

theorem FAt.weaken {C : Ctx} {s s' : FS} {a : Act} {w : World} (ha : FAt C s a w) (ht : ∀ d v, s'.t d = some v → s.t d = some v) (hH : ∀ n b, s'.H n = some b → s.H n = some b)
    (hn : ∀ n, s'.fr n → s.fr n) (hz : s'.n = s.n) : FAt C s' a w := by
  obtain ⟨I, ρ, hx, hs, ho⟩ := ha.ex
  refine ⟨I, ρ, hx, ⟨hs.sz.trans hz.symm, fun d v h => hs.tmps d v (ht d v h), hs.defers, ⟨fun n b h => hs.heap.rel n b (hH n b h), fun n m x y hnm h1 h2 => hs.heap.inj n m x y hnm (hH _ _ h1) (hH _ _ h2)⟩, ?_, fun n h => hs.fresh n (hn n h)⟩, fun b hb => ho b (hb.sub hH)⟩
  exact fun b hb => ⟨(hs.imm b hb).1, fun h => (hs.imm b hb).2 (h.sub hH)⟩

theorem Wk.mk {s s' : St} (ht : ∀ d v, look s'.t d = some v → look s.t d = some v) (hH : ∀ n b, Heap.get s'.H n = some b → Heap.get s.H n = some b) (hn : s.nx ≤ s'.nx) (hz : s'.n = s.n) : Wk s s' :=
  fun C a w ha => ha.weaken ht hH (fun n h => Nat.le_trans hn h) hz

section
variable {P : Program} {s : St} {Q : Exit → St → Prop}

theorem AWp.mono {c : Code} {Q' : Exit → St → Prop} (h : AWp P c s Q) (hq : ∀ e s, Q e s → Q' e s) : AWp P c s Q' :=
  fun C a w ha => wp_mono (h C a w ha) fun e a' w' ⟨s', h1, h2⟩ => ⟨s', hq _ _ h1, h2⟩

theorem AWp.weaken {c : Code} {s' : St} (hw : Wk s s') (h : AWp P c s' Q) : AWp P c s Q := fun C a w ha => h C a w (hw C a w ha)

theorem AWp.skip (h : Q .normal s) : AWp P .skip s Q := fun _ a w ha => wp_skip ⟨s, h, ha⟩
theorem AWp.exit {id : Nat} (h : Q (.exit id) s) : AWp P (.exit id) s Q := fun _ a w ha => wp_exit ⟨s, h, ha⟩
theorem AWp.ret (h : Q .ret s) : AWp P .ret s Q := fun _ a w ha => wp_ret ⟨s, h, ha⟩

def Then (P : Program) (y : Code) (Q : Exit → St → Prop) : Exit → St → Prop
  | .normal, s => AWp P y s Q
  | e, s => Q e s

theorem AWp.seq {x y : Code} (h : AWp P x s (Then P y Q)) : AWp P (.seq x y) s Q := fun C a w ha =>
  wp_seq (wp_mono (h C a w ha) fun e a' w' ⟨s', h1, h2⟩ => by
    cases e with
    | normal => exact h1 C a' w' h2
    | _ => exact ⟨s', h1, h2⟩)

def InBlock (id : Nat) (Q : Exit → St → Prop) : Exit → St → Prop
  | .exit i, s => if i = id then Q .normal s else Q (.exit i) s
  | e, s => Q e s

theorem AWp.block {id : Nat} {c : Code} (h : AWp P c s (InBlock id Q)) : AWp P (.block id c) s Q := fun C a w ha =>
  wp_block (wp_mono (h C a w ha) fun e a' w' ⟨s', h1, h2⟩ => by
    cases e with
    | exit i =>
      simp only [InBlock, Exit.inBlock] at h1 ⊢
      split <;> rename_i hi <;> simp only [hi, if_true, if_false] at h1 <;> exact ⟨s', h1, h2⟩
    | _ => exact ⟨s', h1, h2⟩)

/-- What a constant stands for. -/
def constAV : Value → Option AV
  | .bool b => some (.bool b)
  | .int k n => some (.int k n)
  | .string s => some (.str s)
  | .pointer none => some .nilptr
  | .slice none 0 0 => some .nilsl
  | .map none => some .nilmap
  | .nilFunc => some .nilfunc
  | .nilIface => some .niliface
  | _ => none

theorem constAV_rel {w : World} {I : Nat → Prop} {ρ : Rho} {c : Value} {v : AV} (h : constAV c = some v) : VRel w I ρ v c := by
  unfold constAV at h
  split at h <;> simp only [Option.some.injEq, reduceCtorEq] at h <;> subst h <;> constructor

def evF (t : Nat → Option AV) : Operand → Option AV
  | .tmp x => t x
  | .const v => constAV v
  | .global _ => none
  | .func f => some (.func f [])

abbrev St.ev (s : St) : Operand → Option AV := evF (look s.t)

theorem SRel.ev {w : World} {I : Nat → Prop} {ρ : Rho} {a : Act} {s : FS} (hs : SRel w I ρ s a) {x : Operand} {v : AV} (h : evF s.t x = some v) : VRel w I ρ v (a.eval x) := by
  cases x with
  | tmp t => exact (hs.tmps t v h).2
  | const c => exact constAV_rel h
  | global g => cases h
  | func f => cases h; exact CRel.func f [] #[] rfl (fun k hk => absurd hk (Nat.not_lt_zero k))

theorem VRel.bool_inv {w : World} {I : Nat → Prop} {ρ : Rho} {t : Bool} {c : Value} (h : VRel w I ρ (.bool t) c) : c = .bool t := by
  change CRel w I ρ (.bool t) c at h
  cases h; rfl

theorem AWp.cond {c : Operand} {x y : Code} {t : Bool} (hc : s.ev c = some (.bool t)) (ht : t = true → AWp P x s Q) (hf : t = false → AWp P y s Q) : AWp P (.cond c x y) s Q := by
  intro C a w ha
  obtain ⟨I, ρ, hx, hs, ho⟩ := ha.ex
  exact wp_cond_split (hs.ev hc).bool_inv (fun h => ht h C a w ha) (fun h => hf h C a w ha)

def Round (Inv : Nat → St → Prop) (n : Nat) (Q : Exit → St → Prop) : Exit → St → Prop
  | .normal, s => ∃ m s', m < n ∧ Inv m s' ∧ Wk s s'
  | e, s => Q e s

theorem AWp.loop {c : Code} (Inv : Nat → St → Prop) {n0 : Nat} {s0 : St} (hw : Wk s s0) (h0 : Inv n0 s0) (round : ∀ n s, Inv n s → AWp P c s (Round Inv n Q)) : AWp P (.loop c) s Q := by
  intro C a w ha
  have key : ∀ n (a : Act) (w : World), (∃ s, Inv n s ∧ At C s a w) → ∀ (b : Frame) (k : List Item) (cs : List Frame),
      ∃ e a' w', (∃ s', Q e s' ∧ At C s' a' w') ∧ Arrives P (lone (b.at a (.code c :: .inLoop c :: k)) cs w) b k cs e a' w' := by
    intro n
    induction n using Nat.strongRecOn with
    | _ n ih =>
      intro a w ⟨s, hI, hA⟩ b k cs
      obtain ⟨e, a₁, w₁, ⟨s₁, hq, hA₁⟩, harr⟩ := round n s hI C a w hA b (.inLoop c :: k) cs
      cases e with
      | normal =>
        obtain ⟨m, s₂, hlt, hI₂, hw₂⟩ := hq
        obtain ⟨e₂, a₂, w₂, hq₂, harr₂⟩ := ih m hlt a₁ w₁ ⟨s₂, hI₂, hw₂ _ _ _ hA₁⟩ b k cs
        exact ⟨e₂, a₂, w₂, hq₂, .of_steps (Steps.trans harr (.one step_inLoop)) harr₂⟩
      | exit id => exact ⟨_, a₁, w₁, ⟨s₁, hq, hA₁⟩, .pass (x := .inLoop c) rfl (fun _ _ => .inl (by simp)) harr⟩
      | goto l => exact ⟨_, a₁, w₁, ⟨s₁, hq, hA₁⟩, .pass (x := .inLoop c) rfl (fun _ _ => .inl (by simp)) harr⟩
      | ret => exact ⟨_, a₁, w₁, ⟨s₁, hq, hA₁⟩, .pass (x := .inLoop c) rfl (fun _ _ => .inl (by simp)) harr⟩
      | panic ch => exact ⟨_, a₁, w₁, ⟨s₁, hq, hA₁⟩, .pass (x := .inLoop c) rfl (fun _ _ => .inl (by simp)) harr⟩
      | outgrown => exact ⟨_, a₁, w₁, ⟨s₁, hq, hA₁⟩, .pass (x := .inLoop c) rfl (fun _ _ => .inl (by simp)) harr⟩
  intro b k cs
  obtain ⟨e, a', w', hq, harr⟩ := key n0 a w ⟨s0, h0, hw _ _ _ ha⟩ b k cs
  exact ⟨e, a', w', hq, .of_steps (.one step_loop) harr⟩
end

end Go.Proofs.Ytbhhbadeabhfcaa
