/- More operations that only make a value. -/
import Derived.Test.YtipbgaahpchhbaaM1
import Derived.Laws.Append
import Derived.Laws.BytesString
set_option linter.unusedVariables false
set_option linter.unusedSimpArgs false
namespace Go.Proofs.Ytipbgaahpchhbaa
open Go Go.RowKit

def bAnd (k : IntKind) (a b : Int) : Int := k.wrap (BitVec.ofInt k.bits a &&& BitVec.ofInt k.bits b).toNat
def bOr (k : IntKind) (a b : Int) : Int := k.wrap (BitVec.ofInt k.bits a ||| BitVec.ofInt k.bits b).toNat
def bXor (k : IntKind) (a b : Int) : Int := k.wrap (BitVec.ofInt k.bits a ^^^ BitVec.ofInt k.bits b).toNat
def bAndNot (k : IntKind) (a b : Int) : Int := k.wrap (BitVec.ofInt k.bits a &&& ~~~ BitVec.ofInt k.bits b).toNat
def bShl (k : IntKind) (a b : Int) : Int := k.wrap (a * 2 ^ (min b.toNat k.bits))
def bShr (k : IntKind) (a b : Int) : Int := a.fdiv (2 ^ (min b.toNat k.bits))

/-- What an operator makes of two numbers. -/
def binI (op : BinOp) (k : IntKind) (a b : Int) : Option AV :=
  match op with
  | .add => some (.int k (k.wrap (a + b)))
  | .sub => some (.int k (k.wrap (a - b)))
  | .mul => some (.int k (k.wrap (a * b)))
  | .quo => if b = 0 then none else some (.int k (k.wrap (a.tdiv b)))
  | .rem => if b = 0 then none else some (.int k (a.tmod b))
  | .and => some (.int k (bAnd k a b))
  | .or => some (.int k (bOr k a b))
  | .xor => some (.int k (bXor k a b))
  | .andNot => some (.int k (bAndNot k a b))
  | .shl => if b < 0 then none else some (.int k (bShl k a b))
  | .shr => if b < 0 then none else some (.int k (bShr k a b))
  | .eql => some (.bool (a == b))
  | .neq => some (.bool (a != b))
  | .lss => some (.bool (decide (a < b)))
  | .leq => some (.bool (decide (a ≤ b)))
  | .gtr => some (.bool (decide (b < a)))
  | .geq => some (.bool (decide (b ≤ a)))

def shifty : BinOp → Bool
  | .shl | .shr => true
  | _ => false

def strEq (s t : ByteArray) : Bool := s.toList == t.toList
def binS (op : BinOp) (s t : ByteArray) : Option AV :=
  match op with
  | .add => if s.size + t.size ≤ 9223372036854775807 then some (.str (s ++ t)) else none
  | .eql => some (.bool (strEq s t))
  | .neq => some (.bool (!strEq s t))
  | .lss => some (.bool (Op.bytesLess s.toList t.toList))
  | _ => none

section
variable {P : Program} {o : Oper} {ev : Operand → Option AV} {H : Nat → Option ABlk} {v : AV} {rd : List Nat}

theorem VRel.int {w : World} {I : Nat → Prop} {ρ : Rho} (k : IntKind) (n : Int) : VRel w I ρ (.int k n) (.int k n) := CRel.int k n
theorem VRel.bool {w : World} {I : Nat → Prop} {ρ : Rho} (b : Bool) : VRel w I ρ (.bool b) (.bool b) := CRel.bool b
theorem VRel.str {w : World} {I : Nat → Prop} {ρ : Rho} (s : ByteArray) : VRel w I ρ (.str s) (.string s) := CRel.str s

theorem ls_bin_int {op : BinOp} {T T' : TypeId} {x y : Operand} {k k' : IntKind} {a b : Int} (ho : o.op = .binOp op T x y T') (hx : ev x = some (.int k a)) (hy : ev y = some (.int k' b)) (hk : k = k' ∨ shifty op = true)
    (h : binI op k a b = some v) : LS P o ev H ⟨v, [], [], []⟩ := by
  refine LS.value fun c w I ρ hev hrd => ?_
  have h1 := inv_int (hev x (by simp [ho, Op.operands]) _ hx)
  have h2 := inv_int (hev y (by simp [ho, Op.operands]) _ hy)
  by_cases hs : shifty op = true
  · cases op <;> simp [shifty] at hs <;>
      (simp only [binI] at h
       split at h
       · cases h
       · rename_i hb
         cases h
         refine ⟨_, VRel.int _ _, ?_⟩
         simp [execOp, ho, h1, h2, eqGuard, binOp, Op.shift, hb, bShl, bShr])
  · have hk : k = k' := hk.resolve_right hs
    subst hk
    cases op <;> simp [shifty] at hs <;> simp only [binI] at h
    case quo =>
      split at h
      · cases h
      · rename_i hb; cases h
        exact ⟨_, VRel.int _ _, by simp [execOp, ho, h1, h2, eqGuard, binOp, Op.intDiv, hb]⟩
    case rem =>
      split at h
      · cases h
      · rename_i hb; cases h
        exact ⟨_, VRel.int _ _, by simp [execOp, ho, h1, h2, eqGuard, binOp, Op.intDiv, hb]⟩
    all_goals
      cases h
      first
      | exact ⟨_, VRel.int _ _, by simp [execOp, ho, h1, h2, eqGuard, binOp, Op.intArith, Op.intBits, bAnd, bOr, bXor, bAndNot]⟩
      | exact ⟨_, VRel.bool _, by simp [execOp, ho, h1, h2, eqGuard, binOp, Op.intCmp]⟩

theorem ls_bin_str {op : BinOp} {T T' : TypeId} {x y : Operand} {s t : ByteArray} (ho : o.op = .binOp op T x y T') (hx : ev x = some (.str s)) (hy : ev y = some (.str t)) (h : binS op s t = some v) : LS P o ev H ⟨v, [], [], []⟩ := by
  refine LS.value fun c w I ρ hev hrd => ?_
  have h1 := inv_str (hev x (by simp [ho, Op.operands]) _ hx)
  have h2 := inv_str (hev y (by simp [ho, Op.operands]) _ hy)
  cases op <;> simp only [binS] at h
  case add =>
    split at h
    · rename_i hb; cases h
      have : ¬ (((s.size + t.size : Nat) : Int) > IntKind.i64.max) := by
        have : IntKind.i64.max = 9223372036854775807 := by decide
        rw [this]; omega
      refine ⟨_, VRel.str _, ?_⟩
      simp only [execOp, ho, h1, h2, eqGuard, binOp, Op.stringOp, this, if_false]
      rfl
    · cases h
  all_goals first
    | (cases h; done)
    | (cases h; exact ⟨_, VRel.bool _, by simp [execOp, ho, h1, h2, eqGuard, binOp, Op.stringOp, strEq]⟩)

theorem ls_not {T : TypeId} {x : Operand} {b : Bool} (ho : o.op = .unOp .not T x) (hx : ev x = some (.bool b)) : LS P o ev H ⟨.bool (!b), [], [], []⟩ := by
  refine LS.value fun c w I ρ hev hrd => ?_
  have h1 := (hev x (by simp [ho, Op.operands]) _ hx).bool_inv
  exact ⟨_, VRel.bool _, by simp [execOp, ho, h1, Op.unary]⟩

def unI (op : UnOp) (k : IntKind) (n : Int) : Option AV := match op with
  | .neg => some (.int k (k.wrap (0 - n)))
  | .xor => some (.int k (bXor k (if k.signed then -1 else k.max) n))
  | _ => none

theorem ls_un_int {op : UnOp} {T : TypeId} {x : Operand} {k : IntKind} {n : Int} (ho : o.op = .unOp op T x) (hx : ev x = some (.int k n)) (h : unI op k n = some v) : LS P o ev H ⟨v, [], [], []⟩ := by
  refine LS.value fun c w I ρ hev hrd => ?_
  have h1 := inv_int (hev x (by simp [ho, Op.operands]) _ hx)
  cases op <;> simp only [unI] at h <;> first
    | (cases h; done)
    | (cases h; exact ⟨_, VRel.int _ _, by simp [execOp, ho, h1, Op.unary, Op.intArith, Op.intBits, bXor]⟩)

theorem ls_conv_int {S D : TypeId} {x : Operand} {k k' : IntKind} {n : Int} {d : TypeDesc} (ho : o.op = .convert S D x) (hx : ev x = some (.int k n)) (hS : P.underlying S = some d) (hD : P.underlying D = some (.int k')) :
    LS P o ev H ⟨.int k' (k'.wrap n), [], [], []⟩ := by
  refine LS.value fun c w I ρ hev hrd => ?_
  have h1 := inv_int (hev x (by simp [ho, Op.operands]) _ hx)
  refine ⟨_, VRel.int _ _, ?_⟩
  simp [execOp, ho, h1, convert, run_underlying' hS, run_underlying' hD, Conv.intToInt]

theorem ls_len_str {T : TypeId} {x : Operand} {s : ByteArray} (ho : o.op = .call { callee := .builtin .len, args := #[x], argTypes := #[T] }) (hx : ev x = some (.str s)) (hT : P.underlying T = some .string) :
    LS P o ev H ⟨.int .i64 s.size, [], [], []⟩ := by
  refine LS.value fun c w I ρ hev hrd => ?_
  have h1 := inv_str (hev x (by simp [ho, Op.operands, Call.operands]) _ hx)
  refine ⟨_, VRel.int _ _, ?_⟩
  simp [execOp, ho, resolve, invoke, builtin, Builtin.len_, h1, run_underlying' hT, goInt]

/-- How long a slice is. -/
def slLen : AV → Option Nat
  | .nilsl => some 0
  | .sl _ _ _ _ len _ _ => some len
  | .vsl _ len => some len
  | _ => none

theorem slLen_rel {w : World} {I : Nat → Prop} {ρ : Rho} {x : AV} {n : Nat} {c : Value} (h : slLen x = some n) (hc : VRel w I ρ x c) : ∃ a k, c = .slice a n k := by
  cases x <;> simp only [slLen, Option.some.injEq, reduceCtorEq] at h
  · subst h; exact ⟨_, _, inv_nilsl hc⟩
  · subst h
    rcases inv_sl hc with ⟨h1, _, a, h2⟩ | ⟨_, _, _, _, _, _, _, _, h⟩
    · subst h1; exact ⟨_, _, h2⟩
    · exact ⟨_, _, h⟩
  · subst h
    rcases inv_vsl hc with ⟨_, h1, a, k, h2⟩ | ⟨_, _, _, _, _, _, _, _, _, h⟩
    · subst h1; exact ⟨_, _, h2⟩
    · exact ⟨_, _, h⟩

theorem ls_len_sl {T E : TypeId} {x : Operand} {u : AV} {n : Nat} (ho : o.op = .call { callee := .builtin .len, args := #[x], argTypes := #[T] }) (hx : ev x = some u) (hl : slLen u = some n) (hT : P.underlying T = some (.slice E)) :
    LS P o ev H ⟨.int .i64 n, [], [], []⟩ := by
  refine LS.value fun c w I ρ hev hrd => ?_
  obtain ⟨a, k, h1⟩ := slLen_rel hl (hev x (by simp [ho, Op.operands, Call.operands]) _ hx)
  refine ⟨_, VRel.int _ _, ?_⟩
  simp [execOp, ho, resolve, invoke, builtin, Builtin.len_, h1, run_underlying' hT, goInt]

theorem ls_len_arr {T E : TypeId} {x : Operand} {u : AV} {n : Nat} (ho : o.op = .call { callee := .builtin .len, args := #[x], argTypes := #[T] }) (hx : ev x = some u) (hT : P.underlying T = some (.array n E)) :
    LS P o ev H ⟨.int .i64 n, [], [], []⟩ := by
  refine LS.value fun c w I ρ hev hrd => ⟨_, VRel.int _ _, ?_⟩
  simp [execOp, ho, resolve, invoke, builtin, Builtin.len_, run_underlying' hT, goInt]

theorem ls_min {b : Builtin} {x y : Operand} {ts : Array TypeId} {k : IntKind} {m n : Int} (hb : b = .min ∨ b = .max) (ho : o.op = .call { callee := .builtin b, args := #[x, y], argTypes := ts }) (hx : ev x = some (.int k m)) (hy : ev y = some (.int k n)) :
    LS P o ev H ⟨.int k (if b = .min then (if n < m then n else m) else (if m < n then n else m)), [], [], []⟩ := by
  refine LS.value fun c w I ρ hev hrd => ?_
  have h1 := inv_int (hev x (by simp [ho, Op.operands, Call.operands]) _ hx)
  have h2 := inv_int (hev y (by simp [ho, Op.operands, Call.operands]) _ hy)
  refine ⟨_, VRel.int _ _, ?_⟩
  rcases hb with rfl | rfl
  · simp [execOp, ho, resolve, invoke, builtin, Builtin.min_, Builtin.min2, h1, h2]
  · simp [execOp, ho, resolve, invoke, builtin, Builtin.max_, Builtin.max2, h1, h2]

/-- A byte of a string. -/
def byteAt (s : ByteArray) (q : Int) : Int := ((s.data.getD q.toNat 0).toNat : Int)

theorem ls_index_str {T : TypeId} {x y : Operand} {s : ByteArray} {k : IntKind} {q : Int} (ho : o.op = .index T x y) (hx : ev x = some (.str s)) (hy : ev y = some (.int k q)) (hT : P.underlying T = some .string) (h0 : 0 ≤ q) (h1 : q < s.size) :
    LS P o ev H ⟨.int .u8 (byteAt s q), [], [], []⟩ := by
  refine LS.value fun c w I ρ hev hrd => ?_
  have g1 := inv_str (hev x (by simp [ho, Op.operands]) _ hx)
  have g2 := inv_int (hev y (by simp [ho, Op.operands]) _ hy)
  refine ⟨_, VRel.int _ _, ?_⟩
  have hlt : q.toNat < s.size := by omega
  have hlt' : q.toNat < s.data.size := hlt
  have e1 : s[q.toNat]? = some (s.data.getD q.toNat 0) := by
    rw [getElem?_pos s q.toNat hlt]
    rw [Array.getD_eq_getD_getElem?, Array.getElem?_eq_getElem hlt']; rfl
  simp only [execOp, ho, g1, g2, Instr.index, asIntOf, pure_bind, Sem.run_bind, run_underlying' hT, Result.andThen_ok, h0, if_true, e1, Sem.run_pure, byteAt]

theorem ls_slice_str {T : TypeId} {x : Operand} {lo hi : Option Operand} {s : ByteArray} {l h : Int} (ho : o.op = .slice T x lo hi none) (hx : ev x = some (.str s))
    (hlo : match lo with | some y => ∃ k, ev y = some (.int k l) | none => l = 0) (hhi : match hi with | some y => ∃ k, ev y = some (.int k h) | none => h = s.size)
    (hT : P.underlying T = some .string) (h0 : 0 ≤ l) (h1 : l ≤ h) (h2 : h ≤ s.size) : LS P o ev H ⟨.str (s.extract l.toNat h.toNat), [], [], []⟩ := by
  refine LS.value fun c w I ρ hev hrd => ?_
  have g1 := inv_str (hev x (by cases lo <;> cases hi <;> simp [ho, Op.operands]) _ hx)
  refine ⟨_, VRel.str _, ?_⟩
  have b2 : (h.toNat : Int) = h := by omega
  have e1 : (Instr.sliceBounds false s.size s.size (lo.map c.eval) (hi.map c.eval) none).run P w = .ok (l.toNat, h.toNat, s.size) w := by
    cases lo with
    | none =>
      simp only at hlo; subst hlo
      cases hi with
      | none => simp only at hhi; subst hhi; simp [Instr.sliceBounds]
      | some y =>
        obtain ⟨k, hy⟩ := hhi
        have g3 := inv_int (hev y (by simp [ho, Op.operands]) _ hy)
        have : 0 ≤ h := by omega
        simp [Instr.sliceBounds, g3, Instr.sliceBound, asIntOf, h2, this]
    | some z =>
      obtain ⟨k', hz⟩ := hlo
      have g4 := inv_int (hev z (by simp [ho, Op.operands]) _ hz)
      cases hi with
      | none => simp only at hhi; subst hhi; simp [Instr.sliceBounds, g4, Instr.sliceBound, asIntOf, h0, h1]
      | some y =>
        obtain ⟨k, hy⟩ := hhi
        have g3 := inv_int (hev y (by simp [ho, Op.operands]) _ hy)
        have : 0 ≤ h := by omega
        have h1' : l ≤ (h.toNat : Int) := by omega
        simp only [Instr.sliceBounds, Option.map_some, g3, g4, Instr.sliceBound, asIntOf, pure_bind, Sem.run_bind, Sem.run_ite, h2, this, and_self, if_true, Sem.run_pure, Result.andThen_ok, h0, h1', true_and]
  simp only [execOp, ho, g1, Instr.sliceAt, Instr.slice, Sem.run_bind, run_underlying' hT, Result.andThen_ok, Option.map_none, Option.isSome_none, Bool.false_eq_true, if_false, Sem.run_pure, e1, Sem.run_ite]

end
end Go.Proofs.Ytipbgaahpchhbaa
/- Operations that make memory or write it. -/
namespace Go.Proofs.Ytipbgaahpchhbaa
open Go Go.RowKit

section
variable {P : Program} {w w' : World} {I : Nat → Prop} {ρ : Rho}

theorem CRel.one {x : AV} {c : Value} (h : CRel w I ρ x c) : c.oneCell' = true := by
  cases h <;> first | rfl | assumption

/-- A value's cells. -/
theorem cells_rel {u : AV} {c : Value} (h : XRel w I ρ u c) (hu : u ≠ .undef) : c.cells.size = u.size ∧ (∀ k, k < u.size → CRel w I ρ (u.flat.getD k .undef) (c.cells.getD k Go.undef)) ∧ ∀ v, v ∈ c.cells.toList → v.oneCell' = true := by
  by_cases hagg : ∃ vs, u = .agg vs
  · obtain ⟨vs, rfl⟩ := hagg
    obtain ⟨cs, rfl, h1, h2⟩ := h
    rw [AV.flatL_length] at h1 h2
    refine ⟨by simpa [Value.cells, AV.size] using h1, fun k hk => ?_, fun v hv => ?_⟩
    · have := h2 k hk
      simpa [Value.cells, AV.flat, Array.getD_eq_getD_getElem?, List.getD_eq_getElem?_getD] using this
    · simp only [Value.cells] at hv
      obtain ⟨k, hk, rfl⟩ := List.getElem_of_mem hv
      have := (h2 k (by omega)).one
      rwa [List.getD_eq_getElem?_getD, List.getElem?_eq_getElem hk] at this
  · have h1 : ∀ vs, u ≠ .agg vs := fun vs h => hagg ⟨vs, h⟩
    have h2 : ∀ vs, u ≠ .tuple vs := fun vs h' => by subst h'; exact h
    rw [XRel_eq u h2 h1 hu] at h
    have hsz : u.size = 1 := by cases u <;> first | rfl | exact absurd rfl (h1 _)
    have hfl : u.flat = [u] := by cases u <;> first | rfl | exact absurd rfl (h1 _)
    have hc : c.cells = #[c] := by have := h.one; cases c <;> first | rfl | simp [Value.oneCell'] at this
    rw [hc, hsz, hfl]
    refine ⟨rfl, fun k hk => ?_, fun v hv => ?_⟩
    · have : k = 0 := by omega
      subst this; simpa using h
    · simp at hv; subst hv; exact h.one

/-- A step that lays one new block. -/
theorem post_new {e : Eff} {c : Value} {obj : Obj} {r m : Nat} {blk : ABlk} (hput : e.put = [(m, blk)]) (hρ : ρ m = none) (himm : Imm (OwnW ρ e.wr) w I)
    (hh : w'.heap = w.heap.push obj) (h1 : w'.os = w.os) (h2 : w'.tape = w.tape) (h3 : w'.output = w.output)
    (h : ∀ ρ', Ext (OwnW ρ e.wr) w w' I I ρ ρ' → w'.heap[w.heap.size]? = some obj → ρ' m = some (w.heap.size, 0, r) → ¬ I w.heap.size → VRel w' I ρ' e.v c ∧ BRel w' I ρ' m blk) : ∃ ρ', LSPost w I ρ e c w' I ρ' := by
  let ρ' : Rho := fun n => if n = m then some (w.heap.size, 0, r) else ρ n
  have hx : Ext (OwnW ρ e.wr) w w' I I ρ ρ' := by
    refine ⟨h1, h2, h3, by rw [hh]; simp, fun b hb _ => ?_, fun _ h => h, fun _ h => .inl h, fun n x hn => ?_⟩
    · rw [hh, Array.getElem?_push, if_neg (by omega)]
    · simp only [ρ']
      by_cases hnm : n = m
      · subst hnm; rw [hρ] at hn; cases hn
      · simp [hnm, hn]
  have hm : ρ' m = some (w.heap.size, 0, r) := by simp [ρ']
  have hI : ¬ I w.heap.size := fun hI => by have := (himm _ hI).1; omega
  obtain ⟨g1, g2⟩ := h ρ' hx (by rw [hh]; simp) hm hI
  refine ⟨ρ', g1, fun n b hb => ?_, fun n k x y hnk hn hk => ?_, fun n x hn b o r' hr => ?_, hx, fun b hb => ?_, fun n hn hg => ?_⟩
  · rw [hput] at hb
    simp only [Heap.get] at hb
    by_cases hnm : n = m
    · subst hnm; simp at hb; subst hb; exact g2
    · simp [hnm] at hb
  · rw [hput] at hn hk
    simp only [Heap.get] at hn hk
    by_cases ha : n = m <;> by_cases hb : k = m <;> simp [ha, hb] at hn hk
    exact absurd (ha.trans hb.symm) hnk
  · rw [hput] at hn
    simp only [Heap.get] at hn
    by_cases hnm : n = m
    · subst hnm; rw [hm] at hr; cases hr; exact .inr (Nat.le_refl _)
    · simp [hnm] at hn
  · rw [hh]; have := (himm b hb).1; simp; omega
  · rw [hput] at hg
    simp only [Heap.get] at hg
    by_cases hnm : n = m
    · simp [hnm] at hg
    · simp [ρ', hnm, hn]

/-- A step that writes one block; its name may turn to another one. -/
theorem post_write {e : Eff} {c : Value} {n m b o r o' r' : Nat} {blk : ABlk} (hwr : e.wr = [n]) (hput : e.put = [(m, blk)]) (hn : ρ n = some (b, o, r))
    (hm : (m = n ∧ o' = o ∧ r' = r) ∨ (m ≠ n ∧ ρ m = none)) (himm : Imm (OwnW ρ e.wr) w I)
    (hs : w'.heap.size = w.heap.size) (hk : ∀ k, k ≠ b → w'.heap[k]? = w.heap[k]?) (h1 : w'.os = w.os) (h2 : w'.tape = w.tape) (h3 : w'.output = w.output)
    (h : ∀ ρ', Ext (OwnW ρ e.wr) w w' I I ρ ρ' → ρ' m = some (b, o', r') → ¬ I b → VRel w' I ρ' e.v c ∧ BRel w' I ρ' m blk) : ∃ ρ', LSPost w I ρ e c w' I ρ' := by
  have hown : OwnW ρ e.wr b := ⟨n, by simp [hwr], o, r, hn⟩
  let ρ' : Rho := fun k => if k = m then some (b, o', r') else ρ k
  have hx : Ext (OwnW ρ e.wr) w w' I I ρ ρ' := by
    refine ⟨h1, h2, h3, by rw [hs]; exact Nat.le_refl _, fun k hk' ho => hk k fun hb => ho (hb ▸ hown), fun _ h => h, fun _ h => .inl h, fun k x hx => ?_⟩
    simp only [ρ']
    by_cases hkm : k = m
    · subst hkm
      rcases hm with ⟨rfl, rfl, rfl⟩ | ⟨_, hm⟩
      · rw [hn] at hx; simp [hx]
      · rw [hm] at hx; cases hx
    · simp [hkm, hx]
  have hm' : ρ' m = some (b, o', r') := by simp [ρ']
  have hI : ¬ I b := fun hI => (himm _ hI).2 hown
  obtain ⟨g1, g2⟩ := h ρ' hx hm' hI
  refine ⟨ρ', g1, fun k x hb => ?_, fun k l x y hnk hk hl => ?_, fun k x hk b' o1 r1 hr => ?_, hx, fun b hb => ?_, fun k hn hg => ?_⟩
  · rw [hput] at hb
    simp only [Heap.get] at hb
    by_cases hnm : k = m
    · subst hnm; simp at hb; subst hb; exact g2
    · simp [hnm] at hb
  · rw [hput] at hk hl
    simp only [Heap.get] at hk hl
    by_cases ha : k = m <;> by_cases hb : l = m <;> simp [ha, hb] at hk hl
    exact absurd (ha.trans hb.symm) hnk
  · rw [hput] at hk
    simp only [Heap.get] at hk
    by_cases hnm : k = m
    · subst hnm; rw [hm'] at hr; cases hr; exact .inl hown
    · simp [hnm] at hk
  · rw [hs]; exact (himm b hb).1
  · rw [hput] at hg
    simp only [Heap.get] at hg
    by_cases hnm : k = m
    · simp [hnm] at hg
    · simp [ρ', hnm, hn]

/-- Cells that are stored one behind the other. -/
theorem run_storeCells' {b off : Nat} {T : TypeId} {fz : Nat × Nat} : ∀ (vs : List Value) (i : Nat) (w : World) (arr : Array Value), w.heap[b]? = some (.cells arr T fz) → off + i + vs.length ≤ arr.size →
    (∀ k, k < arr.size → ¬ (fz.1 ≤ k ∧ k < fz.2)) → (∀ v, v ∈ vs → v.oneCell' = true) →
    ∃ (arr' : Array Value) (w' : World), (storeCells ⟨b, off, none⟩ vs i).run P w = .ok () w' ∧ w'.heap[b]? = some (.cells arr' T fz) ∧ arr'.size = arr.size ∧
      (∀ k, arr'.getD k Go.undef = if off + i ≤ k ∧ k < off + i + vs.length then vs.getD (k - (off + i)) Go.undef else arr.getD k Go.undef) ∧
      w'.heap.size = w.heap.size ∧ (∀ k, k ≠ b → w'.heap[k]? = w.heap[k]?) ∧ w'.os = w.os ∧ w'.tape = w.tape ∧ w'.output = w.output
  | [], i, w, arr, hb, _, _, _ => ⟨arr, w, rfl, hb, rfl, fun k => by rw [if_neg (by intro h; have h1 := h.1; have h2 := h.2; simp only [List.length_nil] at h2; omega)], rfl, fun _ _ => rfl, rfl, rfl, rfl⟩
  | v :: vs, i, w, arr, hb, hl, hf, hv => by
    simp only [List.length_cons] at hl
    have hlt : off + i < arr.size := by omega
    have hc : w.cell? ⟨b, off + i, none⟩ = some arr[off + i] := by simp [World.cell?, hb, hlt]
    have hfz : w.frozen? ⟨b, off + i, none⟩ = false := by
      simp only [World.frozen?, hb]
      have := hf (off + i) hlt
      simp only [Bool.and_eq_false_iff, decide_eq_false_iff_not]
      by_cases h1 : fz.1 ≤ off + i
      · exact .inr fun h2 => this ⟨h1, h2⟩
      · exact .inl h1
    have hb1 : (w.setCell ⟨b, off + i, none⟩ v).heap[b]? = some (.cells (arr.setIfInBounds (off + i) v) T fz) := by
      simp [World.setCell, Array.getElem?_modify, hb]
    obtain ⟨arr', w', g1, g2, g3, g4, g5, g6, g7, g8, g9⟩ := run_storeCells' (off := off) vs (i + 1) (w.setCell ⟨b, off + i, none⟩ v) (arr.setIfInBounds (off + i) v) hb1 (by rw [Array.size_setIfInBounds]; omega) (by simpa using hf) (fun x hx => hv x (by simp [hx]))
    refine ⟨arr', w', ?_, g2, by simpa using g3, fun k => ?_, by simpa using g5, fun k hk => ?_, g7, g8, g9⟩
    · simp only [storeCells, Sem.run_bind, add_mk]
      rw [run_store P w _ v .plain (hv v (by simp)), hc]
      simp only [hfz, Bool.false_eq_true, if_false, Result.andThen_ok]
      exact g1
    · rw [g4]
      by_cases h1 : off + (i + 1) ≤ k ∧ k < off + (i + 1) + vs.length
      · rw [if_pos h1, if_pos ⟨by omega, by simp; omega⟩]
        have : k - (off + i) = (k - (off + (i + 1))) + 1 := by omega
        rw [this]; simp
      · rw [if_neg h1]
        by_cases h2 : k = off + i
        · subst h2
          rw [if_pos ⟨Nat.le_refl _, by simp⟩]
          simp [Array.getD_eq_getD_getElem?, hlt]
        · rw [if_neg (by simp; omega)]
          simp [Array.getD_eq_getD_getElem?, Array.getElem?_setIfInBounds, Ne.symm h2]
    · rw [g6 k hk]
      simp [World.setCell, Array.getElem?_modify, Ne.symm hk]
end

section
variable {P : Program} {o : Oper} {ev : Operand → Option AV} {H : Nat → Option ABlk} {v : AV} {rd : List Nat}

theorem XRel.of_V {w : World} {I : Nat → Prop} {ρ : Rho} {x : AV} {c : Value} (h : VRel w I ρ x c) (ht : ∀ vs, x ≠ .tuple vs) : XRel w I ρ x c := by
  rw [VRel_eq x ht] at h; exact h

/-- Is a value one that can be laid in memory: an aggregate, or one cell? -/
def AV.layable : AV → Bool
  | .tuple _ | .undef => false
  | _ => true

theorem layable_ne {u : AV} (h : u.layable = true) : u ≠ .undef ∧ ∀ vs, u ≠ .tuple vs := by
  constructor
  · rintro rfl; simp [AV.layable] at h
  · rintro vs rfl; simp [AV.layable] at h

theorem new_lies {w w' : World} {I : Nat → Prop} {ρ ρ' : Rho} {own : Nat → Prop} {u : AV} {arr : Array Value} {b T : Nat} (hx : Ext own w w' I I ρ ρ') (hi : Imm own w I) (hs : arr.size = u.size)
    (hr : ∀ k, k < u.size → CRel w I ρ (u.flat.getD k .undef) (arr.getD k Go.undef)) (hb : w'.heap[b]? = some (.cells arr T (0, 0))) : Lies w' I ρ' b 0 arr.size u.flat :=
  ⟨arr, T, (0, 0), hb, by simp, fun k _ h => by omega, by rw [AV.flat_length]; omega, fun k hk => by
    rw [AV.flat_length] at hk
    rw [Nat.zero_add]; exact (hr k hk).mono hx hi⟩

theorem ls_box {T : TypeId} {x : Operand} {u : AV} (m : Nat) (ho : o.op = .box T x) (hx : ev x = some u) (hu : u.layable = true) : LS P o ev H ⟨.ptr m 0 [], [], [], [(m, .cells u)]⟩ := by
  intro a w I ρ hd hev hrd hinj himm hfr K Q hK
  have hc := XRel.of_V (hev x (by simp [ho, Op.operands]) _ hx) (layable_ne hu).2
  obtain ⟨h1, h2, _⟩ := cells_rel hc (layable_ne hu).1
  unfold Oper.wp
  have hrun : (execOp a.eval o).run P w = .ok (.value (.pointer (some ⟨w.heap.size, 0, none⟩))) { w with heap := w.heap.push (.cells (a.eval x).cells T) } := by
    simp [execOp, ho, Instr.box, newVar, newRow]
  rw [hrun]
  obtain ⟨ρ', hp⟩ := post_new (w := w) (w' := { w with heap := w.heap.push (.cells (a.eval x).cells T) }) (I := I) (ρ := ρ) (e := ⟨.ptr m 0 [], [], [], [(m, .cells u)]⟩) (c := .pointer (some ⟨w.heap.size, 0, none⟩))
    (r := (a.eval x).cells.size) (m := m) (blk := .cells u) rfl (hfr m (.cells u) (by simp [Heap.get]) (by simp)) himm rfl rfl rfl rfl fun ρ' hx hb hm hI =>
      ⟨CRel.ptr _ _ _ _ _ _ hm, ⟨_, _, _, hm, hI, new_lies hx himm h1 h2 hb⟩⟩
  exact hK _ _ _ _ hp

/-- A type's zero value. -/
def ZeroIs (P : Program) (T : TypeId) (z : AV) : Prop :=
  z.layable = true ∧ ∃ c, (∀ w, (zeroValue T).run P w = .ok c w) ∧ ∀ w I ρ, XRel w I ρ z c

theorem ZeroIs.mk_agg {P : Program} {T : TypeId} {vs : List AV} {cs : Array Value} (h : (P.info? T).bind (·.zero) = some (.agg cs)) (hv : (AV.flatL vs).map some = cs.toList.map constAV) : ZeroIs P T (.agg vs) := by
  refine ⟨rfl, .agg cs, fun w => ?_, fun w I ρ => ⟨cs, rfl, ?_, fun k hk => ?_⟩⟩
  · cases hi : P.info? T with
    | none => simp [hi] at h
    | some i => simp [hi] at h; simp [zeroValue, typeInfo, hi, h]
  · have := congrArg List.length hv
    simpa using this.symm
  · have hl := congrArg List.length hv
    simp only [List.length_map] at hl
    have h1 : ((AV.flatL vs).map some)[k]? = (cs.toList.map constAV)[k]? := by rw [hv]
    have hk' : k < cs.toList.length := by omega
    simp only [List.getElem?_map, List.getElem?_eq_getElem hk, List.getElem?_eq_getElem hk', Option.map_some, Option.some.injEq] at h1
    rw [List.getD_eq_getElem?_getD, List.getD_eq_getElem?_getD, List.getElem?_eq_getElem hk, List.getElem?_eq_getElem hk', Option.getD_some, Option.getD_some]
    have h2 := constAV_rel (w := w) (I := I) (ρ := ρ) h1.symm
    revert h2 h1
    generalize (AV.flatL vs)[k] = x
    generalize cs.toList[k] = y
    intro h1 h2
    unfold constAV at h1
    split at h1 <;> simp only [Option.some.injEq, reduceCtorEq] at h1 <;> subst h1 <;> exact h2

theorem ZeroIs.mk_one {P : Program} {T : TypeId} {z : AV} {c : Value} (h : (P.info? T).bind (·.zero) = some c) (hz : constAV c = some z) : ZeroIs P T z := by
  refine ⟨?_, c, fun w => ?_, fun w I ρ => ?_⟩
  · unfold constAV at hz
    split at hz <;> simp only [Option.some.injEq, reduceCtorEq] at hz <;> subst hz <;> rfl
  · cases hi : P.info? T with
    | none => simp [hi] at h
    | some i => simp [hi] at h; simp [zeroValue, typeInfo, hi, h]
  · have h2 := constAV_rel (w := w) (I := I) (ρ := ρ) hz
    unfold constAV at hz
    split at hz <;> simp only [Option.some.injEq, reduceCtorEq] at hz <;> subst hz <;> exact h2

theorem ls_alloc {T : TypeId} {z : AV} (m : Nat) (ho : o.op = .alloc T) (hz : ZeroIs P T z) : LS P o ev H ⟨.ptr m 0 [], [], [], [(m, .cells z)]⟩ := by
  intro a w I ρ hd hev hrd hinj himm hfr K Q hK
  obtain ⟨hu, c, hzr, hzx⟩ := hz
  obtain ⟨h1, h2, _⟩ := cells_rel (hzx w I ρ) (layable_ne hu).1
  unfold Oper.wp
  have hrun : (execOp a.eval o).run P w = .ok (.value (.pointer (some ⟨w.heap.size, 0, none⟩))) { w with heap := w.heap.push (.cells c.cells T) } := by
    simp [execOp, ho, Instr.alloc, newVar, newRow, hzr]
  rw [hrun]
  obtain ⟨ρ', hp⟩ := post_new (w := w) (w' := { w with heap := w.heap.push (.cells c.cells T) }) (I := I) (ρ := ρ) (e := ⟨.ptr m 0 [], [], [], [(m, .cells z)]⟩) (c := .pointer (some ⟨w.heap.size, 0, none⟩))
    (r := c.cells.size) (m := m) (blk := .cells z) rfl (hfr m (.cells z) (by simp [Heap.get]) (by simp)) himm rfl rfl rfl rfl fun ρ' hx hb hm hI =>
      ⟨CRel.ptr _ _ _ _ _ _ hm, ⟨_, _, _, hm, hI, new_lies hx himm h1 h2 hb⟩⟩
  exact hK _ _ _ _ hp

theorem ls_store {T : TypeId} {x y : Operand} {n off : Nat} {p : List Nat} {root old u : AV} (ho : o.op = .store T x y) (hx : ev x = some (.ptr n off p)) (hy : ev y = some u) (hH : H n = some (.cells root))
    (hp : root.proj p = some old) (hf : root.offOf p = off) (hu : u.layable = true) (hs : u.size = old.size) (hT : szOf P T = some u.size) : LS P o ev H ⟨.undef, [], [n], [(n, .cells (root.upd p u))]⟩ := by
  intro a w I ρ hd hev hrd hinj himm hfr K Q hK
  obtain ⟨b, base, r, hr, hc⟩ := inv_ptr (hev x (by simp [ho, Op.operands]) _ hx)
  have hcu := XRel.of_V (hev y (by simp [ho, Op.operands]) _ hy) (layable_ne hu).2
  obtain ⟨q1, q2, q3⟩ := cells_rel hcu (layable_ne hu).1
  obtain ⟨b', o', r', hr', hI, hlies⟩ := hrd n (by simp) _ hH
  rw [hr] at hr'; cases hr'
  obtain ⟨arr, E, fz, h1, h2, h3, h4, h5⟩ := hlies.ex
  obtain ⟨pre, post, g1, g2, g3⟩ := AV.flat_at p root old hp
  have hlen : root.flat.length = pre.length + old.size + post.length := by rw [g2]; simp [AV.flat_length]; omega
  obtain ⟨arr', w', k1, k2, k3, k4, k5, k6, k7, k8, k9⟩ := run_storeCells' (P := P) (b := b) (off := base + off) (a.eval y).cells.toList 0 w arr h1 (by
    simp only [Array.length_toList, q1, hs]; rw [h2]; rw [hlen] at h4; rw [← hf, ← g1]; omega) h3 q3
  unfold Oper.wp
  have hrun : (execOp a.eval o).run P w = .ok .skip w' := by
    simp only [execOp, ho, hc, Instr.storeAt, Instr.sureAddr, pure_bind, storeVar, Sem.run_bind, run_sizeOf' hT, Result.andThen_ok, q1, ne_eq, not_true_eq_false, if_false, Sem.run_pure, k1]
  rw [hrun]
  simp only [Array.length_toList, q1, Nat.add_zero] at k4
  obtain ⟨ρ', hp'⟩ := post_write (w := w) (w' := w') (I := I) (ρ := ρ) (e := ⟨.undef, [], [n], [(n, .cells (root.upd p u))]⟩) (c := Go.undef) (blk := .cells (root.upd p u)) rfl rfl hr (.inl ⟨rfl, rfl, rfl⟩) himm k5 k6 k7 k8 k9 fun ρ' hx hm hI => by
    refine ⟨trivial, b, base, r, hm, hI, arr', E, fz, k2, k3.trans h2, fun k hk => h3 k (by omega), ?_, ?_⟩
    · rw [g3]; simp only [List.length_append, AV.flat_length, hs]; rw [← hlen]; exact h4
    · intro k hk
      rw [g3] at hk ⊢
      simp only [List.length_append, AV.flat_length] at hk
      rw [k4]
      by_cases hin : base + off ≤ base + k ∧ base + k < base + off + u.size
      · rw [if_pos hin]
        have : k = pre.length + (k - off) := by rw [g1, hf]; omega
        rw [this, getD_mid _ _ _ _ _ (by rw [AV.flat_length]; omega)]
        have e1 : base + (pre.length + (k - off)) - (base + off) = k - off := by rw [g1, hf]; omega
        rw [e1]
        have := (q2 (k - off) (by omega)).mono hx himm
        simpa [Array.getD_eq_getD_getElem?, List.getD_eq_getElem?_getD] using this
      · rw [if_neg hin]
        have h6 := (h5 k (by rw [hlen]; omega)).mono hx himm
        rw [g2] at h6
        have e2 : (pre ++ u.flat ++ post).getD k AV.undef = (pre ++ old.flat ++ post).getD k AV.undef := by
          rw [List.getD_eq_getElem?_getD, List.getD_eq_getElem?_getD]
          rcases Nat.lt_or_ge k pre.length with hlt | hge
          · simp [List.getElem?_append, hlt]
          · have hge2 : pre.length + u.size ≤ k := by rw [g1, hf] at hge ⊢; omega
            rw [List.getElem?_append_right (by simp [AV.flat_length]; omega), List.getElem?_append_right (by simp [AV.flat_length]; omega)]
            simp [AV.flat_length, hs]
        rw [e2]; exact h6
  exact hK _ _ _ _ hp'
end
end Go.Proofs.Ytipbgaahpchhbaa
/- Parts of values, values put together, slices. -/
namespace Go.Proofs.Ytipbgaahpchhbaa
open Go Go.RowKit

section
variable {P : Program} {o : Oper} {ev : Operand → Option AV} {H : Nat → Option ABlk} {v : AV} {rd : List Nat}

theorem getD_toList (cs : Array Value) (k : Nat) (d : Value) : cs.toList.getD k d = cs.getD k d := by
  simp [Array.getD_eq_getD_getElem?, List.getD_eq_getElem?_getD]

theorem flatL_at {vs : List AV} {j : Nat} {u : AV} (h : vs[j]? = some u) : AV.flatL vs = AV.flatL (vs.take j) ++ u.flat ++ AV.flatL (vs.drop (j + 1)) := by
  conv => lhs; rw [split_at h]
  simp [AV.flatL_append, AV.flatL]

theorem part_rel {w : World} {I : Nat → Prop} {ρ : Rho} {T off : Nat} {xs pre post : List AV} {u : AV} {cs : Array Value} (hl : LoadOk P T u) (hc : CsRel w I ρ xs cs.toList) (hx : xs = pre ++ u.flat ++ post) (ho : pre.length = off) :
    ∃ c, VRel w I ρ u c ∧ (part T cs off).run P w = .ok c w := by
  obtain ⟨h1, h2⟩ := hc
  have hlen : xs.length = pre.length + u.size + post.length := by rw [hx]; simp [AV.flat_length]; omega
  have hr : ∀ k, k < u.size → CRel w I ρ (u.flat.getD k .undef) (cs.getD (off + k) Go.undef) := by
    intro k hk
    have := h2 (pre.length + k) (by omega)
    rw [hx, getD_mid _ _ _ _ _ (by rw [AV.flat_length]; exact hk), ho] at this
    simpa [Array.getD_eq_getD_getElem?, List.getD_eq_getElem?_getD] using this
  simp only [Array.length_toList] at h1
  by_cases hagg : ∃ vs, u = .agg vs
  · obtain ⟨vs, rfl⟩ := hagg
    obtain ⟨⟨d, hd, hda⟩, hs⟩ := hl
    simp only [AV.size] at hlen hr
    refine ⟨.agg (cs.extract off (off + AV.sizeL vs)), ⟨_, rfl, ?_, ?_⟩, ?_⟩
    · simp [AV.flatL_length]; omega
    · intro k hk
      rw [AV.flatL_length] at hk
      have := hr k hk
      simp only [AV.flat, Array.getD_eq_getD_getElem?] at this
      rw [getD_toList, Array.getD_eq_getD_getElem?, Array.getElem?_extract, if_pos (by omega)]
      exact this
    · unfold part
      simp only [Sem.run_bind, run_isAgg' hd, hda, Result.andThen_ok, if_true, run_sizeOf' hs, Sem.run_pure]
  · have g1 : ∀ vs, u ≠ .agg vs := fun vs h => hagg ⟨vs, h⟩
    have g2 : ∀ vs, u ≠ .tuple vs := fun vs h => by subst h; exact hl
    have hsz : u.size = 1 := by cases u <;> first | rfl | exact absurd rfl (g1 _)
    have hfl : u.flat = [u] := by cases u <;> first | rfl | exact absurd rfl (g1 _)
    have hd : ∃ d, P.underlying T = some d ∧ isAggD d = false := by
      cases u <;> first | exact hl | exact absurd rfl (g1 _) | exact absurd rfl (g2 _)
    obtain ⟨d, hd, hda⟩ := hd
    have hr0 := hr 0 (by omega)
    rw [hfl] at hr0
    refine ⟨cs.getD off Go.undef, VRel.cell (by simpa using hr0) g2 g1, ?_⟩
    have hlt : off < cs.size := by omega
    unfold part
    simp only [Sem.run_bind, run_isAgg' hd, hda, Result.andThen_ok, if_false, Bool.false_eq_true, Array.getElem?_eq_getElem hlt, Sem.run_pure]
    simp [Array.getD_eq_getD_getElem?, hlt]

theorem ls_field {T : TypeId} {x : Operand} {j : Nat} {vs : List AV} {u : AV} {fs : Array Field} {f : Field} (ho : o.op = .field T x j) (hx : ev x = some (.agg vs)) (hT : P.underlying T = some (.struct fs)) (hf : fs[j]? = some f)
    (hu : vs[j]? = some u) (hoff : f.offset = AV.sizeL (vs.take j)) (hl : LoadOk P f.type u) : LS P o ev H ⟨u, [], [], []⟩ := by
  refine LS.value fun a w I ρ hev hrd => ?_
  obtain ⟨cs, hc, hcs⟩ := inv_agg (hev x (by simp [ho, Op.operands]) _ hx)
  obtain ⟨c, h1, h2⟩ := part_rel (P := P) (T := f.type) (off := f.offset) hl hcs (flatL_at hu) (by rw [AV.flatL_length]; exact hoff.symm)
  exact ⟨c, h1, by simp only [execOp, ho, hc, Instr.field, asAgg, Sem.run_bind, run_underlying' hT, Result.andThen_ok, hf, pure_bind, h2, Sem.run_pure]⟩

theorem ls_index_arr {T E : TypeId} {x y : Operand} {vs : List AV} {u : AV} {n wd : Nat} {k : IntKind} {q : Int} (ho : o.op = .index T x y) (hx : ev x = some (.agg vs)) (hy : ev y = some (.int k q)) (hT : P.underlying T = some (.array n E))
    (hE : szOf P E = some wd) (h0 : 0 ≤ q) (h1 : q < n) (hu : vs[q.toNat]? = some u) (hoff : q.toNat * wd = AV.sizeL (vs.take q.toNat)) (hl : LoadOk P E u) : LS P o ev H ⟨u, [], [], []⟩ := by
  refine LS.value fun a w I ρ hev hrd => ?_
  obtain ⟨cs, hc, hcs⟩ := inv_agg (hev x (by simp [ho, Op.operands]) _ hx)
  have hq := inv_int (hev y (by simp [ho, Op.operands]) _ hy)
  obtain ⟨c, g1, g2⟩ := part_rel (P := P) (T := E) (off := q.toNat * wd) hl hcs (flatL_at hu) (by rw [AV.flatL_length]; exact hoff.symm)
  exact ⟨c, g1, by simp only [execOp, ho, hc, hq, Instr.index, asIntOf, pure_bind, Sem.run_bind, run_underlying' hT, Result.andThen_ok, h0, h1, and_self, if_true, run_sizeOf' hE, g2, Sem.run_pure]⟩

/-! #### values put together -/
/-- Fields set one behind the other. -/
def setParts (vs : List AV) : List (Nat × AV) → List AV
  | [] => vs
  | (i, u) :: r => setParts (vs.set i u) r

theorem foldl_set {cs : Array Value} {off : Nat} : ∀ (l : List Value) (k : Nat) (cells : Array Value), (l.zipIdx k).foldl (fun cs (x : Value × Nat) => cs.setIfInBounds (off + x.2) x.1) cells =
    (List.range l.length).foldl (fun cs j => cs.setIfInBounds (off + (k + j)) (l.getD j Go.undef)) cells := by
  intro l
  induction l with
  | nil => intro k cells; rfl
  | cons x r ih =>
    intro k cells
    simp only [List.zipIdx_cons, List.foldl_cons, List.length_cons, List.range_succ_eq_map, List.foldl_map, ih]
    simp [Nat.add_assoc, Nat.add_comm 1]

theorem foldl_range_get {off k : Nat} {f : Nat → Value} : ∀ (n : Nat) (cells : Array Value), off + n ≤ cells.size →
    ((List.range n).foldl (fun cs j => cs.setIfInBounds (off + j) (f j)) cells).size = cells.size ∧
    ((List.range n).foldl (fun cs j => cs.setIfInBounds (off + j) (f j)) cells).getD k Go.undef = if off ≤ k ∧ k < off + n then f (k - off) else cells.getD k Go.undef := by
  intro n
  induction n with
  | zero => intro cells _; simp; intro h1 h2; omega
  | succ n ih =>
    intro cells h
    rw [List.range_succ, List.foldl_append]
    obtain ⟨h1, h2⟩ := ih cells (by omega)
    simp only [List.foldl_cons, List.foldl_nil, Array.size_setIfInBounds, h1, true_and]
    rw [Array.getD_eq_getD_getElem?, Array.getElem?_setIfInBounds]
    by_cases hk : off + n = k
    · subst hk
      rw [if_pos rfl, if_pos (by rw [h1]; omega), if_pos ⟨by omega, by omega⟩]
      simp
    · rw [if_neg hk, ← Array.getD_eq_getD_getElem?, h2]
      by_cases hc : off ≤ k ∧ k < off + n
      · rw [if_pos hc, if_pos ⟨hc.1, by omega⟩]
      · rw [if_neg hc, if_neg (by omega)]

theorem fill_step {w : World} {I : Nat → Prop} {ρ : Rho} {vs : List AV} {cells : Array Value} {i off : Nat} {old u : AV} {c : Value} (hc : CsRel w I ρ (AV.flatL vs) cells.toList) (hu : vs[i]? = some old) (hoff : off = AV.sizeL (vs.take i))
    (hs : u.size = old.size) (hxu : XRel w I ρ u c) (hlay : u.layable = true) :
    c.cells.size = u.size ∧ off + u.size ≤ cells.size ∧ CsRel w I ρ (AV.flatL (vs.set i u)) (c.cells.zipIdx.foldl (fun cs (x, j) => cs.setIfInBounds (off + j) x) cells).toList := by
  obtain ⟨q1, q2, q3⟩ := cells_rel hxu (layable_ne hlay).1
  obtain ⟨h1, h2⟩ := hc
  have e1 := flatL_at hu
  have hi : i < vs.length := by
    rcases Nat.lt_or_ge i vs.length with h | h
    · exact h
    · simp [List.getElem?_eq_none h] at hu
  have e2 : AV.flatL (vs.set i u) = AV.flatL (vs.take i) ++ u.flat ++ AV.flatL (vs.drop (i + 1)) := by
    rw [set_split hu]; simp [AV.flatL_append, AV.flatL]
  have hlen : (AV.flatL vs).length = off + old.size + AV.sizeL (vs.drop (i + 1)) := by
    rw [e1]; simp [AV.flatL_length, AV.flat_length, hoff]; omega
  simp only [Array.length_toList] at h1
  have hfit : off + u.size ≤ cells.size := by omega
  have hfold : c.cells.zipIdx.foldl (fun cs (x, j) => cs.setIfInBounds (off + j) x) cells = (List.range u.size).foldl (fun cs j => cs.setIfInBounds (off + j) (c.cells.getD j Go.undef)) cells := by
    rw [← Array.foldl_toList, Array.toList_zipIdx]
    have := foldl_set (cs := cells) (off := off) c.cells.toList 0 cells
    simp only [Nat.zero_add, Array.length_toList, q1] at this
    rw [this]
    congr 1
    funext cs j
    simp [Array.getD_eq_getD_getElem?, List.getD_eq_getElem?_getD]
  refine ⟨q1, hfit, ?_, fun k hk => ?_⟩
  · rw [hfold, Array.length_toList, (foldl_range_get (k := 0) u.size cells hfit).1, e2]
    simp [AV.flatL_length, AV.flat_length, hs]; omega
  · have hget := (foldl_range_get (off := off) (k := k) (f := fun j => c.cells.getD j Go.undef) u.size cells hfit).2
    rw [hfold, getD_toList, hget]
    rw [e2] at hk ⊢
    have hpre : (AV.flatL (vs.take i)).length = off := by rw [AV.flatL_length]; exact hoff.symm
    by_cases hin : off ≤ k ∧ k < off + u.size
    · rw [if_pos hin]
      have : k = (AV.flatL (vs.take i)).length + (k - off) := by omega
      rw [this, getD_mid _ _ _ _ _ (by rw [AV.flat_length]; omega)]
      have e3 : (AV.flatL (vs.take i)).length + (k - off) - off = k - off := by omega
      rw [e3]
      exact q2 (k - off) (by omega)
    · rw [if_neg hin]
      simp only [List.length_append, AV.flat_length, AV.flatL_length] at hk
      have h6 := h2 k (by rw [hlen]; omega)
      rw [e1] at h6
      have e4 : (AV.flatL (vs.take i) ++ u.flat ++ AV.flatL (vs.drop (i + 1))).getD k AV.undef = (AV.flatL (vs.take i) ++ old.flat ++ AV.flatL (vs.drop (i + 1))).getD k AV.undef := by
        rw [List.getD_eq_getElem?_getD, List.getD_eq_getElem?_getD]
        rcases Nat.lt_or_ge k off with hlt | hge
        · simp [List.getElem?_append, hpre, hlt]
        · have hge2 : off + u.size ≤ k := by omega
          rw [List.getElem?_append_right (by simp [AV.flat_length, hpre]; omega), List.getElem?_append_right (by simp [AV.flat_length, hpre]; omega)]
          simp [AV.flat_length, hs]
      rw [e4]
      simpa [Array.getD_eq_getD_getElem?, List.getD_eq_getElem?_getD] using h6

/-- The parts fit their places. -/
def PartsOk (place : Nat → Option (Nat × Nat)) : List AV → List (Nat × AV) → Prop
  | _, [] => True
  | vs, (i, u) :: r => u.layable = true ∧ (∃ old, vs[i]? = some old ∧ u.size = old.size ∧ place i = some (AV.sizeL (vs.take i), u.size)) ∧ PartsOk place (vs.set i u) r

theorem fill_rel {w : World} {I : Nat → Prop} {ρ : Rho} {place : Nat → Option (Nat × Nat)} : ∀ (us : List (Nat × AV)) (ps : List (Nat × Value)) (vs : List AV) (cells : Array Value), us.map (·.1) = ps.map (·.1) →
    (∀ k, k < us.length → XRel w I ρ (us.getD k (0, .undef)).2 (ps.getD k (0, Go.undef)).2) → PartsOk place vs us → CsRel w I ρ (AV.flatL vs) cells.toList →
    ∃ cells', Instr.fill place cells ps = some cells' ∧ CsRel w I ρ (AV.flatL (setParts vs us)) cells'.toList
  | [], [], vs, cells, _, _, _, hc => ⟨cells, rfl, hc⟩
  | [], _ :: _, vs, cells, h, _, _, _ => by simp at h
  | _ :: _, [], vs, cells, h, _, _, _ => by simp at h
  | (i, u) :: us, (i', c) :: ps, vs, cells, h, hx, hp, hc => by
    simp only [List.map_cons, List.cons.injEq] at h
    obtain ⟨rfl, h⟩ := h
    obtain ⟨h1, ⟨old, h2, h3, h4⟩, h5⟩ := hp
    obtain ⟨g1, g2, g3⟩ := fill_step hc h2 rfl h3 (by simpa using hx 0 (by simp)) h1
    obtain ⟨cells', k1, k2⟩ := fill_rel us ps (vs.set i u) _ h (fun k hk => by simpa using hx (k + 1) (by simpa using hk)) h5 g3
    refine ⟨cells', ?_, k2⟩
    simp only [Instr.fill, h4]
    rw [if_neg (by simp; exact ⟨g1, by omega⟩)]
    exact k1

theorem parts_rel {w : World} {I : Nat → Prop} {ρ : Rho} {a : Act} {ps : List (Nat × Operand)} {us : List (Nat × AV)} (hps : ps.map (fun x => (x.1, ev x.2)) = us.map (fun x => (x.1, some x.2))) (hlay : ∀ x, x ∈ us → x.2.layable = true)
    (hev : ∀ x, x ∈ ps → ∀ v, ev x.2 = some v → VRel w I ρ v (a.eval x.2)) :
    us.map (·.1) = (ps.map fun x => (x.1, a.eval x.2)).map (·.1) ∧ ∀ k, k < us.length → XRel w I ρ (us.getD k (0, .undef)).2 ((ps.map fun x => (x.1, a.eval x.2)).getD k (0, Go.undef)).2 := by
  induction ps generalizing us with
  | nil => cases us <;> simp at hps ⊢
  | cons p ps ih =>
    cases us with
    | nil => simp at hps
    | cons u us =>
      simp only [List.map_cons, List.cons.injEq, Prod.mk.injEq] at hps
      obtain ⟨⟨h1, h2⟩, h3⟩ := hps
      obtain ⟨g1, g2⟩ := ih h3 (fun x hx => hlay x (by simp [hx])) (fun x hx => hev x (by simp [hx]))
      refine ⟨by simp only [List.map_cons, List.cons.injEq]; exact ⟨h1.symm, g1⟩, fun k hk => ?_⟩
      cases k with
      | zero =>
        simp only [List.getD_cons_zero, List.map_cons]
        exact XRel.of_V (hev p (by simp) _ h2) (layable_ne (hlay u (by simp))).2
      | succ k => simpa using g2 k (by simpa using hk)

/-- Where a struct's fields lie. -/
def fieldPlaces (P : Program) (fs : Array Field) (i : Nat) : Option (Nat × Nat) := (fs[i]?).bind fun f => (szOf P f.type).map fun n => (f.offset, n)

theorem run_places {fs : Array Field} (h : ∀ f, f ∈ fs → (szOf P f.type).isSome = true) (w : World) : ∃ places : Array (Nat × Nat), (fs.mapM fun f => do pure (f.offset, ← sizeOf f.type) : Sem _).run P w = .ok places w ∧ ∀ i : Nat, places[i]? = fieldPlaces P fs i := by
  obtain ⟨l⟩ := fs
  have key : ∀ l : List Field, (∀ f, f ∈ l → (szOf P f.type).isSome = true) → ∃ places : List (Nat × Nat), (l.mapM fun f => do pure (f.offset, ← sizeOf f.type) : Sem _).run P w = .ok places w ∧ ∀ i : Nat, places[i]? = (l[i]?).bind fun f => (szOf P f.type).map fun n => (f.offset, n) := by
    intro l
    induction l with
    | nil => intro _; exact ⟨[], rfl, by simp⟩
    | cons f l ih =>
      intro h
      obtain ⟨places, h1, h2⟩ := ih fun g hg => h g (by simp [hg])
      have hf := h f (by simp)
      cases hs : szOf P f.type with
      | none => rw [hs] at hf; cases hf
      | some n =>
        refine ⟨(f.offset, n) :: places, ?_, fun i => ?_⟩
        · simp only [List.mapM_cons, Sem.run_bind, run_sizeOf' hs, Result.andThen_ok, Sem.run_pure, h1]
        · cases i with
          | zero => simp [hs]
          | succ i => simpa using h2 i
  obtain ⟨places, h1, h2⟩ := key l (by simpa using h)
  refine ⟨places.toArray, ?_, fun i => by simpa [fieldPlaces] using h2 i⟩
  rw [List.mapM_toArray]
  simp only [Sem.run_map, h1, Result.andThen_ok]

theorem ls_build_struct {T : TypeId} {ps : Array (Nat × Operand)} {us : List (Nat × AV)} {zs : List AV} {fs : Array Field} (ho : o.op = .build T ps) (hT : P.underlying T = some (.struct fs)) (hz : ZeroIs P T (.agg zs))
    (hps : ps.toList.map (fun x => (x.1, ev x.2)) = us.map (fun x => (x.1, some x.2))) (hfs : ∀ f, f ∈ fs → (szOf P f.type).isSome = true) (hp : PartsOk (fieldPlaces P fs) zs us) (hlay : ∀ x, x ∈ us → x.2.layable = true) :
    LS P o ev H ⟨.agg (setParts zs us), [], [], []⟩ := by
  refine LS.value fun a w I ρ hev hrd => ?_
  obtain ⟨_, c, hzr, hzx⟩ := hz
  obtain ⟨cs, rfl, hcs⟩ := hzx w I ρ
  obtain ⟨g1, g2⟩ := parts_rel (w := w) (I := I) (ρ := ρ) (a := a) hps hlay (fun x hx v hv => hev x.2 (by rw [ho]; simp [Op.operands]; exact ⟨x.1, by simpa using hx⟩) v hv)
  obtain ⟨places, p1, p2⟩ := run_places (P := P) hfs w
  obtain ⟨cells', k1, k2⟩ := fill_rel us _ zs cs g1 g2 hp hcs
  refine ⟨.agg cells', ⟨cells', rfl, k2⟩, ?_⟩
  have hpl : (fun i => places[i]?) = fieldPlaces P fs := funext p2
  simp only [execOp, ho, Instr.build, Sem.run_bind, hzr, Result.andThen_ok, run_underlying' hT, p1, Value.cells, hpl, Array.toList_map, k1, Sem.run_pure]

theorem ls_build_array {T E : TypeId} {n sz : Nat} {ps : Array (Nat × Operand)} {us : List (Nat × AV)} {zs : List AV} (ho : o.op = .build T ps) (hT : P.underlying T = some (.array n E)) (hz : ZeroIs P T (.agg zs)) (hE : szOf P E = some sz)
    (hps : ps.toList.map (fun x => (x.1, ev x.2)) = us.map (fun x => (x.1, some x.2))) (hp : PartsOk (fun i => some (i * sz, sz)) zs us) (hlay : ∀ x, x ∈ us → x.2.layable = true) :
    LS P o ev H ⟨.agg (setParts zs us), [], [], []⟩ := by
  refine LS.value fun a w I ρ hev hrd => ?_
  obtain ⟨_, c, hzr, hzx⟩ := hz
  obtain ⟨cs, rfl, hcs⟩ := hzx w I ρ
  obtain ⟨g1, g2⟩ := parts_rel (w := w) (I := I) (ρ := ρ) (a := a) hps hlay (fun x hx v hv => hev x.2 (by rw [ho]; simp [Op.operands]; exact ⟨x.1, by simpa using hx⟩) v hv)
  obtain ⟨cells', k1, k2⟩ := fill_rel us _ zs cs g1 g2 hp hcs
  refine ⟨.agg cells', ⟨cells', rfl, k2⟩, ?_⟩
  simp only [execOp, ho, Instr.build, Sem.run_bind, hzr, Result.andThen_ok, run_underlying' hT, run_sizeOf' hE, Value.cells, Array.toList_map, k1, Sem.run_pure]

end
end Go.Proofs.Ytipbgaahpchhbaa
/- Slices: cut, made, appended to, copied; texts of bytes. -/
namespace Go.Proofs.Ytipbgaahpchhbaa
open Go Go.RowKit

/-- All of one width. -/
def Unif (wd : Nat) (es : List AV) : Prop := ∀ x, x ∈ es → AV.size x = wd

theorem Unif.sizeL {wd : Nat} : ∀ {es : List AV}, Unif wd es → AV.sizeL es = es.length * wd
  | [], _ => by simp [AV.sizeL]
  | e :: es, h => by
    simp only [AV.sizeL, List.length_cons, Nat.add_mul, Nat.one_mul]
    rw [h e (by simp), Unif.sizeL (es := es) fun x hx => h x (by simp [hx])]; omega
theorem Unif.take {wd : Nat} {es : List AV} (h : Unif wd es) (k : Nat) : Unif wd (es.take k) := fun x hx => h x (List.mem_of_mem_take hx)
theorem Unif.drop {wd : Nat} {es : List AV} (h : Unif wd es) (k : Nat) : Unif wd (es.drop k) := fun x hx => h x (List.mem_of_mem_drop hx)
theorem Unif.append {wd : Nat} {a b : List AV} (h : Unif wd a) (k : Unif wd b) : Unif wd (a ++ b) := fun x hx => by
  rcases List.mem_append.1 hx with hx | hx
  · exact h x hx
  · exact k x hx

section
variable {P : Program} {o : Oper} {ev : Operand → Option AV} {H : Nat → Option ABlk} {v : AV} {rd : List Nat}

/-- A bound of a slice expression: the operand's number, or what stands for none. -/
def CBnd (c : Operand → Value) (y : Option Operand) (l d : Int) : Prop := match y with
  | some y => ∃ k, c y = .int k l
  | none => l = d

theorem run_sliceBounds {c : Operand → Value} {w : World} {isS : Bool} {len cap : Nat} {lo hi : Option Operand} {l h : Int} (hlo : CBnd c lo l 0)
    (hhi : CBnd c hi h len) (h0 : 0 ≤ l) (h1 : l ≤ h) (h2 : hi.isSome = true → h ≤ cap) :
    (Instr.sliceBounds isS len cap (lo.map c) (hi.map c) none).run P w = .ok (l.toNat, h.toNat, cap) w := by
  have b2 : (h.toNat : Int) = h := by omega
  have h1' : l ≤ (h.toNat : Int) := by omega
  have hh : 0 ≤ h := by omega
  cases lo with
  | none =>
    simp only [CBnd] at hlo; subst hlo
    cases hi with
    | none => simp only [CBnd] at hhi; subst hhi; simp [Instr.sliceBounds]
    | some y =>
      obtain ⟨k, hy⟩ := hhi
      have := h2 rfl
      simp [Instr.sliceBounds, hy, Instr.sliceBound, asIntOf, this, hh]
  | some z =>
    obtain ⟨k', hz⟩ := hlo
    cases hi with
    | none => simp only [CBnd] at hhi; subst hhi; simp [Instr.sliceBounds, hz, Instr.sliceBound, asIntOf, h0, h1]
    | some y =>
      obtain ⟨k, hy⟩ := hhi
      have := h2 rfl
      simp only [Instr.sliceBounds, Option.map_some, hy, hz, Instr.sliceBound, asIntOf, pure_bind, Sem.run_bind, Sem.run_ite, this, hh, and_self, if_true, Sem.run_pure, Result.andThen_ok, h0, h1', true_and]

def Bnd (ev : Operand → Option AV) (y : Option Operand) (l d : Int) : Prop := match y with
  | some y => ∃ k, ev y = some (.int k l)
  | none => l = d

theorem Bnd.eval {w : World} {I : Nat → Prop} {ρ : Rho} {a : Act} {y : Option Operand} {l d : Int} (h : Bnd ev y l d) (hev : ∀ x, some x = y → ∀ v, ev x = some v → VRel w I ρ v (a.eval x)) :
    CBnd a.eval y l d := by
  cases y with
  | none => exact h
  | some y => obtain ⟨k, hk⟩ := h; exact ⟨k, inv_int (hev y rfl _ hk)⟩

theorem getD_drop {α : Type} (l : List α) (n k : Nat) (d : α) : (l.drop n).getD k d = l.getD (n + k) d := by
  simp [List.getD_eq_getElem?_getD, List.getElem?_drop]

theorem flatL_drop {wd : Nat} {es : List AV} (hu : Unif wd es) {l : Nat} (hl : l ≤ es.length) : AV.flatL (es.drop l) = (AV.flatL es).drop (l * wd) := by
  conv => rhs; rw [← List.take_append_drop l es, AV.flatL_append]
  have : (AV.flatL (es.take l)).length = l * wd := by rw [AV.flatL_length, (hu.take l).sizeL, List.length_take, Nat.min_eq_left hl]
  rw [← this, List.drop_left]
theorem flatL_take {wd : Nat} {es : List AV} (hu : Unif wd es) {l : Nat} (hl : l ≤ es.length) : AV.flatL (es.take l) = (AV.flatL es).take (l * wd) := by
  conv => rhs; rw [← List.take_append_drop l es, AV.flatL_append]
  have : (AV.flatL (es.take l)).length = l * wd := by rw [AV.flatL_length, (hu.take l).sizeL, List.length_take, Nat.min_eq_left hl]
  rw [← this, List.take_left]

theorem ls_slice_nil {T E : TypeId} {x : Operand} {lo hi : Option Operand} (ho : o.op = .slice T x lo hi none) (hx : ev x = some .nilsl) (hlo : Bnd ev lo 0 0) (hhi : Bnd ev hi 0 0) (hT : P.underlying T = some (.slice E)) {wd : Nat} (hE : szOf P E = some wd) :
    LS P o ev H ⟨.nilsl, [], [], []⟩ := by
  refine LS.value fun a w I ρ hev hrd => ?_
  have hc := inv_nilsl (hev x (by cases lo <;> cases hi <;> simp [ho, Op.operands]) _ hx)
  refine ⟨.slice none 0 0, CRel.nilsl, ?_⟩
  have e1 := run_sliceBounds (P := P) (w := w) (c := a.eval) (isS := true) (len := 0) (cap := 0) (l := 0) (h := 0) (hlo.eval fun x hx v hv => hev x (by subst hx; cases hi <;> simp [ho, Op.operands]) v hv)
    (hhi.eval fun x hx v hv => hev x (by subst hx; cases lo <;> simp [ho, Op.operands]) v hv) (by omega) (by omega) (fun _ => by omega)
  simp only [Int.toNat_zero] at e1
  simp only [execOp, ho, hc, Instr.sliceAt, Instr.slice, Sem.run_bind, run_underlying' hT, Result.andThen_ok, Option.map_none, e1, run_sizeOf' hE, Sem.run_pure, Nat.sub_self, if_true]

theorem ls_slice_vsl {T E : TypeId} {x : Operand} {lo hi : Option Operand} {es : List AV} {len wd : Nat} {l h : Int} (ho : o.op = .slice T x lo hi none) (hx : ev x = some (.vsl es len)) (hlo : Bnd ev lo l 0) (hhi : Bnd ev hi h len)
    (hT : P.underlying T = some (.slice E)) (hE : szOf P E = some wd) (hu : Unif wd es) (h0 : 0 ≤ l) (h1 : l ≤ h) (h2 : h ≤ es.length) : LS P o ev H ⟨.vsl (es.drop l.toNat) (h.toNat - l.toNat), [], [], []⟩ := by
  refine LS.value fun a w I ρ hev hrd => ?_
  have glo := hlo.eval (w := w) (I := I) (ρ := ρ) (a := a) fun x hx v hv => hev x (by subst hx; cases hi <;> simp [ho, Op.operands]) v hv
  have ghi := hhi.eval (w := w) (I := I) (ρ := ρ) (a := a) fun x hx v hv => hev x (by subst hx; cases lo <;> simp [ho, Op.operands]) v hv
  rcases inv_vsl (hev x (by cases lo <;> cases hi <;> simp [ho, Op.operands]) _ hx) with ⟨rfl, rfl, ad, k, hc⟩ | ⟨b, base, cap, f, hI, hl1, hl2, hc1, hc2, hc⟩
  · have : l = 0 := by simp at h2; omega
    have : h = 0 := by simp at h2; omega
    subst l; subst h
    have e1 := run_sliceBounds (P := P) (w := w) (c := a.eval) (isS := true) (len := 0) (cap := k) glo ghi (by omega) (by omega) (fun _ => by omega)
    simp only [Int.toNat_zero] at e1
    refine ⟨_, CRel.vsl0 (if k = 0 then ad else ad.map (·.add (0 * wd))) (k - 0), ?_⟩
    simp only [execOp, ho, hc, Instr.sliceAt, Instr.slice, Sem.run_bind, run_underlying' hT, Result.andThen_ok, Option.map_none, e1, run_sizeOf' hE, Sem.run_pure, Nat.sub_self]
  · have e1 := run_sliceBounds (P := P) (w := w) (c := a.eval) (isS := true) (len := len) (cap := cap) glo ghi h0 h1 (fun _ => by omega)
    have hrun : (execOp a.eval o).run P w = .ok (.value (.slice (if cap = l.toNat then some ⟨b, base, none⟩ else some ⟨b, base + l.toNat * wd, none⟩) (h.toNat - l.toNat) (cap - l.toNat))) w := by
      simp only [execOp, ho, hc, Instr.sliceAt, Instr.slice, Sem.run_bind, run_underlying' hT, Result.andThen_ok, Option.map_none, e1, run_sizeOf' hE, Sem.run_pure, Option.map_some, add_mk]
    by_cases hcl : cap = l.toNat
    · have hlen : es.length ≤ l.toNat := by omega
      refine ⟨_, ?_, hrun⟩
      rw [List.drop_eq_nil_of_le hlen]
      have : h.toNat - l.toNat = 0 := by omega
      rw [this]
      exact CRel.vsl0 _ _
    · refine ⟨_, ?_, hrun⟩
      rw [if_neg hcl]
      have hll : l.toNat ≤ es.length := by omega
      have hsz : AV.sizeL es = l.toNat * wd + AV.sizeL (es.drop l.toNat) := by
        rw [hu.sizeL, (hu.drop _).sizeL, List.length_drop, ← Nat.add_mul]; congr 1; omega
      refine CRel.vsl _ _ _ _ _ (fun j => f (l.toNat * wd + j)) hI (by rw [List.length_drop]; omega) (by rw [List.length_drop]; omega) (fun j hj => ?_) (fun j hj => ?_)
      · rw [Nat.add_assoc]; exact hc1 _ (by omega)
      · have := hc2 (l.toNat * wd + j) (by omega)
        rw [flatL_drop hu hll, getD_drop]; exact this

theorem ls_slice_sl {T E : TypeId} {x : Operand} {lo hi : Option Operand} {n off : Nat} {p : List Nat} {i len cap wd : Nat} {l h : Int} (ho : o.op = .slice T x lo hi none) (hx : ev x = some (.sl n off p i len cap wd)) (hlo : Bnd ev lo l 0) (hhi : Bnd ev hi h len)
    (hT : P.underlying T = some (.slice E)) (hE : szOf P E = some wd) (h0 : 0 ≤ l) (h1 : l ≤ h) (h2 : h ≤ cap) : LS P o ev H ⟨.sl n (off + l.toNat * wd) p (i + l.toNat) (h.toNat - l.toNat) (cap - l.toNat) wd, [], [], []⟩ := by
  refine LS.value fun a w I ρ hev hrd => ?_
  have glo := hlo.eval (w := w) (I := I) (ρ := ρ) (a := a) fun x hx v hv => hev x (by subst hx; cases hi <;> simp [ho, Op.operands]) v hv
  have ghi := hhi.eval (w := w) (I := I) (ρ := ρ) (a := a) fun x hx v hv => hev x (by subst hx; cases lo <;> simp [ho, Op.operands]) v hv
  rcases inv_sl (hev x (by cases lo <;> cases hi <;> simp [ho, Op.operands]) _ hx) with ⟨rfl, rfl, ad, hc⟩ | ⟨b, base, r, k, hr, g1, g2, g3, hc⟩
  · have : l = 0 := by omega
    have : h = 0 := by omega
    subst l; subst h
    have e1 := run_sliceBounds (P := P) (w := w) (c := a.eval) (isS := true) (len := 0) (cap := 0) glo ghi (by omega) (by omega) (fun _ => by omega)
    simp only [Int.toNat_zero] at e1
    refine ⟨_, CRel.sl0 _ _ _ _ _ ad, ?_⟩
    simp only [execOp, ho, hc, Instr.sliceAt, Instr.slice, Sem.run_bind, run_underlying' hT, Result.andThen_ok, Option.map_none, e1, run_sizeOf' hE, Sem.run_pure, Nat.sub_self, if_true]
  · have e1 := run_sliceBounds (P := P) (w := w) (c := a.eval) (isS := true) (len := len) (cap := k) glo ghi h0 h1 (fun _ => by omega)
    have hrun : (execOp a.eval o).run P w = .ok (.value (.slice (if k = l.toNat then some ⟨b, base + off, none⟩ else some ⟨b, base + off + l.toNat * wd, none⟩) (h.toNat - l.toNat) (k - l.toNat))) w := by
      simp only [execOp, ho, hc, Instr.sliceAt, Instr.slice, Sem.run_bind, run_underlying' hT, Result.andThen_ok, Option.map_none, e1, run_sizeOf' hE, Sem.run_pure, Option.map_some, add_mk]
    refine ⟨_, ?_, hrun⟩
    by_cases hkl : k = l.toNat
    · rw [if_pos hkl]
      have e2 : h.toNat - l.toNat = 0 := by omega
      have e3 : k - l.toNat = 0 := by omega
      have e4 : cap - l.toNat = 0 := by omega
      rw [e2, e3, e4]
      exact CRel.sl0 _ _ _ _ _ _
    · rw [if_neg hkl]
      have h3 : l.toNat * wd + (k - l.toNat) * wd = k * wd := by rw [← Nat.add_mul]; congr 1; omega
      have := CRel.sl (w := w) (I := I) (ρ := ρ) n (off + l.toNat * wd) p (i + l.toNat) (h.toNat - l.toNat) (cap - l.toNat) wd b base r (k - l.toNat) hr (by omega) (by omega) (by omega)
      rw [← Nat.add_assoc] at this
      exact this

theorem ls_slice_arr {T E : TypeId} {x : Operand} {lo hi : Option Operand} {n off : Nat} {p : List Nat} {len wd : Nat} {l h : Int} {root : AV} {es : List AV} (ho : o.op = .slice T x lo hi none) (hx : ev x = some (.ptr n off p)) (hlo : Bnd ev lo l 0) (hhi : Bnd ev hi h len)
    (hT : P.underlying T = some (.array len E)) (hE : szOf P E = some wd) (hH : H n = some (.cells root)) (hp : root.proj p = some (.agg es)) (hf : root.offOf p = off) (hs : AV.sizeL es = len * wd) (h0 : 0 ≤ l) (h1 : l ≤ h) (h2 : h ≤ len) :
    LS P o ev H ⟨.sl n (off + l.toNat * wd) p l.toNat (h.toNat - l.toNat) (len - l.toNat) wd, [n], [], []⟩ := by
  refine LS.value fun a w I ρ hev hrd => ?_
  have glo := hlo.eval (w := w) (I := I) (ρ := ρ) (a := a) fun x hx v hv => hev x (by subst hx; cases hi <;> simp [ho, Op.operands]) v hv
  have ghi := hhi.eval (w := w) (I := I) (ρ := ρ) (a := a) fun x hx v hv => hev x (by subst hx; cases lo <;> simp [ho, Op.operands]) v hv
  obtain ⟨b, base, r, hr, hc⟩ := inv_ptr (hev x (by cases lo <;> cases hi <;> simp [ho, Op.operands]) _ hx)
  obtain ⟨b', o', r', hr', hI, hlies⟩ := hrd n (by simp) _ hH
  rw [hr] at hr'; cases hr'
  obtain ⟨arr, E', fz, g1, g2, g3, g4, g5⟩ := hlies.ex
  obtain ⟨pre, post, k1, k2, _⟩ := AV.flat_at p root _ hp
  have hlen : root.flat.length = off + len * wd + post.length := by rw [k2]; simp [AV.flat_length, AV.size, hs, k1, hf]; omega
  have e1 := run_sliceBounds (P := P) (w := w) (c := a.eval) (isS := false) (len := len) (cap := len) glo ghi h0 h1 (fun _ => by omega)
  have hrun : (execOp a.eval o).run P w = .ok (.value (.slice (some (if len = l.toNat then ⟨b, base + off, none⟩ else ⟨b, base + off + l.toNat * wd, none⟩)) (h.toNat - l.toNat) (len - l.toNat))) w := by
    simp only [execOp, ho, hc, Instr.sliceAt, Instr.sureAddr, Sem.run_bind, run_underlying' hT, Result.andThen_ok, Option.map_none, e1, run_sizeOf' hE, Sem.run_pure, pure_bind, add_mk]
  refine ⟨_, ?_, hrun⟩
  by_cases hkl : len = l.toNat
  · rw [if_pos hkl]
    have e2 : h.toNat - l.toNat = 0 := by omega
    have e3 : len - l.toNat = 0 := by omega
    rw [e2, e3]
    exact CRel.sl0 _ _ _ _ _ _
  · rw [if_neg hkl]
    have h3 : l.toNat * wd + (len - l.toNat) * wd = len * wd := by rw [← Nat.add_mul]; congr 1; omega
    have := CRel.sl (w := w) (I := I) (ρ := ρ) n (off + l.toNat * wd) p l.toNat (h.toNat - l.toNat) (len - l.toNat) wd b base r (len - l.toNat) hr (by omega) (by omega) (by omega)
    rw [← Nat.add_assoc] at this
    exact this

/-! #### rows as sources -/
def byteAV (b : UInt8) : AV := .int .u8 b.toNat
theorem size_byteAV (b : UInt8) : (byteAV b).size = 1 := rfl

/-- What a slice, or a text, hands out: its elements. -/
inductive IsSrc (H : Nat → Option ABlk) (wd : Nat) : AV → List Nat → List AV → Prop
  | nil : IsSrc H wd .nilsl [] []
  | vsl (es : List AV) (len : Nat) : len ≤ es.length → Unif wd es → IsSrc H wd (.vsl es len) [] (es.take len)
  | sl (n off : Nat) (p : List Nat) (i len cap : Nat) (root : AV) (es : List AV) : H n = some (.cells root) → root.proj p = some (.agg es) → off = root.offOf p + i * wd → i + len ≤ es.length → Unif wd es →
      IsSrc H wd (.sl n off p i len cap wd) [n] ((es.drop i).take len)
  | str (s : ByteArray) : wd = 1 → IsSrc H wd (.str s) [] (s.data.toList.map byteAV)

theorem flatL_bytes (l : List UInt8) : AV.flatL (l.map byteAV) = l.map byteAV := by
  induction l with
  | nil => rfl
  | cons b l ih => simp only [List.map_cons, AV.flatL, ih]; rfl

theorem src_rel {w : World} {I : Nat → Prop} {ρ : Rho} {wd : Nat} {x : AV} {c : Value} {xs : List AV} (h : IsSrc H wd x rd xs) (hc : VRel w I ρ x c) (hrd : ∀ n, n ∈ rd → ∀ b, H n = some b → BRel w I ρ n b) :
    Unif wd xs ∧ (Builtin.lenOf c).run P w = .ok xs.length w ∧ ∀ k, k ≤ xs.length → ∃ cs : Array Value, (∀ w', w'.heap = w.heap → (Builtin.firstCells wd k c).run P w' = .ok cs w') ∧ CsRel w I ρ (AV.flatL (xs.take k)) cs.toList := by
  cases h with
  | nil =>
    have := inv_nilsl hc; subst this
    refine ⟨fun x hx => by simp at hx, rfl, fun k hk => ⟨#[], fun _ _ => rfl, ?_⟩⟩
    simp at hk; subst hk
    exact ⟨rfl, fun k hk => by simp [AV.flatL] at hk⟩
  | vsl es len hl hu =>
    rcases inv_vsl hc with ⟨rfl, rfl, ad, k, rfl⟩ | ⟨b, base, cap, f, hI, hl1, hl2, hc1, hc2, rfl⟩
    · refine ⟨fun x hx => by simp at hx, rfl, fun k hk => ?_⟩
      simp at hk; subst hk
      refine ⟨#[], fun w' _ => ?_, ⟨rfl, fun k hk => by simp [AV.flatL] at hk⟩⟩
      cases ad with
      | none => rfl
      | some ad => simp [Builtin.firstCells, run_loadCells w' ad 0 (fun _ => Go.undef) (fun j hj => by omega)]
    · refine ⟨hu.take len, by simp [Builtin.lenOf, List.length_take, Nat.min_eq_left hl], fun k hk => ?_⟩
      rw [List.length_take, Nat.min_eq_left hl] at hk
      have e0 : (es.take len).take k = es.take k := by rw [List.take_take, Nat.min_eq_left hk]
      have hkl : k ≤ es.length := by omega
      have hsz : AV.sizeL es = k * wd + AV.sizeL (es.drop k) := by
        rw [hu.sizeL, (hu.drop _).sizeL, List.length_drop, ← Nat.add_mul]; congr 1; omega
      refine ⟨((List.range (k * wd)).map f).toArray, fun w' hw' => ?_, ?_, fun j hj => ?_⟩
      · have hcell : ∀ a : Addr, w'.cell? a = w.cell? a := fun a => by simp only [World.cell?, hw']
        simp only [Builtin.firstCells]
        rw [run_loadCells w' ⟨b, base, none⟩ (k * wd) f (fun j hj => by rw [add_mk, hcell]; exact hc1 j (by omega))]
      · rw [e0, AV.flatL_length, (hu.take k).sizeL, List.length_take, Nat.min_eq_left hkl]; simp
      · rw [e0, flatL_take hu hkl] at hj ⊢
        simp only [List.length_take] at hj
        have hj2 : j < k * wd := by omega
        have := hc2 j (by omega)
        have e1 : ((AV.flatL es).take (k * wd)).getD j AV.undef = (AV.flatL es).getD j AV.undef := by
          simp [List.getD_eq_getElem?_getD, List.getElem?_take, hj2]
        rw [e1]
        simpa [List.getD_eq_getElem?_getD, hj2] using this
  | sl n off p i len cap root es hH hp hoff hil hu =>
    have hlen0 : ((es.drop i).take len).length = len := by rw [List.length_take, List.length_drop]; omega
    rcases inv_sl hc with ⟨rfl, rfl, ad, rfl⟩ | ⟨b, base, r, k', hr, g1, g2, g3, rfl⟩
    · refine ⟨(hu.drop i).take 0, by simp [Builtin.lenOf], fun k hk => ?_⟩
      simp at hk; subst hk
      exact ⟨#[], fun w' _ => by simp [Builtin.firstCells, run_loadCells w' ad 0 (fun _ => Go.undef) (fun j hj => by omega)], ⟨by simp [AV.flatL], fun k hk => by simp [AV.flatL] at hk⟩⟩
    · obtain ⟨b', o', r', hr', hI, hlies⟩ := hrd n (by simp) _ hH
      rw [hr] at hr'; cases hr'
      obtain ⟨arr, E', fz, k1, k2, k3, k4, k5⟩ := hlies.ex
      obtain ⟨pre, post, q1, q2, _⟩ := AV.flat_at p root _ hp
      refine ⟨(hu.drop i).take len, by simp [Builtin.lenOf, hlen0], fun k hk => ?_⟩
      rw [hlen0] at hk
      have e0 : ((es.drop i).take len).take k = (es.drop i).take k := by rw [List.take_take, Nat.min_eq_left hk]
      have hui := hu.drop i
      have hkl : k ≤ (es.drop i).length := by rw [List.length_drop]; omega
      have hes : AV.sizeL es = i * wd + k * wd + AV.sizeL ((es.drop i).drop k) := by
        rw [hu.sizeL, (hui.drop k).sizeL, List.length_drop, List.length_drop, ← Nat.add_mul, ← Nat.add_mul]; congr 1; omega
      have hroot : root.flat.length = root.offOf p + AV.sizeL es + post.length := by rw [q2]; simp [AV.flat_length, AV.size, q1]; omega
      have hcellf : ∀ j, j < k * wd → arr.getD (base + off + j) Go.undef = arr.getD (base + off + j) Go.undef ∧ base + off + j < arr.size := fun j hj => ⟨rfl, by rw [k2]; omega⟩
      refine ⟨((List.range (k * wd)).map fun j => arr.getD (base + off + j) Go.undef).toArray, fun w' hw' => ?_, ?_, fun j hj => ?_⟩
      · simp only [Builtin.firstCells]
        rw [run_loadCells w' ⟨b, base + off, none⟩ (k * wd) (fun j => arr.getD (base + off + j) Go.undef) (fun j hj => by
          rw [add_mk]
          have := (hcellf j hj).2
          simp [World.cell?, hw', k1, Array.getD_eq_getD_getElem?, Array.getElem?_eq_getElem this])]
      · rw [e0, AV.flatL_length, (hui.take k).sizeL, List.length_take, Nat.min_eq_left hkl]; simp
      · rw [e0, flatL_take hui hkl] at hj ⊢
        simp only [List.length_take] at hj
        have hj2 : j < k * wd := by omega
        have h6 := k5 (off + j) (by omega)
        have e1 : root.flat.getD (off + j) AV.undef = ((AV.flatL (es.drop i)).take (k * wd)).getD j AV.undef := by
          rw [q2, AV.flat]
          have : off + j = pre.length + (i * wd + j) := by omega
          rw [this, getD_mid _ _ _ _ _ (by rw [AV.flatL_length]; omega), flatL_drop hu (by omega)]
          simp only [List.getD_eq_getElem?_getD, List.getElem?_take, hj2, if_true, List.getElem?_drop]
        rw [e1] at h6
        rw [Nat.add_assoc] at *
        simpa [List.getD_eq_getElem?_getD, hj2, Nat.add_assoc] using h6
  | str s hw1 =>
    have := inv_str hc; subst this
    refine ⟨fun x hx => by
      obtain ⟨b, _, rfl⟩ := List.mem_map.1 hx; rw [size_byteAV, hw1], by simp [Builtin.lenOf], fun k hk => ?_⟩
    refine ⟨(s.extract 0 k).data.map fun b => .int .u8 b.toNat, fun w' _ => rfl, ?_, fun j hj => ?_⟩
    · rw [← List.map_take, flatL_bytes]
      simp [ByteArray.data_extract]
      try omega
    · rw [← List.map_take, flatL_bytes] at hj ⊢
      simp only [List.length_map, List.length_take] at hj
      have hj1 : j < k := by omega
      have hj2 : j < s.data.toList.length := by omega
      have e1 : ((s.data.toList.take k).map byteAV).getD j .undef = byteAV (s.data.toList[j]) := by
        rw [List.getD_eq_getElem?_getD, List.getElem?_map, List.getElem?_take, if_pos hj1, List.getElem?_eq_getElem hj2]; rfl
      have hj3 : j < s.data.size := by simpa using hj2
      have e2 : (((s.extract 0 k).data.map fun b => Value.int .u8 b.toNat).toList).getD j Go.undef = .int .u8 (s.data.toList[j]).toNat := by
        rw [getD_toList, Array.getD_eq_getD_getElem?, Array.getElem?_map]
        have : (s.extract 0 k).data[j]? = some s.data[j] := by
          rw [ByteArray.data_extract, Array.getElem?_extract, if_pos (by have : s.size = s.data.size := rfl; omega), Nat.zero_add]
          simp [hj3]
        rw [this]; simp
      rw [e1, e2]; exact CRel.int _ _

end
end Go.Proofs.Ytipbgaahpchhbaa
/- Rows made, appended to, copied; bytes to a text. -/
namespace Go.Proofs.Ytipbgaahpchhbaa
open Go Go.RowKit

theorem wrap_id {k : IntKind} {n : Int} (h1 : k.min ≤ n) (h2 : n ≤ k.max) : k.wrap n = n := by
  cases k <;> simp [IntKind.min, IntKind.max, IntKind.bits, IntKind.signed, IntKind.wrap] at * <;> (try split) <;> omega
theorem wrap_i64 {n : Int} (h1 : -9223372036854775808 ≤ n) (h2 : n ≤ 9223372036854775807) : IntKind.i64.wrap n = n :=
  wrap_id (by simpa [IntKind.min, IntKind.bits, IntKind.signed] using h1) (by simpa [IntKind.max, IntKind.bits, IntKind.signed] using h2)

theorem flatL_replicate_get (z : AV) (d : AV) : ∀ (n k : Nat), k < n * z.size → (AV.flatL (List.replicate n z)).getD k d = z.flat.getD (k % z.size) d
  | 0, k, h => by simp at h
  | n + 1, k, h => by
    have hz : 0 < z.size := by
      rcases Nat.eq_zero_or_pos z.size with h0 | h0
      · rw [h0] at h; simp at h
      · exact h0
    simp only [List.replicate_succ, AV.flatL]
    by_cases hk : k < z.size
    · rw [Nat.mod_eq_of_lt hk, List.getD_eq_getElem?_getD, List.getD_eq_getElem?_getD, List.getElem?_append_left (by rw [AV.flat_length]; exact hk)]
    · have : k = z.size + (k - z.size) := by omega
      rw [List.getD_eq_getElem?_getD, List.getElem?_append_right (by rw [AV.flat_length]; omega), AV.flat_length, ← List.getD_eq_getElem?_getD, flatL_replicate_get z d n (k - z.size) (by rw [Nat.succ_mul] at h; omega)]
      congr 1
      conv => rhs; rw [this, Nat.add_mod_left]

theorem sizeL_replicate (z : AV) (n : Nat) : AV.sizeL (List.replicate n z) = n * z.size := by
  induction n with
  | zero => simp [AV.sizeL]
  | succ n ih => simp only [List.replicate_succ, AV.sizeL, ih, Nat.succ_mul]; omega

theorem zeros_rel {w : World} {I : Nat → Prop} {ρ : Rho} {z : AV} {c : Value} (n : Nat) (hz : z.layable = true) (hx : XRel w I ρ z c) :
    CsRel w I ρ (AV.flatL (List.replicate n z)) ((Array.range (n * z.size)).map (fun i => c.cells[i % c.cells.size]!)).toList := by
  obtain ⟨h1, h2, _⟩ := cells_rel hx (layable_ne hz).1
  refine ⟨by rw [AV.flatL_length, sizeL_replicate]; simp, fun k hk => ?_⟩
  rw [AV.flatL_length, sizeL_replicate] at hk
  rw [flatL_replicate_get z _ n k hk, getD_toList, Array.getD_eq_getD_getElem?, Array.getElem?_map, Array.getElem?_range, if_pos hk]
  have hz : 0 < z.size := by
    rcases Nat.eq_zero_or_pos z.size with h0 | h0
    · rw [h0] at hk; simp at hk
    · exact h0
  have hlt : k % z.size < z.size := Nat.mod_lt _ hz
  have := h2 (k % z.size) hlt
  rw [h1]
  simp only [Option.map_some, Option.getD_some]
  have e1 : c.cells[k % z.size]! = c.cells.getD (k % z.size) Go.undef := by
    have hlt' : k % z.size < c.cells.size := by omega
    simp [Array.getD_eq_getD_getElem?, hlt']
  rw [e1]; exact this

section
variable {P : Program} {o : Oper} {ev : Operand → Option AV} {H : Nat → Option ABlk} {v : AV} {rd : List Nat}

/-- A row of the call's own that begins its block. -/
theorem lies_row {w w' : World} {I : Nat → Prop} {ρ ρ' : Rho} {own : Nat → Prop} {xs : List AV} {arr : Array Value} {b T : Nat} (hx : Ext own w w' I I ρ ρ') (hi : Imm own w I) {cs : List Value} {rest : Array Value} (ha : arr = cs.toArray ++ rest) (hr : CsRel w I ρ xs cs)
    (hb : w'.heap[b]? = some (.cells arr T (0, 0))) : Lies w' I ρ' b 0 arr.size xs := by
  refine ⟨arr, T, (0, 0), hb, by simp, fun k _ h => by omega, by rw [ha, ← hr.1]; simp, fun k hk => ?_⟩
  have := (hr.2 k hk).mono hx hi
  have hk' : k < cs.length := by rw [hr.1]; exact hk
  rw [Nat.zero_add, ha]
  simpa [Array.getD_eq_getD_getElem?, List.getD_eq_getElem?_getD, Array.getElem?_append, hk'] using this

theorem run_zeroValue_some {T : TypeId} {z : AV} (hz : ZeroIs P T z) : ∃ c, (∀ w, (zeroValue T).run P w = .ok c w) ∧ ∀ w I ρ, XRel w I ρ z c := hz.2

theorem ls_makeSlice {T E : TypeId} {x y : Operand} {l c : Int} {k k' : IntKind} {z : AV} {wd : Nat} {i : TypeInfo} (m : Nat) (ho : o.op = .makeSlice T x y) (hx : ev x = some (.int k l)) (hy : ev y = some (.int k' c)) (hT : P.underlying T = some (.slice E)) (hz : ZeroIs P E z) (hzs : z.size = wd)
    (hi : P.info? E = some i) (hsz : i.size = wd) (h0 : 0 ≤ l) (h1 : l ≤ c) (h2 : (i.bytes : Int) * c ≤ 140737488355328) (h3 : c ≤ 9223372036854775807) : LS P o ev H ⟨.sl m 0 [] 0 l.toNat c.toNat wd, [], [], [(m, .cells (.agg (List.replicate c.toNat z)))]⟩ := by
  intro a w I ρ hd hev hrd hinj himm hfr K Q hK
  have g1 := inv_int (hev x (by simp [ho, Op.operands]) _ hx)
  have g2 := inv_int (hev y (by simp [ho, Op.operands]) _ hy)
  obtain ⟨hlay, zc, hzr, hzx⟩ := hz
  obtain ⟨q1, q2, _⟩ := cells_rel (hzx w I ρ) (layable_ne hlay).1
  have hwl : IntKind.i64.wrap l = l := wrap_i64 (by omega) (by omega)
  have hwc : IntKind.i64.wrap c = c := wrap_i64 (by omega) (by omega)
  have hsz' : szOf P E = some wd := by simp [szOf, hi, hsz]
  have t1 : ¬ (c < 0) := by omega
  have t2 : ¬ (l < 0) := by omega
  have t3 : ¬ (l > c) := by omega
  have t4 : ¬ ((i.bytes : Int) * c > 2 ^ 48) := by omega
  have hrow := zeros_rel (w := w) (I := I) (ρ := ρ) c.toNat hlay (hzx w I ρ)
  rw [hzs] at hrow
  have hti : (typeInfo E).run P w = .ok i w := by simp [typeInfo, hi]
  have hrun : (execOp a.eval o).run P w = .ok (.value (.slice (some ⟨w.heap.size, 0, none⟩) l.toNat c.toNat)) { w with heap := w.heap.push (.cells ((Array.range (c.toNat * wd)).map (fun i => zc.cells[i % zc.cells.size]!)) E) } := by
    simp only [execOp, ho, g1, g2, Instr.makeSlice, Sem.run_bind, run_underlying' hT, Result.andThen_ok, asInt, asIntOf, pure_bind, Sem.run_pure, hti, hwl, hwc, t1, t2, t3, t4, decide_false, Bool.or_false, Bool.false_eq_true, if_false, Sem.run_ite, run_askRoom, run_sizeOf' hsz']
    by_cases hn : c.toNat * wd = 0
    · have e0 : ∀ f : Nat → Value, (Array.range (c.toNat * wd)).map f = #[] := fun f => by rw [hn]; apply Array.ext'; simp
      have e1 : ∀ f : Nat → Value, (Array.range 0).map f = #[] := fun f => by apply Array.ext'; simp
      simp [e0, hn, newRow, e1]
    · simp [hn, hzr, newRow]
  unfold Oper.wp
  rw [hrun]
  obtain ⟨ρ', hp⟩ := post_new (w := w) (w' := { w with heap := w.heap.push (.cells ((Array.range (c.toNat * wd)).map (fun i => zc.cells[i % zc.cells.size]!)) E) }) (I := I) (ρ := ρ) (e := ⟨.sl m 0 [] 0 l.toNat c.toNat wd, [], [], [(m, .cells (.agg (List.replicate c.toNat z)))]⟩)
    (c := .slice (some ⟨w.heap.size, 0, none⟩) l.toNat c.toNat) (r := c.toNat * wd) (m := m) (blk := .cells (.agg (List.replicate c.toNat z))) rfl (hfr m (.cells (.agg (List.replicate c.toNat z))) (by simp [Heap.get]) (by simp)) himm rfl rfl rfl rfl fun ρ' hx hb hm hI =>
      ⟨CRel.sl _ _ _ _ _ _ _ _ _ _ _ hm (by omega) (Nat.le_refl _) (by omega), ⟨_, _, _, hm, hI, by
        have := lies_row (arr := (Array.range (c.toNat * wd)).map (fun i => zc.cells[i % zc.cells.size]!)) (rest := #[]) hx himm (by apply Array.ext'; simp) hrow hb
        simpa [AV.flat] using this⟩⟩
  exact hK _ _ _ _ hp

theorem ls_buildSlice {T E : TypeId} {n wd : Nat} {ps : Array (Nat × Operand)} {us : List (Nat × AV)} {z : AV} (m : Nat) (ho : o.op = .buildSlice T n ps) (hT : P.underlying T = some (.slice E)) (hz : ZeroIs P E z) (hzs : z.size = wd) (hE : szOf P E = some wd) (hb : n * wd ≤ 2 ^ 24)
    (hps : ps.toList.map (fun x => (x.1, ev x.2)) = us.map (fun x => (x.1, some x.2))) (hp : PartsOk (fun i => some (i * wd, wd)) (List.replicate n z) us) (hlay : ∀ x, x ∈ us → x.2.layable = true) :
    LS P o ev H ⟨.sl m 0 [] 0 n n wd, [], [], [(m, .cells (.agg (setParts (List.replicate n z) us)))]⟩ := by
  intro a w I ρ hd hev hrd hinj himm hfr K Q hK
  obtain ⟨hlz, zc, hzr, hzx⟩ := hz
  have hrow := zeros_rel (w := w) (I := I) (ρ := ρ) n hlz (hzx w I ρ)
  rw [hzs] at hrow
  obtain ⟨g1, g2⟩ := parts_rel (w := w) (I := I) (ρ := ρ) (a := a) hps hlay (fun x hx v hv => hev x.2 (by rw [ho]; simp [Op.operands]; exact ⟨x.1, by simpa using hx⟩) v hv)
  obtain ⟨cells', k1, k2⟩ := fill_rel us _ _ _ g1 g2 hp hrow
  have hlim : ¬ (n * wd > 2 ^ 24) := by omega
  have hrun : (execOp a.eval o).run P w = .ok (.value (.slice (some ⟨w.heap.size, 0, none⟩) n n)) { w with heap := w.heap.push (.cells cells' E) } := by
    simp only [execOp, ho, Instr.buildSlice, Sem.run_bind, run_underlying' hT, Result.andThen_ok, run_sizeOf' hE, Sem.run_ite, hlim, if_false, Sem.run_pure]
    by_cases hn : n * wd = 0
    · have e0 : ∀ f : Nat → Value, (Array.range (n * wd)).map f = #[] := fun f => by rw [hn]; apply Array.ext'; simp
      have e1 : ∀ f : Nat → Value, (Array.range 0).map f = #[] := fun f => by apply Array.ext'; simp
      rw [e0] at k1
      simp [e0, hn, e1, k1, newRow]
    · simp [hn, hzr, k1, newRow]
  unfold Oper.wp
  rw [hrun]
  have hsz : (AV.flatL (setParts (List.replicate n z) us)).length = n * wd := by
    have key : ∀ (us : List (Nat × AV)) (vs : List AV), PartsOk (fun i => some (i * wd, wd)) vs us → AV.sizeL (setParts vs us) = AV.sizeL vs := by
      intro us
      induction us with
      | nil => intro vs _; rfl
      | cons u us ih =>
        intro vs hp
        obtain ⟨i, u⟩ := u
        obtain ⟨_, ⟨old, h2, h3, _⟩, h5⟩ := hp
        simp only [setParts]
        rw [ih _ h5]
        have e1 := flatL_at h2
        rw [← AV.flatL_length, ← AV.flatL_length, set_split h2, e1]
        simp [AV.flatL_append, AV.flatL, AV.flat_length, AV.flatL_length, h3]
    rw [AV.flatL_length, key us _ hp, sizeL_replicate, hzs]
  have hcl : cells'.size = n * wd := by have := k2.1; rw [hsz] at this; simpa using this
  obtain ⟨ρ', hp'⟩ := post_new (w := w) (w' := { w with heap := w.heap.push (.cells cells' E) }) (I := I) (ρ := ρ) (e := ⟨.sl m 0 [] 0 n n wd, [], [], [(m, .cells (.agg (setParts (List.replicate n z) us)))]⟩)
    (c := .slice (some ⟨w.heap.size, 0, none⟩) n n) (r := n * wd) (m := m) (blk := .cells (.agg (setParts (List.replicate n z) us))) rfl (hfr m (.cells (.agg (setParts (List.replicate n z) us))) (by simp [Heap.get]) (by simp)) himm rfl rfl rfl rfl fun ρ' hx hb hm hI =>
      ⟨CRel.sl _ _ _ _ _ _ _ _ _ _ _ hm (Nat.le_refl _) (Nat.le_refl _) (by omega), ⟨_, _, _, hm, hI, by
        have := lies_row (arr := cells') (rest := #[]) hx himm (by simp) k2 hb
        rw [hcl] at this; exact this⟩⟩
  exact hK _ _ _ _ hp'

/-- What append does where it lays a new row. -/
theorem run_append_new {T1 T2 E ty : TypeId} {d2 : TypeDesc} {wd bytes k n : Nat} {base : Option Addr} {len : Nat} {zc x : Value} {old new : Array Value} {w : World} {i : TypeInfo} (hT : P.underlying T1 = some (.slice E)) (hT2 : P.underlying T2 = some d2) (hd2 : ∀ k, d2 ≠ .int k) (hi : P.info? E = some i) (hsz : i.size = wd) (hby : i.bytes = bytes)
    (hz : ∀ w, (zeroValue E).run P w = .ok zc w) (hlen : (Builtin.lenOf x).run P w = .ok n w) (hold : ∀ w', w'.heap = w.heap → (Builtin.firstCells wd len (.slice base len k)).run P w' = .ok old w') (hnew : ∀ w', w'.heap = w.heap → (Builtin.firstCells wd n x).run P w' = .ok new w')
    (hg : k < len + n) (hb : (len + n) * bytes ≤ 140737488355328) (hb2 : len + n ≤ 9223372036854775807) :
    ∃ c, len + n ≤ c ∧ (Builtin.append_ #[T1, T2] ty #[.slice base len k, x]).run P w = .ok (.slice (some ⟨w.heap.size, 0, none⟩) (len + n) c) ({ w with heap := w.heap.push (.cells (old ++ new ++ Builtin.zeroCells zc.cells (c - (len + n))) E), drawn := w.drawn + 1 }) := by
  refine ⟨(Question.appendCap (len + n) k E).cut (w.tape w.drawn (.appendCap (len + n) k E)), by simp [Question.cut], ?_⟩
  have hsz' : szOf P E = some wd := by simp [szOf, hi, hsz]
  have hti : ∀ w, (typeInfo E).run P w = .ok i w := fun w => by simp [typeInfo, hi]
  have hm : (match d2 with | .int _ => true | _ => false) = false := by cases d2 <;> first | rfl | exact absurd rfl (hd2 _)
  have hn : ¬ (len + n ≤ k) := by omega
  have h63 : ¬ (((len + n : Nat) : Int) > IntKind.i64.max) := by
    have : IntKind.i64.max = 9223372036854775807 := by decide
    rw [this]; omega
  have h48 : ¬ (Builtin.nextslicecap (len + n) k * i.bytes > 2 ^ 48) := by
    have := growslice_fits (old := k) (need := len + n) (bytes := bytes) hg hb
    rw [hby]; omega
  have ho1 := hold { w with drawn := w.drawn + 1 } rfl
  have ho2 := hnew { w with drawn := w.drawn + 1 } rfl
  simp only [World.drew_eq] at ho1 ho2
  simp only [Builtin.append_, List.getElem?_toArray, List.getElem?_cons_zero, List.getElem?_cons_succ, Sem.run_bind, run_underlying' hT, Result.andThen_ok, run_sizeOf' hsz', run_underlying' hT2, hm, Bool.false_eq_true, if_false, Sem.run_pure, hlen, Sem.run_ite, hn, h63, false_and, hti, h48, run_choose, Question.forced, run_askRoom, ho1, ho2, hz, newRow, run_newObj, Bool.not_false, if_true,
    World.drew_eq, World.size_drew, World.alloc_eq]
  rfl

end
end Go.Proofs.Ytipbgaahpchhbaa
/- append, copy, bytes to a text. -/
namespace Go.Proofs.Ytipbgaahpchhbaa
open Go Go.RowKit

theorem CsRel.append {w : World} {I : Nat → Prop} {ρ : Rho} {xs ys : List AV} {cs ds : List Value} (h : CsRel w I ρ xs cs) (k : CsRel w I ρ ys ds) : CsRel w I ρ (xs ++ ys) (cs ++ ds) := by
  refine ⟨by simp [h.1, k.1], fun j hj => ?_⟩
  by_cases hjx : j < xs.length
  · have := h.2 j hjx
    have hjc : j < cs.length := by rw [h.1]; exact hjx
    simpa [List.getD_eq_getElem?_getD, List.getElem?_append, hjx, hjc] using this
  · have := k.2 (j - xs.length) (by simp at hj; omega)
    have hjc : ¬ j < cs.length := by rw [h.1]; exact hjx
    simpa [List.getD_eq_getElem?_getD, List.getElem?_append, hjx, hjc, h.1] using this

section
variable {P : Program} {o : Oper} {ev : Operand → Option AV} {H : Nat → Option ABlk} {v : AV} {rd : List Nat}

/-- What an element type must be for a row of it to grow. -/
structure ElemOk (P : Program) (T1 T2 E : TypeId) (wd bytes : Nat) : Prop where
  t1 : P.underlying T1 = some (.slice E)
  t2 : ∃ d, P.underlying T2 = some d ∧ ∀ k, d ≠ .int k
  info : ∃ i, P.info? E = some i ∧ i.size = wd ∧ i.bytes = bytes
  zero : ∃ z, ZeroIs P E z ∧ z.size = wd

theorem run_append_exec {T1 T2 : TypeId} {x y : Operand} {a : Act} (ho : o.op = .call { callee := .builtin .append, args := #[x, y], argTypes := #[T1, T2] }) (w : World) :
    (execOp a.eval o).run P w = ((Builtin.append_ #[T1, T2] o.type #[a.eval x, a.eval y]).run P w).andThen fun v w' => .ok (.value v) w' := by
  simp [execOp, ho, resolve, invoke, builtin]

theorem post_grown {w w' : World} {I : Nat → Prop} {ρ : Rho} {wr : List Nat} {m E c wd : Nat} {olds news : List AV} {old new : Array Value} {zc : Value} (hz : zc.cells.size = wd) (hρ : ρ m = none) (himm : Imm (OwnW ρ wr) w I)
    (ho : CsRel w I ρ (AV.flatL olds) old.toList) (hn : CsRel w I ρ (AV.flatL news) new.toList) (huo : Unif wd olds) (hun : Unif wd news) (hc : olds.length + news.length ≤ c)
    (hw : w' = { w with heap := w.heap.push (.cells (old ++ new ++ Builtin.zeroCells zc.cells (c - (olds.length + news.length))) E), drawn := w.drawn + 1 }) :
    ∃ ρ', LSPost w I ρ ⟨.sl m 0 [] 0 (olds.length + news.length) (olds.length + news.length) wd, rd, wr, [(m, .cells (.agg (olds ++ news)))]⟩ (.slice (some ⟨w.heap.size, 0, none⟩) (olds.length + news.length) c) w' I ρ' := by
  have h1 : old.size = olds.length * wd := by have := ho.1; rw [AV.flatL_length, huo.sizeL] at this; simpa using this
  have h2 : new.size = news.length * wd := by have := hn.1; rw [AV.flatL_length, hun.sizeL] at this; simpa using this
  have h3 : (Builtin.zeroCells zc.cells (c - (olds.length + news.length))).size = (c - (olds.length + news.length)) * wd := by simp [Builtin.zeroCells, hz]
  have h4 : (old ++ new ++ Builtin.zeroCells zc.cells (c - (olds.length + news.length))).size = c * wd := by
    rw [Array.size_append, Array.size_append, h1, h2, h3, ← Nat.add_mul, ← Nat.add_mul]; congr 1; omega
  have hrel := ho.append hn
  rw [← AV.flatL_append] at hrel
  exact post_new (w := w) (w' := w') (I := I) (ρ := ρ) (m := m) (r := c * wd) (blk := .cells (.agg (olds ++ news))) rfl hρ himm (by rw [hw]) (by rw [hw]) (by rw [hw]) (by rw [hw]) fun ρ' hx hb hm hI =>
    ⟨CRel.sl _ _ _ _ _ _ _ _ _ _ _ hm (Nat.le_refl _) hc (by omega), _, _, _, hm, hI, by
      have := lies_row (rest := Builtin.zeroCells zc.cells (c - (olds.length + news.length))) hx himm (by apply Array.ext'; simp) hrel hb
      rw [h4] at this; exact this⟩

/-- Onto nil. -/
theorem ls_append_nil {T1 T2 E : TypeId} {x y : Operand} {wd bytes : Nat} {xs : List AV} {u : AV} (m : Nat) (ho : o.op = .call { callee := .builtin .append, args := #[x, y], argTypes := #[T1, T2] }) (he : ElemOk P T1 T2 E wd bytes)
    (hx : ev x = some .nilsl) (hy : ev y = some u) (hs : IsSrc H wd u rd xs) (hne : 0 < xs.length) (hb : xs.length * bytes ≤ 140737488355328) (hb2 : xs.length ≤ 9223372036854775807) :
    LS P o ev H ⟨.sl m 0 [] 0 xs.length xs.length wd, rd, [], [(m, .cells (.agg xs))]⟩ := by
  intro a w I ρ hd hev hrd hinj himm hfr K Q hK
  have hcx := inv_nilsl (hev x (by simp [ho, Op.operands, Call.operands]) _ hx)
  obtain ⟨hu, hlen, hcs⟩ := src_rel (P := P) hs (hev y (by simp [ho, Op.operands, Call.operands]) _ hy) (fun n hn b hb => hrd n (.inl hn) b hb)
  obtain ⟨cs, hf, hrel⟩ := hcs xs.length (Nat.le_refl _)
  rw [List.take_length] at hrel
  obtain ⟨d, hd1, hd2⟩ := he.t2
  obtain ⟨i, hi, hi1, hi2⟩ := he.info
  obtain ⟨z, ⟨hlay, zc, hzr, hzx⟩, hzs⟩ := he.zero
  obtain ⟨q1, _, _⟩ := cells_rel (hzx w I ρ) (layable_ne hlay).1
  obtain ⟨c, hc1, hc2⟩ := run_append_new (ty := o.type) (k := 0) (base := none) (len := 0) (old := #[]) he.t1 hd1 hd2 hi hi1 hi2 hzr hlen (fun _ _ => rfl) hf (by omega) (by rw [Nat.zero_add]; exact hb) (by omega)
  unfold Oper.wp
  rw [run_append_exec ho, hcx, hc2]
  have hp := post_grown (rd := rd) (wr := []) (m := m) (E := E) (olds := []) (news := xs) (old := #[]) (new := cs) (zc := zc) (c := c) (wd := wd) (q1.trans hzs) (hfr m (.cells (.agg xs)) (by simp [Heap.get]) (by simp)) himm
    ⟨rfl, fun k hk => by simp [AV.flatL] at hk⟩ hrel (fun x hx => by simp at hx) hu (by simpa using hc1) rfl
  simp only [List.length_nil, List.nil_append, Nat.zero_add] at hp ⊢
  obtain ⟨ρ', hp⟩ := hp
  exact hK _ _ _ _ hp

theorem ls_append_nil0 {T1 T2 E : TypeId} {x y : Operand} {wd bytes : Nat} {xs : List AV} {u : AV} (ho : o.op = .call { callee := .builtin .append, args := #[x, y], argTypes := #[T1, T2] }) (he : ElemOk P T1 T2 E wd bytes)
    (hx : ev x = some .nilsl) (hy : ev y = some u) (hs : IsSrc H wd u rd xs) (hne : xs.length = 0) :
    LS P o ev H ⟨.nilsl, rd, [], []⟩ := by
  refine LS.value fun a w I ρ hev hrd => ?_
  have hcx := inv_nilsl (hev x (by simp [ho, Op.operands, Call.operands]) _ hx)
  obtain ⟨hu, hlen, hcs⟩ := src_rel (P := P) hs (hev y (by simp [ho, Op.operands, Call.operands]) _ hy) hrd
  obtain ⟨cs, hf, hrel⟩ := hcs 0 (Nat.zero_le _)
  obtain ⟨d, hd1, hd2⟩ := he.t2
  obtain ⟨i, hi, hi1, hi2⟩ := he.info
  have hsz' : szOf P E = some wd := by simp [szOf, hi, hi1]
  have hm : (match d with | .int _ => true | _ => false) = false := by cases d <;> first | rfl | exact absurd rfl (hd2 _)
  rw [hne] at hlen
  refine ⟨.slice none 0 0, CRel.nilsl, ?_⟩
  rw [run_append_exec ho, hcx]
  simp only [Builtin.append_, List.getElem?_toArray, List.getElem?_cons_zero, List.getElem?_cons_succ, Sem.run_bind, run_underlying' he.t1, Result.andThen_ok, run_sizeOf' hsz', run_underlying' hd1, hm, Bool.false_eq_true, if_false, Sem.run_pure, hlen, Sem.run_ite, Nat.add_zero, Nat.le_refl, if_true, Bool.not_false, hf w rfl]

/-- Onto a row of the call's own. -/
theorem ls_append_own {T1 T2 E : TypeId} {x y : Operand} {wd bytes n off i len cap : Nat} {es xs : List AV} {u : AV} (m : Nat) (ho : o.op = .call { callee := .builtin .append, args := #[x, y], argTypes := #[T1, T2] }) (he : ElemOk P T1 T2 E wd bytes)
    (hx : ev x = some (.sl n off [] i len cap wd)) (hH : H n = some (.cells (.agg es))) (hoff : off = i * wd) (hil : i + len ≤ es.length) (hue : Unif wd es) (hy : ev y = some u) (hs : IsSrc H wd u rd xs) (hnrd : n ∉ rd) (hmn : m ≠ n)
    (hb : (len + xs.length) * bytes ≤ 140737488355328) (hb2 : len + xs.length ≤ 9223372036854775807) :
    LS P o ev H ⟨.sl m 0 [] 0 (len + xs.length) (len + xs.length) wd, rd, [n], [(m, .cells (.agg ((es.drop i).take len ++ xs)))]⟩ := by
  intro a w I ρ hd hev hrd hinj himm hfr K Q hK
  have hvx := hev x (by simp [ho, Op.operands, Call.operands]) _ hx
  have hmfr : ρ m = none := hfr m (.cells (.agg ((es.drop i).take len ++ xs))) (by simp [Heap.get]) (by simpa using hmn)
  have hsx : IsSrc H wd (.sl n off [] i len cap wd) [n] ((es.drop i).take len) := .sl n off [] i len cap (.agg es) es hH rfl (by simpa [AV.offOf] using hoff) hil hue
  obtain ⟨huo, hleno, hcso⟩ := src_rel (P := P) hsx hvx (fun k hk b hb => hrd k (.inr hk) b hb)
  have holen : ((es.drop i).take len).length = len := by rw [List.length_take, List.length_drop]; omega
  obtain ⟨old, hfo, hrelo⟩ := hcso len (by omega)
  rw [List.take_of_length_le (by omega)] at hrelo
  obtain ⟨hu, hlen, hcs⟩ := src_rel (P := P) hs (hev y (by simp [ho, Op.operands, Call.operands]) _ hy) (fun n hn b hb => hrd n (.inl hn) b hb)
  obtain ⟨new, hf, hrel⟩ := hcs xs.length (Nat.le_refl _)
  rw [List.take_length] at hrel
  obtain ⟨d, hd1, hd2⟩ := he.t2
  obtain ⟨ti, hi, hi1, hi2⟩ := he.info
  obtain ⟨z, ⟨hlay, zc, hzr, hzx⟩, hzs⟩ := he.zero
  obtain ⟨q1, _, _⟩ := cells_rel (hzx w I ρ) (layable_ne hlay).1
  have hsz' : szOf P E = some wd := by simp [szOf, hi, hi1]
  have hm : (match d with | .int _ => true | _ => false) = false := by cases d <;> first | rfl | exact absurd rfl (hd2 _)
  obtain ⟨b0, o0, r0, hr0, hI0, hlies0⟩ := hrd n (.inr (by simp)) _ hH
  have hnewsz : new.size = xs.length * wd := by have := hrel.1; rw [AV.flatL_length, hu.sizeL] at this; simpa using this
  -- a new row
  have grow : ∀ (base : Option Addr) (k : Nat), a.eval x = .slice base len k → k < len + xs.length → Oper.wp P o a w K Q := by
    intro base k hk hlt
    rw [hk] at hfo
    obtain ⟨c, hc1, hc2⟩ := run_append_new (ty := o.type) (k := k) (base := base) (len := len) he.t1 hd1 hd2 hi hi1 hi2 hzr hlen hfo hf hlt hb hb2
    have hp := post_grown (rd := rd) (wr := [n]) (m := m) (E := E) (olds := (es.drop i).take len) (news := xs) (old := old) (new := new) (zc := zc) (c := c) (wd := wd) (q1.trans hzs) hmfr himm hrelo hrel huo hu (by omega) rfl
    rw [holen] at hp
    obtain ⟨ρ', hp⟩ := hp
    unfold Oper.wp
    rw [run_append_exec ho, hk, hc2]
    exact hK _ _ _ _ hp
  have inplace : ∀ (ad : Addr) (k : Nat) (w' : World), a.eval x = .slice (some ad) len k → len + xs.length ≤ k → (storeCells (ad.add (len * wd)) new.toList).run P w = .ok () w' →
      (Builtin.append_ #[T1, T2] o.type #[a.eval x, a.eval y]).run P w = .ok (.slice (some ad) (len + xs.length) k) w' := by
    intro ad k w' hk hle hst
    have hf1 := hf w rfl
    rw [hk]
    simp only [Builtin.append_, List.getElem?_toArray, List.getElem?_cons_zero, List.getElem?_cons_succ, Sem.run_bind, run_underlying' he.t1, Result.andThen_ok, run_sizeOf' hsz', run_underlying' hd1, hm, Bool.false_eq_true, if_false, Sem.run_pure, hlen, Sem.run_ite, hle, if_true, Bool.not_false, hf1, hst]
  rcases inv_sl hvx with ⟨h1, h2, ad, hc⟩ | ⟨b, base, r, k, hr, g1, g2, g3, hc⟩
  · by_cases hx0 : xs.length = 0
    · -- nothing onto nothing
      have hst := inplace ad 0 w (by rw [hc, h1]) (by omega) (by
        have : new.toList = [] := by
          have : new.size = 0 := by rw [hnewsz, hx0, Nat.zero_mul]
          simpa using this
        rw [this]; rfl)
      obtain ⟨ρ', hp⟩ := post_write (w := w) (w' := w) (I := I) (ρ := ρ) (e := ⟨.sl m 0 [] 0 (len + xs.length) (len + xs.length) wd, rd, [n], [(m, .cells (.agg ((es.drop i).take len ++ xs)))]⟩) (c := .slice (some ad) (len + xs.length) 0)
        (m := m) (o' := o0) (r' := r0) (blk := .cells (.agg ((es.drop i).take len ++ xs))) rfl rfl hr0 (.inr ⟨hmn, hmfr⟩) himm rfl (fun _ _ => rfl) rfl rfl rfl fun ρ' hx hm hI => by
          have hl0 : xs = [] := List.length_eq_zero_iff.1 hx0
          subst h1; subst hl0
          refine ⟨CRel.sl0 _ _ _ _ _ ad, b0, o0, r0, hm, hI, ?_⟩
          obtain ⟨arr, T, fz, k1, k2, k3, k4, k5⟩ := hlies0.ex
          exact ⟨arr, T, fz, k1, k2, k3, by simp [AV.flat, AV.flatL], fun k hk => by simp [AV.flat, AV.flatL] at hk⟩
      unfold Oper.wp
      rw [run_append_exec ho, hst]
      exact hK _ _ _ _ hp
    · exact grow (some ad) 0 (by rw [hc, h1]) (by omega)
  · have e0 : some (b, base, r) = some (b0, o0, r0) := hr.symm.trans hr0
    injection e0 with e0; injection e0 with e1 e0; injection e0 with e2 e3
    subst e1; subst e2; subst e3
    by_cases hle : len + xs.length ≤ k
    · -- in place
      obtain ⟨arr, T, fz, k1, k2, k3, k4, k5⟩ := hlies0.ex
      have hlw : len * wd + xs.length * wd ≤ k * wd := by rw [← Nat.add_mul]; exact Nat.mul_le_mul_right _ hle
      have hone : ∀ v, v ∈ new.toList → v.oneCell' = true := by
        intro v hv
        obtain ⟨j, hj, rfl⟩ := List.getElem_of_mem hv
        have := (hrel.2 j (by rw [← hrel.1]; exact hj)).one
        rwa [List.getD_eq_getElem?_getD, List.getElem?_eq_getElem hj] at this
      obtain ⟨arr', w', s1, s2, s3, s4, s5, s6, s7, s8, s9⟩ := run_storeCells' (P := P) (b := b) (off := base + off + len * wd) new.toList 0 w arr k1 (by simp only [Array.length_toList, hnewsz]; omega) k3 hone
      have hst := inplace ⟨b, base + off, none⟩ k w' hc hle (by simp only [add_mk]; exact s1)
      simp only [Array.length_toList, hnewsz, Nat.add_zero] at s4
      have hflat : (AV.flatL es).length = es.length * wd := by rw [AV.flatL_length, hue.sizeL]
      have hilw : i * wd + len * wd ≤ es.length * wd := by rw [← Nat.add_mul]; exact Nat.mul_le_mul_right _ hil
      obtain ⟨ρ', hp⟩ := post_write (w := w) (w' := w') (I := I) (ρ := ρ) (e := ⟨.sl m 0 [] 0 (len + xs.length) (len + xs.length) wd, rd, [n], [(m, .cells (.agg ((es.drop i).take len ++ xs)))]⟩) (c := .slice (some ⟨b, base + off, none⟩) (len + xs.length) k)
        (m := m) (o' := base + off) (r' := r - off) (blk := .cells (.agg ((es.drop i).take len ++ xs))) rfl rfl hr (.inr ⟨hmn, hmfr⟩) himm s5 s6 s7 s8 s9 fun ρ' hx hm hI => by
          refine ⟨CRel.sl _ 0 _ _ _ _ _ _ _ _ _ hm (Nat.le_refl _) hle (by omega), b, base + off, r - off, hm, hI, arr', T, fz, s2, by omega, fun j hj => k3 j (by omega), ?_, fun j hj => ?_⟩
          · rw [AV.flat, AV.flatL_append, List.length_append, AV.flatL_length, AV.flatL_length, huo.sizeL, hu.sizeL, holen]; omega
          · rw [AV.flat, AV.flatL_append] at hj ⊢
            have hlo : (AV.flatL ((es.drop i).take len)).length = len * wd := by rw [AV.flatL_length, huo.sizeL, holen]
            have hln : (AV.flatL xs).length = xs.length * wd := by rw [AV.flatL_length, hu.sizeL]
            rw [List.length_append, hlo, hln] at hj
            rw [s4]
            by_cases hjl : j < len * wd
            · rw [if_neg (by omega)]
              have h6 := (k5 (off + j) (by rw [AV.flat, hflat]; omega)).mono hx himm
              have e1 : (AV.flatL ((es.drop i).take len) ++ AV.flatL xs).getD j AV.undef = (AV.flat (.agg es)).getD (off + j) AV.undef := by
                rw [List.getD_eq_getElem?_getD, List.getElem?_append_left (by omega), flatL_take (hue.drop i) (by rw [List.length_drop]; omega), flatL_drop hue (by omega), List.getElem?_take, if_pos hjl, List.getElem?_drop, ← hoff, ← List.getD_eq_getElem?_getD, AV.flat]
              rw [e1, Nat.add_assoc]; exact h6
            · rw [if_pos (by omega)]
              have h6 := (hrel.2 (j - len * wd) (by rw [hln]; omega)).mono hx himm
              have e1 : (AV.flatL ((es.drop i).take len) ++ AV.flatL xs).getD j AV.undef = (AV.flatL xs).getD (j - len * wd) AV.undef := by
                rw [List.getD_eq_getElem?_getD, List.getElem?_append_right (by omega), hlo, ← List.getD_eq_getElem?_getD]
              have e2 : base + off + j - (base + off + len * wd) = j - len * wd := by omega
              rw [e1, e2]; exact h6
      unfold Oper.wp
      rw [run_append_exec ho, hst]
      exact hK _ _ _ _ hp
    · exact grow _ k hc (by omega)

end
end Go.Proofs.Ytipbgaahpchhbaa
/- copy. -/
namespace Go.Proofs.Ytipbgaahpchhbaa
open Go Go.RowKit


section
variable {P : Program} {o : Oper} {ev : Operand → Option AV} {H : Nat → Option ABlk} {v : AV} {rd : List Nat}

/-! #### copy -/
theorem ls_copy {T1 T2 E : TypeId} {x y : Operand} {wd n off i len cap : Nat} {p : List Nat} {root : AV} {es xs : List AV} {u : AV} (ho : o.op = .call { callee := .builtin .copy, args := #[x, y], argTypes := #[T1, T2] }) (hT : P.underlying T1 = some (.slice E)) (hE : szOf P E = some wd)
    (hx : ev x = some (.sl n off p i len cap wd)) (hH : H n = some (.cells root)) (hp : root.proj p = some (.agg es)) (hoff : off = root.offOf p + i * wd) (hil : i + len ≤ es.length) (hue : Unif wd es) (hy : ev y = some u) (hs : IsSrc H wd u rd xs) (hnrd : n ∉ rd) :
    LS P o ev H ⟨.int .i64 (Nat.min xs.length len : Nat), rd, [n], [(n, .cells (root.upd p (.agg (es.take i ++ xs.take (Nat.min xs.length len) ++ es.drop (i + Nat.min xs.length len)))))]⟩ := by
  intro a w I ρ hd hev hrd hinj himm hfr K Q hK
  have hvx := hev x (by simp [ho, Op.operands, Call.operands]) _ hx
  obtain ⟨hu, hlen, hcs⟩ := src_rel (P := P) hs (hev y (by simp [ho, Op.operands, Call.operands]) _ hy) (fun n hn b hb => hrd n (.inl hn) b hb)
  have hq1 : Nat.min xs.length len ≤ xs.length := Nat.min_le_left _ _
  have hq2 : Nat.min xs.length len ≤ len := Nat.min_le_right _ _
  generalize hq : Nat.min xs.length len = q at *
  obtain ⟨new, hf, hrel⟩ := hcs q hq1
  have hrun : ∀ (ad : Addr) (k : Nat) (w' : World), a.eval x = .slice (some ad) len k → (storeCells ad new.toList).run P w = .ok () w' →
      (execOp a.eval o).run P w = .ok (.value (.int .i64 q)) w' := by
    intro ad k w' hk hst
    have hf1 := hf w rfl
    have h0 : (execOp a.eval o).run P w = ((Builtin.copy_ #[T1, T2] o.type #[a.eval x, a.eval y]).run P w).andThen fun v w' => .ok (.value v) w' := by
      simp [execOp, ho, resolve, invoke, builtin]
    rw [h0, hk]
    simp only [Builtin.copy_, List.getElem?_toArray, List.getElem?_cons_zero, List.getElem?_cons_succ, Sem.run_bind, run_underlying' hT, Result.andThen_ok, run_sizeOf' hE, Sem.run_pure, hlen, hq, hf1, hst, goInt]
  have hnewsz : new.size = q * wd := by
    have := hrel.1; rw [AV.flatL_length, (hu.take q).sizeL, List.length_take, Nat.min_eq_left hq1] at this; simpa using this
  obtain ⟨b0, o0, r0, hr0, hI0, hlies0⟩ := hrd n (.inr (by simp)) _ hH
  obtain ⟨arr, T, fz, k1, k2, k3, k4, k5⟩ := hlies0.ex
  obtain ⟨pre, post, f1, f2, f3⟩ := AV.flat_at p root _ hp
  have hflat : (AV.flatL es).length = es.length * wd := by rw [AV.flatL_length, hue.sizeL]
  have hrlen : root.flat.length = pre.length + es.length * wd + post.length := by rw [f2]; simp [AV.flat, hflat]; omega
  have hiq : i * wd + q * wd ≤ es.length * wd := by rw [← Nat.add_mul]; exact Nat.mul_le_mul_right _ (by omega)
  have hn1 : (AV.flatL (es.take i ++ xs.take q ++ es.drop (i + q))).length = es.length * wd := by
    rw [AV.flatL_length, ((hue.take i).append (hu.take q) |>.append (hue.drop (i + q))).sizeL]
    congr 1
    simp only [List.length_append, List.length_take, List.length_drop]
    omega
  have hone : ∀ v, v ∈ new.toList → v.oneCell' = true := by
    intro v hv
    obtain ⟨j, hj, rfl⟩ := List.getElem_of_mem hv
    have := (hrel.2 j (by rw [← hrel.1]; exact hj)).one
    rwa [List.getD_eq_getElem?_getD, List.getElem?_eq_getElem hj] at this
  -- where the cells are stored
  have main : ∀ (w' : World) (arr' : Array Value), w'.heap[b0]? = some (.cells arr' T fz) → arr'.size = arr.size → (∀ k, arr'.getD k Go.undef = if o0 + off ≤ k ∧ k < o0 + off + q * wd then new.toList.getD (k - (o0 + off)) Go.undef else arr.getD k Go.undef) →
      w'.heap.size = w.heap.size → (∀ k, k ≠ b0 → w'.heap[k]? = w.heap[k]?) → w'.os = w.os → w'.tape = w.tape → w'.output = w.output → K (a.put o.dst (.int .i64 q)) w' := by
    intro w' arr' s2 s3 s4 s5 s6 s7 s8 s9
    obtain ⟨ρ', hp'⟩ := post_write (w := w) (w' := w') (I := I) (ρ := ρ) (e := ⟨.int .i64 q, rd, [n], [(n, .cells (root.upd p (.agg (es.take i ++ xs.take q ++ es.drop (i + q)))))]⟩) (c := .int .i64 q)
      (m := n) (o' := o0) (r' := r0) (blk := .cells (root.upd p (.agg (es.take i ++ xs.take q ++ es.drop (i + q))))) rfl rfl hr0 (.inl ⟨rfl, rfl, rfl⟩) himm s5 s6 s7 s8 s9 fun ρ' hx hm hI => by
        refine ⟨CRel.int _ _, b0, o0, r0, hm, hI, arr', T, fz, s2, by omega, fun j hj => k3 j (by omega), ?_, fun j hj => ?_⟩
        · rw [f3, AV.flat]; simp only [List.length_append, hn1]; omega
        · rw [f3, AV.flat] at hj ⊢
          simp only [List.length_append, hn1] at hj
          rw [s4]
          have h6 := (k5 j (by omega)).mono hx himm
          have elt : ∀ (zs : List AV), zs.length = es.length * wd → (pre ++ zs ++ post).getD j AV.undef = if j < pre.length then pre.getD j AV.undef else if j < pre.length + es.length * wd then zs.getD (j - pre.length) AV.undef else post.getD (j - pre.length - es.length * wd) AV.undef := by
            intro zs hz
            simp only [List.getD_eq_getElem?_getD, List.append_assoc]
            by_cases h1 : j < pre.length
            · rw [if_pos h1, List.getElem?_append_left h1]
            · rw [if_neg h1, List.getElem?_append_right (by omega)]
              by_cases h2 : j < pre.length + es.length * wd
              · rw [if_pos h2, List.getElem?_append_left (by omega)]
              · rw [if_neg h2, List.getElem?_append_right (by omega), hz]
          rw [f2, AV.flat, elt _ hflat] at h6
          rw [elt _ hn1]
          by_cases h1 : j < pre.length
          · rw [if_pos h1] at h6 ⊢
            rw [if_neg (by omega)]; exact h6
          · rw [if_neg h1] at h6 ⊢
            by_cases h2 : j < pre.length + es.length * wd
            · rw [if_pos h2] at h6 ⊢
              have e0 : AV.flatL (es.take i ++ xs.take q ++ es.drop (i + q)) = (AV.flatL es).take (i * wd) ++ AV.flatL (xs.take q) ++ (AV.flatL es).drop (i * wd + q * wd) := by
                rw [AV.flatL_append, AV.flatL_append, flatL_take hue (by omega), flatL_drop hue (by omega), Nat.add_mul]
              have l1 : ((AV.flatL es).take (i * wd)).length = i * wd := by rw [List.length_take, hflat]; omega
              have l2 : (AV.flatL (xs.take q)).length = q * wd := by rw [AV.flatL_length, (hu.take q).sizeL, List.length_take, Nat.min_eq_left hq1]
              rw [e0]
              by_cases h3 : o0 + off ≤ o0 + j ∧ o0 + j < o0 + off + q * wd
              · rw [if_pos h3]
                have := (hrel.2 (j - off) (by rw [l2]; omega)).mono hx himm
                have e1 : ((AV.flatL es).take (i * wd) ++ AV.flatL (xs.take q) ++ (AV.flatL es).drop (i * wd + q * wd)).getD (j - pre.length) AV.undef = (AV.flatL (xs.take q)).getD (j - off) AV.undef := by
                  have : j - pre.length = ((AV.flatL es).take (i * wd)).length + (j - off) := by rw [l1]; omega
                  rw [this, getD_mid _ _ _ _ _ (by rw [l2]; omega)]
                have e2 : o0 + j - (o0 + off) = j - off := by omega
                rw [e1, e2]; exact this
              · rw [if_neg h3]
                have e1 : ((AV.flatL es).take (i * wd) ++ AV.flatL (xs.take q) ++ (AV.flatL es).drop (i * wd + q * wd)).getD (j - pre.length) AV.undef = (AV.flatL es).getD (j - pre.length) AV.undef := by
                  simp only [List.getD_eq_getElem?_getD, List.append_assoc]
                  by_cases h4 : j - pre.length < i * wd
                  · rw [List.getElem?_append_left (by omega), List.getElem?_take, if_pos h4]
                  · rw [List.getElem?_append_right (by omega), List.getElem?_append_right (by omega), l1, l2, List.getElem?_drop]
                    congr 2; omega
                rw [e1]; exact h6
            · rw [if_neg h2] at h6 ⊢
              rw [if_neg (by omega)]; exact h6
    exact hK _ _ _ _ hp'
  unfold Oper.wp
  rcases inv_sl hvx with ⟨h1, h2, ad, hc⟩ | ⟨b, base, r, k, hr, g1, g2, g3, hc⟩
  · have hq0 : q = 0 := by omega
    rw [hrun ad 0 w (by rw [hc, h1]) (by
      have : new.toList = [] := by
        have : new.size = 0 := by rw [hnewsz, hq0, Nat.zero_mul]
        simpa using this
      rw [this]; rfl)]
    exact main w arr k1 rfl (fun k => by rw [if_neg]; rw [hq0]; omega) rfl (fun _ _ => rfl) rfl rfl rfl
  · have e0 : some (b, base, r) = some (b0, o0, r0) := hr.symm.trans hr0
    injection e0 with e0; injection e0 with e1 e0; injection e0 with e2 e3
    subst e1; subst e2; subst e3
    obtain ⟨arr', w', s1, s2, s3, s4, s5, s6, s7, s8, s9⟩ := run_storeCells' (P := P) (b := b) (off := base + off) new.toList 0 w arr k1 (by simp only [Array.length_toList, hnewsz]; omega) k3 hone
    rw [hrun ⟨b, base + off, none⟩ k w' hc s1]
    simp only [Array.length_toList, hnewsz, Nat.add_zero] at s4
    exact main w' arr' s2 s3 s4 s5 s6 s7 s8 s9

end
end Go.Proofs.Ytipbgaahpchhbaa
/- Bytes to a text. -/
namespace Go.Proofs.Ytipbgaahpchhbaa
open Go Go.RowKit


section
variable {P : Program} {o : Oper} {ev : Operand → Option AV} {H : Nat → Option ABlk} {v : AV} {rd : List Nat}

/-! #### bytes to a text -/
/-- The bytes that cells are. -/
def bytesOf : List AV → Option (List UInt8)
  | [] => some []
  | .int .u8 n :: r => (bytesOf r).map (UInt8.ofNat n.toNat :: ·)
  | _ => none

theorem bytesOf_rel {w : World} {I : Nat → Prop} {ρ : Rho} : ∀ {xs : List AV} {cs : List Value} {bs : List UInt8}, bytesOf xs = some bs → CsRel w I ρ (AV.flatL xs) cs →
    ∃ ns : List Int, cs = ns.map (Value.int .u8) ∧ bs = ns.map fun n => UInt8.ofNat n.toNat
  | [], cs, bs, h, hc => by
    simp only [bytesOf, Option.some.injEq] at h
    subst h
    have := hc.1
    simp [AV.flatL] at this
    subst this
    exact ⟨[], rfl, rfl⟩
  | x :: xs, cs, bs, h, hc => by
    unfold bytesOf at h
    split at h
    · cases h; rename_i h; cases h
    · rename_i n r heq
      cases heq
      cases hb : bytesOf xs with
      | none => simp [hb] at h
      | some bs' =>
        simp only [hb, Option.map_some, Option.some.injEq] at h
        subst h
        have e0 : AV.flatL (.int .u8 n :: xs) = .int .u8 n :: AV.flatL xs := rfl
        rw [e0] at hc
        cases cs with
        | nil => have := hc.1; simp at this
        | cons c cs =>
          have h0 := hc.2 0 (by simp)
          simp only [List.getD_cons_zero] at h0
          cases h0
          obtain ⟨ns, h1, h2⟩ := bytesOf_rel (xs := xs) (cs := cs) hb ⟨by have := hc.1; simpa using this, fun k hk => by have := hc.2 (k + 1) (by simpa using hk); simpa using this⟩
          exact ⟨n :: ns, by rw [h1]; rfl, by rw [h2]; rfl⟩
    · cases h

theorem foldl_push (ns : List Int) : ∀ (s : ByteArray), (ns.foldl (fun r n => r.push (UInt8.ofNat n.toNat)) s) = ⟨s.data ++ (ns.map fun n => UInt8.ofNat n.toNat).toArray⟩ := by
  induction ns with
  | nil => intro s; simp
  | cons n ns ih =>
    intro s
    simp only [List.foldl_cons, ih, List.map_cons]
    congr 1
    apply Array.ext'
    simp [ByteArray.push]

theorem ls_strof {S D E : TypeId} {x : Operand} {u : AV} {xs : List AV} {bs : List UInt8} (ho : o.op = .convert S D x) (hx : ev x = some u) (hs : IsSrc H 1 u rd xs) (hns : ∀ s, u ≠ .str s) (hS : P.underlying S = some (.slice E)) (hD : P.underlying D = some .string) (hE : P.underlying E = some (.int .u8))
    (hb : bytesOf xs = some bs) : LS P o ev H ⟨.str ⟨bs.toArray⟩, rd, [], []⟩ := by
  refine LS.value fun a w I ρ hev hrd => ?_
  have hv := hev x (by simp [ho, Op.operands]) _ hx
  obtain ⟨hu, hlen, hcs⟩ := src_rel (P := P) hs hv hrd
  obtain ⟨cs, hf, hrel⟩ := hcs xs.length (Nat.le_refl _)
  rw [List.take_length] at hrel
  obtain ⟨ns, h1, h2⟩ := bytesOf_rel hb hrel
  have hsl : ∃ base len k, a.eval x = .slice base len k := by
    cases hs with
    | nil => exact ⟨_, _, _, inv_nilsl hv⟩
    | vsl es len _ _ => rcases inv_vsl hv with ⟨_, _, ad, k, h⟩ | ⟨b, base, cap, f, _, _, _, _, _, h⟩ <;> exact ⟨_, _, _, h⟩
    | sl n off p i len cap root es _ _ _ _ _ => rcases inv_sl hv with ⟨_, _, ad, h⟩ | ⟨b, base, r, k, _, _, _, _, h⟩ <;> exact ⟨_, _, _, h⟩
    | str s _ => exact absurd rfl (hns s)
  obtain ⟨base, len, k, hc⟩ := hsl
  refine ⟨_, VRel.str _, ?_⟩
  have hlen' : len = xs.length := by
    rw [hc] at hlen
    simpa [Builtin.lenOf] using hlen
  subst hlen'
  have hf1 := hf w rfl
  rw [hc] at hf1
  have hbts : (Conv.bytesToString (.slice base xs.length k)).run P w = .ok (.string ⟨bs.toArray⟩) w := by
    cases base with
    | none =>
      have : cs = #[] := by simpa [Builtin.firstCells] using hf1.symm
      subst this
      have : ns = [] := by simpa using h1.symm
      subst this
      subst h2
      rfl
    | some ad =>
      have hl : (loadCells ad xs.length).run P w = .ok (ns.map (Value.int .u8)).toArray w := by
        simp only [Builtin.firstCells, Nat.mul_one] at hf1
        rw [hf1, ← h1]
      rw [run_bytesToString w ad xs.length k ns hl, foldl_push, h2]
      congr 2
      congr 1
      apply Array.ext'
      simp
  simp only [execOp, ho, hc, convert, Sem.run_bind, run_underlying' hS, run_underlying' hD, Result.andThen_ok]
  cases base with
  | none => simp only [run_underlying' hE, Sem.run_bind, Result.andThen_ok, hbts, Sem.run_pure]
  | some ad => simp only [run_underlying' hE, Sem.run_bind, Result.andThen_ok, hbts, Sem.run_pure]

end
end Go.Proofs.Ytipbgaahpchhbaa
