/- More operations that only make a value. -/
import Derived.Test.YtbhhbadeabhfcaaF8
set_option linter.unusedVariables false
set_option linter.unusedSimpArgs false
namespace Go.Proofs.Ytbhhbadeabhfcaa
open Go Go.RowKit

def bAnd (k : IntKind) (a b : Int) : Int := k.wrap (BitVec.ofInt k.bits a &&& BitVec.ofInt k.bits b).toNat
def bOr (k : IntKind) (a b : Int) : Int := k.wrap (BitVec.ofInt k.bits a ||| BitVec.ofInt k.bits b).toNat
def bXor (k : IntKind) (a b : Int) : Int := k.wrap (BitVec.ofInt k.bits a ^^^ BitVec.ofInt k.bits b).toNat
def bAndNot (k : IntKind) (a b : Int) : Int := k.wrap (BitVec.ofInt k.bits a &&& ~~~ BitVec.ofInt k.bits b).toNat
def bShl (k : IntKind) (a b : Int) : Int := k.wrap (a * 2 ^ (min b.toNat k.bits))
def bShr (k : IntKind) (a b : Int) : Int := a.fdiv (2 ^ (min b.toNat k.bits))

/-- What an operator makes of two numbers. -/
def binI (op : BinOp) (k : IntKind) (a b : Int) : Option AV :=
  match op with
  | .add => some (.int k (k.wrap (a + b)))
  | .sub => some (.int k (k.wrap (a - b)))
  | .mul => some (.int k (k.wrap (a * b)))
  | .quo => if b = 0 then none else some (.int k (k.wrap (a.tdiv b)))
  | .rem => if b = 0 then none else some (.int k (a.tmod b))
  | .and => some (.int k (bAnd k a b))
  | .or => some (.int k (bOr k a b))
  | .xor => some (.int k (bXor k a b))
  | .andNot => some (.int k (bAndNot k a b))
  | .shl => if b < 0 then none else some (.int k (bShl k a b))
  | .shr => if b < 0 then none else some (.int k (bShr k a b))
  | .eql => some (.bool (a == b))
  | .neq => some (.bool (a != b))
  | .lss => some (.bool (decide (a < b)))
  | .leq => some (.bool (decide (a ≤ b)))
  | .gtr => some (.bool (decide (b < a)))
  | .geq => some (.bool (decide (b ≤ a)))

def shifty : BinOp → Bool
  | .shl | .shr => true
  | _ => false

def strEq (s t : ByteArray) : Bool := s.toList == t.toList
def binS (op : BinOp) (s t : ByteArray) : Option AV :=
  match op with
  | .add => if s.size + t.size ≤ 9223372036854775807 then some (.str (s ++ t)) else none
  | .eql => some (.bool (strEq s t))
  | .neq => some (.bool (!strEq s t))
  | .lss => some (.bool (Op.bytesLess s.toList t.toList))
  | _ => none

section
variable {P : Program} {o : Oper} {ev : Operand → Option AV} {H : Nat → Option ABlk} {v : AV} {rd : List Nat}

theorem VRel.int {w : World} {I : Nat → Prop} {ρ : Rho} (k : IntKind) (n : Int) : VRel w I ρ (.int k n) (.int k n) := CRel.int k n
theorem VRel.bool {w : World} {I : Nat → Prop} {ρ : Rho} (b : Bool) : VRel w I ρ (.bool b) (.bool b) := CRel.bool b
theorem VRel.str {w : World} {I : Nat → Prop} {ρ : Rho} (s : ByteArray) : VRel w I ρ (.str s) (.string s) := CRel.str s

theorem ls_bin_int {op : BinOp} {T T' : TypeId} {x y : Operand} {k k' : IntKind} {a b : Int} (ho : o.op = .binOp op T x y T') (hx : ev x = some (.int k a)) (hy : ev y = some (.int k' b)) (hk : k = k' ∨ shifty op = true)
    (h : binI op k a b = some v) : LS P o ev H ⟨v, [], [], []⟩ := by
  refine LS.value fun c w I ρ hev hrd => ?_
  have h1 := inv_int (hev x (by simp [ho, Op.operands]) _ hx)
  have h2 := inv_int (hev y (by simp [ho, Op.operands]) _ hy)
  by_cases hs : shifty op = true
  · cases op <;> simp [shifty] at hs <;>
      (simp only [binI] at h
       split at h
       · cases h
       · rename_i hb
         cases h
         refine ⟨_, VRel.int _ _, ?_⟩
         simp [execOp, ho, h1, h2, eqGuard, binOp, Op.shift, hb, bShl, bShr])
  · have hk : k = k' := hk.resolve_right hs
    subst hk
    cases op <;> simp [shifty] at hs <;> simp only [binI] at h
    case quo =>
      split at h
      · cases h
      · rename_i hb; cases h
        exact ⟨_, VRel.int _ _, by simp [execOp, ho, h1, h2, eqGuard, binOp, Op.intDiv, hb]⟩
    case rem =>
      split at h
      · cases h
      · rename_i hb; cases h
        exact ⟨_, VRel.int _ _, by simp [execOp, ho, h1, h2, eqGuard, binOp, Op.intDiv, hb]⟩
    all_goals
      cases h
      first
      | exact ⟨_, VRel.int _ _, by simp [execOp, ho, h1, h2, eqGuard, binOp, Op.intArith, Op.intBits, bAnd, bOr, bXor, bAndNot]⟩
      | exact ⟨_, VRel.bool _, by simp [execOp, ho, h1, h2, eqGuard, binOp, Op.intCmp]⟩

theorem ls_bin_str {op : BinOp} {T T' : TypeId} {x y : Operand} {s t : ByteArray} (ho : o.op = .binOp op T x y T') (hx : ev x = some (.str s)) (hy : ev y = some (.str t)) (h : binS op s t = some v) : LS P o ev H ⟨v, [], [], []⟩ := by
  refine LS.value fun c w I ρ hev hrd => ?_
  have h1 := inv_str (hev x (by simp [ho, Op.operands]) _ hx)
  have h2 := inv_str (hev y (by simp [ho, Op.operands]) _ hy)
  cases op <;> simp only [binS] at h
  case add =>
    split at h
    · rename_i hb; cases h
      have : ¬ (((s.size + t.size : Nat) : Int) > IntKind.i64.max) := by
        have : IntKind.i64.max = 9223372036854775807 := by decide
        rw [this]; omega
      refine ⟨_, VRel.str _, ?_⟩
      simp only [execOp, ho, h1, h2, eqGuard, binOp, Op.stringOp, this, if_false]
      rfl
    · cases h
  all_goals first
    | (cases h; done)
    | (cases h; exact ⟨_, VRel.bool _, by simp [execOp, ho, h1, h2, eqGuard, binOp, Op.stringOp, strEq]⟩)

theorem ls_not {T : TypeId} {x : Operand} {b : Bool} (ho : o.op = .unOp .not T x) (hx : ev x = some (.bool b)) : LS P o ev H ⟨.bool (!b), [], [], []⟩ := by
  refine LS.value fun c w I ρ hev hrd => ?_
  have h1 := (hev x (by simp [ho, Op.operands]) _ hx).bool_inv
  exact ⟨_, VRel.bool _, by simp [execOp, ho, h1, Op.unary]⟩

def unI (op : UnOp) (k : IntKind) (n : Int) : Option AV := match op with
  | .neg => some (.int k (k.wrap (0 - n)))
  | .xor => some (.int k (bXor k (if k.signed then -1 else k.max) n))
  | _ => none

theorem ls_un_int {op : UnOp} {T : TypeId} {x : Operand} {k : IntKind} {n : Int} (ho : o.op = .unOp op T x) (hx : ev x = some (.int k n)) (h : unI op k n = some v) : LS P o ev H ⟨v, [], [], []⟩ := by
  refine LS.value fun c w I ρ hev hrd => ?_
  have h1 := inv_int (hev x (by simp [ho, Op.operands]) _ hx)
  cases op <;> simp only [unI] at h <;> first
    | (cases h; done)
    | (cases h; exact ⟨_, VRel.int _ _, by simp [execOp, ho, h1, Op.unary, Op.intArith, Op.intBits, bXor]⟩)

theorem ls_conv_int {S D : TypeId} {x : Operand} {k k' : IntKind} {n : Int} {d : TypeDesc} (ho : o.op = .convert S D x) (hx : ev x = some (.int k n)) (hS : P.underlying S = some d) (hD : P.underlying D = some (.int k')) :
    LS P o ev H ⟨.int k' (k'.wrap n), [], [], []⟩ := by
  refine LS.value fun c w I ρ hev hrd => ?_
  have h1 := inv_int (hev x (by simp [ho, Op.operands]) _ hx)
  refine ⟨_, VRel.int _ _, ?_⟩
  simp [execOp, ho, h1, convert, run_underlying' hS, run_underlying' hD, Conv.intToInt]

theorem ls_len_str {T : TypeId} {x : Operand} {s : ByteArray} (ho : o.op = .call { callee := .builtin .len, args := #[x], argTypes := #[T] }) (hx : ev x = some (.str s)) (hT : P.underlying T = some .string) :
    LS P o ev H ⟨.int .i64 s.size, [], [], []⟩ := by
  refine LS.value fun c w I ρ hev hrd => ?_
  have h1 := inv_str (hev x (by simp [ho, Op.operands, Call.operands]) _ hx)
  refine ⟨_, VRel.int _ _, ?_⟩
  simp [execOp, ho, resolve, invoke, builtin, Builtin.len_, h1, run_underlying' hT, goInt]

/-- How long a slice is. -/
def slLen : AV → Option Nat
  | .nilsl => some 0
  | .sl _ _ _ _ len _ _ => some len
  | .vsl _ len => some len
  | _ => none

theorem slLen_rel {w : World} {I : Nat → Prop} {ρ : Rho} {x : AV} {n : Nat} {c : Value} (h : slLen x = some n) (hc : VRel w I ρ x c) : ∃ a k, c = .slice a n k := by
  cases x <;> simp only [slLen, Option.some.injEq, reduceCtorEq] at h
  · subst h; exact ⟨_, _, inv_nilsl hc⟩
  · subst h
    rcases inv_sl hc with ⟨h1, _, a, h2⟩ | ⟨_, _, _, _, _, _, _, _, h⟩
    · subst h1; exact ⟨_, _, h2⟩
    · exact ⟨_, _, h⟩
  · subst h
    rcases inv_vsl hc with ⟨_, h1, a, k, h2⟩ | ⟨_, _, _, _, _, _, _, _, _, h⟩
    · subst h1; exact ⟨_, _, h2⟩
    · exact ⟨_, _, h⟩

theorem ls_len_sl {T E : TypeId} {x : Operand} {u : AV} {n : Nat} (ho : o.op = .call { callee := .builtin .len, args := #[x], argTypes := #[T] }) (hx : ev x = some u) (hl : slLen u = some n) (hT : P.underlying T = some (.slice E)) :
    LS P o ev H ⟨.int .i64 n, [], [], []⟩ := by
  refine LS.value fun c w I ρ hev hrd => ?_
  obtain ⟨a, k, h1⟩ := slLen_rel hl (hev x (by simp [ho, Op.operands, Call.operands]) _ hx)
  refine ⟨_, VRel.int _ _, ?_⟩
  simp [execOp, ho, resolve, invoke, builtin, Builtin.len_, h1, run_underlying' hT, goInt]

theorem ls_len_arr {T E : TypeId} {x : Operand} {u : AV} {n : Nat} (ho : o.op = .call { callee := .builtin .len, args := #[x], argTypes := #[T] }) (hx : ev x = some u) (hT : P.underlying T = some (.array n E)) :
    LS P o ev H ⟨.int .i64 n, [], [], []⟩ := by
  refine LS.value fun c w I ρ hev hrd => ⟨_, VRel.int _ _, ?_⟩
  simp [execOp, ho, resolve, invoke, builtin, Builtin.len_, run_underlying' hT, goInt]

theorem ls_min {b : Builtin} {x y : Operand} {ts : Array TypeId} {k : IntKind} {m n : Int} (hb : b = .min ∨ b = .max) (ho : o.op = .call { callee := .builtin b, args := #[x, y], argTypes := ts }) (hx : ev x = some (.int k m)) (hy : ev y = some (.int k n)) :
    LS P o ev H ⟨.int k (if b = .min then (if n < m then n else m) else (if m < n then n else m)), [], [], []⟩ := by
  refine LS.value fun c w I ρ hev hrd => ?_
  have h1 := inv_int (hev x (by simp [ho, Op.operands, Call.operands]) _ hx)
  have h2 := inv_int (hev y (by simp [ho, Op.operands, Call.operands]) _ hy)
  refine ⟨_, VRel.int _ _, ?_⟩
  rcases hb with rfl | rfl
  · simp [execOp, ho, resolve, invoke, builtin, Builtin.min_, Builtin.min2, h1, h2]
  · simp [execOp, ho, resolve, invoke, builtin, Builtin.max_, Builtin.max2, h1, h2]

/-- A byte of a string. -/
def byteAt (s : ByteArray) (q : Int) : Int := ((s.data.getD q.toNat 0).toNat : Int)

theorem ls_index_str {T : TypeId} {x y : Operand} {s : ByteArray} {k : IntKind} {q : Int} (ho : o.op = .index T x y) (hx : ev x = some (.str s)) (hy : ev y = some (.int k q)) (hT : P.underlying T = some .string) (h0 : 0 ≤ q) (h1 : q < s.size) :
    LS P o ev H ⟨.int .u8 (byteAt s q), [], [], []⟩ := by
  refine LS.value fun c w I ρ hev hrd => ?_
  have g1 := inv_str (hev x (by simp [ho, Op.operands]) _ hx)
  have g2 := inv_int (hev y (by simp [ho, Op.operands]) _ hy)
  refine ⟨_, VRel.int _ _, ?_⟩
  have hlt : q.toNat < s.size := by omega
  have hlt' : q.toNat < s.data.size := hlt
  have e1 : s[q.toNat]? = some (s.data.getD q.toNat 0) := by
    rw [getElem?_pos s q.toNat hlt]
    rw [Array.getD_eq_getD_getElem?, Array.getElem?_eq_getElem hlt']; rfl
  simp only [execOp, ho, g1, g2, Instr.index, asIntOf, pure_bind, Sem.run_bind, run_underlying' hT, Result.andThen_ok, h0, if_true, e1, Sem.run_pure, byteAt]

theorem ls_slice_str {T : TypeId} {x : Operand} {lo hi : Option Operand} {s : ByteArray} {l h : Int} (ho : o.op = .slice T x lo hi none) (hx : ev x = some (.str s))
    (hlo : match lo with | some y => ∃ k, ev y = some (.int k l) | none => l = 0) (hhi : match hi with | some y => ∃ k, ev y = some (.int k h) | none => h = s.size)
    (hT : P.underlying T = some .string) (h0 : 0 ≤ l) (h1 : l ≤ h) (h2 : h ≤ s.size) : LS P o ev H ⟨.str (s.extract l.toNat h.toNat), [], [], []⟩ := by
  refine LS.value fun c w I ρ hev hrd => ?_
  have g1 := inv_str (hev x (by cases lo <;> cases hi <;> simp [ho, Op.operands]) _ hx)
  refine ⟨_, VRel.str _, ?_⟩
  have b2 : (h.toNat : Int) = h := by omega
  have e1 : (Instr.sliceBounds false s.size s.size (lo.map c.eval) (hi.map c.eval) none).run P w = .ok (l.toNat, h.toNat, s.size) w := by
    cases lo with
    | none =>
      simp only at hlo; subst hlo
      cases hi with
      | none => simp only at hhi; subst hhi; simp [Instr.sliceBounds]
      | some y =>
        obtain ⟨k, hy⟩ := hhi
        have g3 := inv_int (hev y (by simp [ho, Op.operands]) _ hy)
        have : 0 ≤ h := by omega
        simp [Instr.sliceBounds, g3, Instr.sliceBound, asIntOf, h2, this]
    | some z =>
      obtain ⟨k', hz⟩ := hlo
      have g4 := inv_int (hev z (by simp [ho, Op.operands]) _ hz)
      cases hi with
      | none => simp only at hhi; subst hhi; simp [Instr.sliceBounds, g4, Instr.sliceBound, asIntOf, h0, h1]
      | some y =>
        obtain ⟨k, hy⟩ := hhi
        have g3 := inv_int (hev y (by simp [ho, Op.operands]) _ hy)
        have : 0 ≤ h := by omega
        have h1' : l ≤ (h.toNat : Int) := by omega
        simp only [Instr.sliceBounds, Option.map_some, g3, g4, Instr.sliceBound, asIntOf, pure_bind, Sem.run_bind, Sem.run_ite, h2, this, and_self, if_true, Sem.run_pure, Result.andThen_ok, h0, h1', true_and]
  simp only [execOp, ho, g1, Instr.sliceAt, Instr.slice, Sem.run_bind, run_underlying' hT, Result.andThen_ok, Option.map_none, Option.isSome_none, Bool.false_eq_true, if_false, Sem.run_pure, e1, Sem.run_ite]

end
end Go.Proofs.Ytbhhbadeabhfcaa
