/- What each operation comes to, as equations. -/
import Derived.Test.YtipbgaahpchhbaaM3
import Derived.Laws.Strings
set_option linter.unusedVariables false
set_option linter.unusedSimpArgs false
namespace Go.Proofs.Ytipbgaahpchhbaa
open Go Go.RowKit

section
variable {P : Program} {Z : TypeId → Option AV} {d : Option Tmp} {ty : TypeId} {pos : String} {af : Array Edge} {g : Option (Nat × Bool)} {s : St} {K : Eff → Nat → Prop}

theorem BO_nil {all : List Oper} {K : St → Prop} {n : Nat} {t : Env} {H : Heap} {m : Nat} : BO P Z all [] ⟨n, t, H, m⟩ K = K ⟨n, t, H, m⟩ := rfl
theorem BO_cons {all os : List Oper} {K : St → Prop} {op : Op} {n : Nat} {t : Env} {H : Heap} {m : Nat} : BO P Z all (⟨d, op, ty, pos, af, none⟩ :: os) ⟨n, t, H, m⟩ K = Do P Z ⟨d, op, ty, pos, af, none⟩ ⟨n, t, H, m⟩ fun e nx => BO P Z all os (St.app ⟨n, t, H, m⟩ d e nx) K := rfl
theorem BO_consg {all os : List Oper} {K : St → Prop} {op : Op} {j : Nat} {want : Bool} {n : Nat} {t : Env} {H : Heap} {m : Nat} : BO P Z all (⟨d, op, ty, pos, af, some (j, want)⟩ :: os) ⟨n, t, H, m⟩ K =
    Got (((all[j]?).bind (·.dst)).bind (look t)) fun v => Gd want v (Do P Z ⟨d, op, ty, pos, af, some (j, want)⟩ ⟨n, t, H, m⟩ fun e nx => BO P Z all os (St.app ⟨n, t, H, m⟩ d e nx) K) (BO P Z all os ⟨n, Env.put t d (.tuple []), H, m⟩ K) := rfl
theorem BOD_nil {all : List Oper} {L : List Foot} {K : List Foot → St → Prop} {n : Nat} {t : Env} {H : Heap} {m : Nat} : BOD P Z all [] ⟨n, t, H, m⟩ L K = K L ⟨n, t, H, m⟩ := rfl
theorem BOD_cons {all os : List Oper} {L : List Foot} {K : List Foot → St → Prop} {op : Op} {n : Nat} {t : Env} {H : Heap} {m : Nat} : BOD P Z all (⟨d, op, ty, pos, af, none⟩ :: os) ⟨n, t, H, m⟩ L K = Do P Z ⟨d, op, ty, pos, af, none⟩ ⟨n, t, H, m⟩ fun e nx => BOD P Z all os (St.app ⟨n, t, H, m⟩ d e nx) (L ++ [e.foot]) K := rfl
theorem BOD_consg {all os : List Oper} {L : List Foot} {K : List Foot → St → Prop} {op : Op} {j : Nat} {want : Bool} {n : Nat} {t : Env} {H : Heap} {m : Nat} : BOD P Z all (⟨d, op, ty, pos, af, some (j, want)⟩ :: os) ⟨n, t, H, m⟩ L K =
    Got (((all[j]?).bind (·.dst)).bind (look t)) fun v => Gd want v (Do P Z ⟨d, op, ty, pos, af, some (j, want)⟩ ⟨n, t, H, m⟩ fun e nx => BOD P Z all os (St.app ⟨n, t, H, m⟩ d e nx) (L ++ [e.foot]) K) (BOD P Z all os ⟨n, Env.put t d (.tuple []), H, m⟩ (L ++ [([], [])]) K) := rfl

theorem RunR_nil {K : St → Prop} : RunR P Z [] false s K = K s := rfl
theorem RunR_false {o : Oper} {ops : List Oper} {K : St → Prop} : RunR P Z (o :: ops) false s K = BO P Z (o :: ops) (o :: ops) s K := rfl
theorem RunR_true {o : Oper} {ops : List Oper} {K : St → Prop} : RunR P Z (o :: ops) true s K = BOD P Z (o :: ops) (o :: ops) s [] fun L s' => Need (confOk (o :: ops) L = true) (K s') := rfl

section
variable {n : Nat} {t : Env} {H : Heap} {m : Nat} {Q : Exit → St → Prop}
theorem Run_skip : Run P Z .skip ⟨n, t, H, m⟩ Q = Q .normal ⟨n, t, H, m⟩ := rfl
theorem Run_ret : Run P Z .ret ⟨n, t, H, m⟩ Q = Q .ret ⟨n, t, H, m⟩ := rfl
theorem Run_exit {id : Nat} : Run P Z (.exit id) ⟨n, t, H, m⟩ Q = Q (.exit id) ⟨n, t, H, m⟩ := rfl
theorem Run_seq {x y : Code} : Run P Z (.seq x y) ⟨n, t, H, m⟩ Q = Run P Z x ⟨n, t, H, m⟩ fun e s' => match e with
    | .normal => Run P Z y s' Q
    | e => Q e s' := rfl
theorem Run_cond {c : Operand} {x y : Code} : Run P Z (.cond c x y) ⟨n, t, H, m⟩ Q = Got (St.ev ⟨n, t, H, m⟩ c) fun v => BranchV v (Run P Z x ⟨n, t, H, m⟩ Q) (Run P Z y ⟨n, t, H, m⟩ Q) := rfl
theorem Run_block {id : Nat} {c : Code} : Run P Z (.block id c) ⟨n, t, H, m⟩ Q = Run P Z c ⟨n, t, H, m⟩ fun e s' => match e with
    | .exit i => if i = id then Q .normal s' else Q (.exit i) s'
    | e => Q e s' := rfl
theorem Run_region {id : Nat} {ops : Array Oper} {draw : Bool} : Run P Z (.region id ops draw) ⟨n, t, H, m⟩ Q = RunR P Z ops.toList draw ⟨n, t, H, m⟩ (Q .normal) := rfl
def LoopI (P : Program) (c : Code) (s : St) (Q : Exit → St → Prop) (_ : Inert Q := ⟨()⟩) : Prop := AWp P (.loop c) s Q
theorem Run_loop {c : Code} : Run P Z (.loop c) ⟨n, t, H, m⟩ Q = LoopI P c ⟨n, t, H, m⟩ fun e s' => Q e s' ∧ s'.n = n := rfl

theorem St_app {v : AV} {rd wr : List Nat} {put : Heap} {nx : Nat} : St.app ⟨n, t, H, m⟩ d ⟨v, rd, wr, put⟩ nx = ⟨n, Env.put t d v, put ++ Heap.dels H wr, nx⟩ := rfl
end
theorem put_some {t : Env} {x : Tmp} {v : AV} : Env.put t (some x) v = (x, v) :: t := rfl
theorem put_none {t : Env} {v : AV} : Env.put t none v = t := rfl
theorem dels_nil {H : Heap} : Heap.dels H [] = H := rfl
theorem dels_cons {H : Heap} {n : Nat} {r : List Nat} : Heap.dels H (n :: r) = Heap.dels (Heap.del H n) r := rfl
theorem del_nil {n : Nat} : Heap.del [] n = [] := rfl
theorem del_cons {H : Heap} {n m : Nat} {b : ABlk} : Heap.del ((m, b) :: H) n = if n = m then Heap.del H n else (m, b) :: Heap.del H n := rfl
theorem foot_mk {v : AV} {rd wr : List Nat} {put : Heap} : Eff.foot ⟨v, rd, wr, put⟩ = (rd, wr ++ put.map (·.1)) := rfl
theorem look_cons {m n : Nat} {v : AV} {r : Env} : look ((m, v) :: r) n = if n = m then some v else look r n := rfl
theorem look_nil {n : Nat} : look [] n = none := rfl
theorem get_cons {m n : Nat} {b : ABlk} {r : Heap} : Heap.get ((m, b) :: r) n = if n = m then some b else Heap.get r n := rfl
theorem get_nil {n : Nat} : Heap.get [] n = none := rfl
section
variable {n : Nat} {t : Env} {H : Heap} {m : Nat}
theorem ev_tmp {x : Nat} : St.ev ⟨n, t, H, m⟩ (.tmp x) = look t x := rfl
theorem ev_const {c : Value} : St.ev ⟨n, t, H, m⟩ (.const c) = constAV c := rfl
theorem ev_func {f : Nat} : St.ev ⟨n, t, H, m⟩ (.func f) = some (.func f []) := rfl
end
theorem const_bool (b : Bool) : constAV (.bool b) = some (.bool b) := rfl
theorem const_int (k : IntKind) (n : Int) : constAV (.int k n) = some (.int k n) := rfl
theorem const_str (x : ByteArray) : constAV (.string x) = some (.str x) := rfl
theorem const_nilptr : constAV (.pointer none) = some .nilptr := rfl
theorem const_nilsl : constAV (.slice none 0 0) = some .nilsl := rfl
theorem const_nilmap : constAV (.map none) = some .nilmap := rfl

section
variable {n : Nat} {t : Env} {H : Heap} {m : Nat}

theorem Do_move {x : Operand} : Do P Z ⟨d, .move x, ty, pos, af, g⟩ ⟨n, t, H, m⟩ K = Got (St.ev ⟨n, t, H, m⟩ x) fun v => K ⟨v, [], [], []⟩ m := by
  simp only [Do, Got]; cases St.ev ⟨n, t, H, m⟩ x <;> rfl
theorem Do_assign {x : Operand} : Do P Z ⟨d, .assign x, ty, pos, af, g⟩ ⟨n, t, H, m⟩ K = Got (St.ev ⟨n, t, H, m⟩ x) fun v => K ⟨v, [], [], []⟩ m := by
  simp only [Do, Got]; cases St.ev ⟨n, t, H, m⟩ x <;> rfl

/-- What `pick` takes. -/
def pickAV (c : AV) (a b : Option AV) : Option AV := match c with
  | .bool t => if t then a else b
  | _ => none
theorem pick_true {a b : Option AV} : pickAV (.bool true) a b = a := rfl
theorem pick_false {a b : Option AV} : pickAV (.bool false) a b = b := rfl
theorem pick_bool {c a b : Bool} : pickAV (.bool c) (some (.bool a)) (some (.bool b)) = some (.bool (if c then a else b)) := by cases c <;> rfl
theorem Do_pick {c a b : Operand} : Do P Z ⟨d, .pick c a b, ty, pos, af, g⟩ ⟨n, t, H, m⟩ K = Got (St.ev ⟨n, t, H, m⟩ c) fun u => Got (pickAV u (St.ev ⟨n, t, H, m⟩ a) (St.ev ⟨n, t, H, m⟩ b)) fun v => K ⟨v, [], [], []⟩ m := by
  simp only [Do, Got, pickAV]
  cases h : St.ev ⟨n, t, H, m⟩ c with
  | none => rfl
  | some u =>
    cases u <;> try rfl
    rename_i b'
    cases b'
    · simp only [Bool.false_eq_true, if_false]; cases St.ev ⟨n, t, H, m⟩ b <;> rfl
    · simp only [if_true]; cases St.ev ⟨n, t, H, m⟩ a <;> rfl
theorem Do_alloc {T : TypeId} : Do P Z ⟨d, .alloc T, ty, pos, af, g⟩ ⟨n, t, H, m⟩ K = Got (Z T) fun z => K ⟨.ptr m 0 [], [], [], [(m, .cells z)]⟩ (m + 1) := by
  simp only [Do, Got]; cases Z T <;> rfl
theorem Do_box {T : TypeId} {x : Operand} : Do P Z ⟨d, .box T x, ty, pos, af, g⟩ ⟨n, t, H, m⟩ K = Got (St.ev ⟨n, t, H, m⟩ x) fun u => Need (u.layable = true) (K ⟨.ptr m 0 [], [], [], [(m, .cells u)]⟩ (m + 1)) := by
  simp only [Do, Got, Need]; cases St.ev ⟨n, t, H, m⟩ x <;> rfl

def LoadAt (P : Program) (T : TypeId) (H : Heap) (u : AV) (K : AV → List Nat → Prop) : Prop := match u with
  | .ptr n off p => GotC (Heap.get H n) fun root => Got (root.proj p) fun u => Need (root.offOf p = off ∧ LoadOk P T u) (K u [n])
  | .vptr root off p => Got (root.proj p) fun u => Need (root.offOf p = off ∧ LoadOk P T u) (K u [])
  | _ => False
@[congr] theorem LoadAt_congr {T : TypeId} {H H' : Heap} {u u' : AV} {K : AV → List Nat → Prop} (h : H = H') (h' : u = u') : LoadAt P T H u K = LoadAt P T H' u' K := by rw [h, h']
theorem LoadAt_ptr {T : TypeId} {H : Heap} {nn off : Nat} {p : List Nat} {K : AV → List Nat → Prop} : LoadAt P T H (.ptr nn off p) K = GotC (Heap.get H nn) fun root => Got (root.proj p) fun u => Need (root.offOf p = off ∧ LoadOk P T u) (K u [nn]) := rfl
theorem LoadAt_vptr {T : TypeId} {H : Heap} {root : AV} {off : Nat} {p : List Nat} {K : AV → List Nat → Prop} : LoadAt P T H (.vptr root off p) K = Got (root.proj p) fun u => Need (root.offOf p = off ∧ LoadOk P T u) (K u []) := rfl
theorem Do_load {T : TypeId} {x : Operand} : Do P Z ⟨d, .load T x, ty, pos, af, g⟩ ⟨n, t, H, m⟩ K = Got (St.ev ⟨n, t, H, m⟩ x) fun u => LoadAt P T H u fun v rd => K ⟨v, rd, [], []⟩ m := by
  simp only [Do, Got, LoadAt, GotC, Need]
  cases h : St.ev ⟨n, t, H, m⟩ x with
  | none => rfl
  | some u =>
    cases u <;> try rfl
    · rename_i nn off p
      simp only
      cases h2 : Heap.get H nn with
      | none => rfl
      | some b => cases b <;> try rfl
                  rename_i r
                  simp only
                  cases r.proj p <;> rfl
    · rename_i r off p
      simp only
      cases r.proj p <;> rfl

def StoreAt (P : Program) (T : TypeId) (H : Heap) (x u : AV) (K : Nat → AV → Prop) : Prop := match x with
  | .ptr n off p => GotC (Heap.get H n) fun root => Got (root.proj p) fun old => Need (root.offOf p = off ∧ u.layable = true ∧ u.size = old.size ∧ szOf P T = some u.size) (K n (root.upd p u))
  | _ => False
@[congr] theorem StoreAt_congr {T : TypeId} {H H' : Heap} {x x' u u' : AV} {K : Nat → AV → Prop} (h : H = H') (h' : u = u') (h'' : x = x') : StoreAt P T H x u K = StoreAt P T H' x' u' K := by rw [h, h', h'']
theorem StoreAt_ptr {T : TypeId} {H : Heap} {nn off : Nat} {p : List Nat} {u : AV} {K : Nat → AV → Prop} : StoreAt P T H (.ptr nn off p) u K = GotC (Heap.get H nn) fun root => Got (root.proj p) fun old => Need (root.offOf p = off ∧ u.layable = true ∧ u.size = old.size ∧ szOf P T = some u.size) (K nn (root.upd p u)) := rfl
theorem Do_store {T : TypeId} {x y : Operand} : Do P Z ⟨d, .store T x y, ty, pos, af, g⟩ ⟨n, t, H, m⟩ K = Got (St.ev ⟨n, t, H, m⟩ x) fun a => Got (St.ev ⟨n, t, H, m⟩ y) fun u => StoreAt P T H a u fun nn r => K ⟨.undef, [], [nn], [(nn, .cells r)]⟩ m := by
  simp only [Do, Got, StoreAt, GotC, Need]
  cases h : St.ev ⟨n, t, H, m⟩ x with
  | none => rfl
  | some u =>
    cases h1 : St.ev ⟨n, t, H, m⟩ y with
    | none => cases u <;> rfl
    | some v =>
      cases u <;> try rfl
      rename_i nn off p
      simp only
      cases h2 : Heap.get H nn with
      | none => rfl
      | some b => cases b <;> try rfl
                  rename_i r
                  simp only
                  cases r.proj p <;> rfl

def FieldAt (P : Program) (S : TypeId) (j : Nat) (x : AV) (K : AV → Prop) : Prop := match P.underlying S with
  | some (.struct fs) => Got fs[j]? fun f => Got (szOf P f.type) fun k => match x with
    | .ptr n off p => Need (k ≠ 0) (K (.ptr n (off + f.offset) (p ++ [j])))
    | .vptr r off p => Need (k ≠ 0) (K (.vptr r (off + f.offset) (p ++ [j])))
    | _ => False
  | _ => False
@[congr] theorem FieldAt_congr {S : TypeId} {j : Nat} {x x' : AV} {K : AV → Prop} (h : x = x') : FieldAt P S j x K = FieldAt P S j x' K := by rw [h]
/-- Of a struct type: where its fields lie. -/
def fAt (P : Program) (S : TypeId) (j : Nat) : Option Nat := match P.underlying S with
  | some (.struct fs) => (fs[j]?).bind fun f => (szOf P f.type).bind fun k => if k ≠ 0 then some f.offset else none
  | _ => none
theorem FieldAt_ptr {S : TypeId} {j nn off : Nat} {p : List Nat} {K : AV → Prop} : FieldAt P S j (.ptr nn off p) K = Got (fAt P S j) fun o => K (.ptr nn (off + o) (p ++ [j])) := by
  unfold FieldAt fAt
  split
  · rename_i fs h
    cases fs[j]? with
    | none => rfl
    | some f =>
      simp only [Got, Option.bind_some]
      cases szOf P f.type with
      | none => rfl
      | some k => by_cases hk : k = 0 <;> simp [Need, hk]
  · rfl
theorem FieldAt_vptr {S : TypeId} {j off : Nat} {r : AV} {p : List Nat} {K : AV → Prop} : FieldAt P S j (.vptr r off p) K = Got (fAt P S j) fun o => K (.vptr r (off + o) (p ++ [j])) := by
  unfold FieldAt fAt
  split
  · rename_i fs h
    cases fs[j]? with
    | none => rfl
    | some f =>
      simp only [Got, Option.bind_some]
      cases szOf P f.type with
      | none => rfl
      | some k => by_cases hk : k = 0 <;> simp [Need, hk]
  · rfl
theorem Do_fieldAddr {S : TypeId} {x : Operand} {j : Nat} : Do P Z ⟨d, .fieldAddr S x j, ty, pos, af, g⟩ ⟨n, t, H, m⟩ K = Got (St.ev ⟨n, t, H, m⟩ x) fun a => FieldAt P S j a fun v => K ⟨v, [], [], []⟩ m := by
  simp only [Do, Got, FieldAt, Need]
  cases h : St.ev ⟨n, t, H, m⟩ x with
  | none =>
    cases h1 : P.underlying S with
    | none => rfl
    | some D =>
      cases D <;> try rfl
      rename_i fs
      simp only
      cases fs[j]? with
      | none => rfl
      | some f => simp only; cases szOf P f.type <;> rfl
  | some u =>
    cases h1 : P.underlying S with
    | none => rfl
    | some D =>
      cases D <;> try rfl
      rename_i fs
      simp only
      cases fs[j]? with
      | none => rfl
      | some f =>
        simp only
        cases szOf P f.type with
        | none => rfl
        | some k => cases u <;> rfl

theorem Do_indexAddr {T : TypeId} {x y : Operand} : Do P Z ⟨d, .indexAddr T x y, ty, pos, af, g⟩ ⟨n, t, H, m⟩ K = DoIndexAddr P T (St.ev ⟨n, t, H, m⟩ x) (St.ev ⟨n, t, H, m⟩ y) fun v => K ⟨v, [], [], []⟩ m := rfl
theorem Do_index {T : TypeId} {x y : Operand} : Do P Z ⟨d, .index T x y, ty, pos, af, g⟩ ⟨n, t, H, m⟩ K = DoIndex P T (St.ev ⟨n, t, H, m⟩ x) (St.ev ⟨n, t, H, m⟩ y) fun v => K ⟨v, [], [], []⟩ m := rfl
theorem Do_binOp {op : BinOp} {T T' : TypeId} {x y : Operand} : Do P Z ⟨d, .binOp op T x y T', ty, pos, af, g⟩ ⟨n, t, H, m⟩ K = DoBin P op T (St.ev ⟨n, t, H, m⟩ x) (St.ev ⟨n, t, H, m⟩ y) fun v => K ⟨v, [], [], []⟩ m := rfl
theorem Do_slice {T : TypeId} {x : Operand} {lo hi : Option Operand} : Do P Z ⟨d, .slice T x lo hi none, ty, pos, af, g⟩ ⟨n, t, H, m⟩ K = DoSlice P T (St.ev ⟨n, t, H, m⟩ x) lo hi ⟨n, t, H, m⟩ K := rfl
theorem Do_convert {S D : TypeId} {x : Operand} : Do P Z ⟨d, .convert S D x, ty, pos, af, g⟩ ⟨n, t, H, m⟩ K = DoConvert P S D (St.ev ⟨n, t, H, m⟩ x) ⟨n, t, H, m⟩ K := rfl
theorem Do_append {x y : Operand} {T1 T2 : TypeId} : Do P Z ⟨d, .call { callee := .builtin .append, args := #[x, y], argTypes := #[T1, T2] }, ty, pos, af, g⟩ ⟨n, t, H, m⟩ K = DoAppend P Z T1 T2 (St.ev ⟨n, t, H, m⟩ x) (St.ev ⟨n, t, H, m⟩ y) ⟨n, t, H, m⟩ K := rfl
theorem Do_copy {x y : Operand} {T1 T2 : TypeId} : Do P Z ⟨d, .call { callee := .builtin .copy, args := #[x, y], argTypes := #[T1, T2] }, ty, pos, af, g⟩ ⟨n, t, H, m⟩ K = DoCopy P T1 (St.ev ⟨n, t, H, m⟩ x) (St.ev ⟨n, t, H, m⟩ y) ⟨n, t, H, m⟩ K := rfl
def CallI (P : Program) (o : Oper) (s : St) (K : Eff → Nat → Prop) (_ : Inert K := ⟨()⟩) : Prop := CallTo P o s K
theorem Do_call {f : Operand} {as : Array Operand} {ts : Array TypeId} : Do P Z ⟨d, .call { callee := .value f, args := as, argTypes := ts }, ty, pos, af, g⟩ ⟨n, t, H, m⟩ K = CallI P ⟨d, .call { callee := .value f, args := as, argTypes := ts }, ty, pos, af, g⟩ ⟨n, t, H, m⟩ K := rfl
theorem Do_build {T : TypeId} {ps : Array (Nat × Operand)} : Do P Z ⟨d, .build T ps, ty, pos, af, g⟩ ⟨n, t, H, m⟩ K = DoBuild P Z T (partsAV (St.ev ⟨n, t, H, m⟩) ps.toList) fun v => K ⟨v, [], [], []⟩ m := rfl

def unAV (op : UnOp) (u : AV) : Option AV := match u with
  | .bool b => match op with
    | .not => some (.bool (!b))
    | _ => none
  | .int k n => unI op k n
  | _ => none
theorem unAV_not (b : Bool) : unAV .not (.bool b) = some (.bool (!b)) := rfl
theorem Do_unOp {op : UnOp} {T : TypeId} {x : Operand} : Do P Z ⟨d, .unOp op T x, ty, pos, af, g⟩ ⟨n, t, H, m⟩ K = Got (St.ev ⟨n, t, H, m⟩ x) fun u => Got (unAV op u) fun v => K ⟨v, [], [], []⟩ m := by
  simp only [Do, Got, unAV]
  cases h : St.ev ⟨n, t, H, m⟩ x with
  | none => rfl
  | some u =>
    cases u <;> try rfl
    · cases op <;> rfl
    · rename_i k i
      simp only
      cases unI op k i <;> rfl
theorem Do_nilCheck {x : Operand} : Do P Z ⟨d, .nilCheck x, ty, pos, af, g⟩ ⟨n, t, H, m⟩ K = Got (St.ev ⟨n, t, H, m⟩ x) fun u => match u with
    | .ptr nn off p => K ⟨.ptr nn off p, [], [], []⟩ m
    | _ => False := by
  simp only [Do, Got]
  cases h : St.ev ⟨n, t, H, m⟩ x with
  | none => rfl
  | some u => cases u <;> rfl
def tupAt (u : AV) (j : Nat) : Option AV := match u with
  | .tuple vs => match vs[j]? with
    | some (.tuple _) => none
    | r => r
  | _ => none
theorem tupAt_mk (vs : List AV) (j : Nat) : tupAt (.tuple vs) j = match vs[j]? with
    | some (.tuple _) => none
    | r => r := rfl
theorem Do_extract {x : Operand} {j : Nat} : Do P Z ⟨d, .extract x j, ty, pos, af, g⟩ ⟨n, t, H, m⟩ K = Got (St.ev ⟨n, t, H, m⟩ x) fun u => Got (tupAt u j) fun v => K ⟨v, [], [], []⟩ m := by
  simp only [Do, Got, tupAt]
  cases h : St.ev ⟨n, t, H, m⟩ x with
  | none => rfl
  | some u =>
    cases u <;> try rfl
    rename_i vs
    simp only
    cases vs[j]? with
    | none => rfl
    | some w => cases w <;> simp
def lenAV (P : Program) (T : TypeId) (u : AV) : Option Nat := match u with
  | .str t => match P.underlying T with
    | some .string => some t.size
    | _ => none
  | u => match P.underlying T with
    | some (.slice _) => slLen u
    | some (.array n _) => some n
    | _ => none
def LenAt (P : Program) (T : TypeId) (H : Heap) (m : Nat) (u : AV) (K : Eff → Nat → Prop) : Prop := match u with
  | .mapv nn => match Heap.get H nn with
    | some (.map es) => isMapT P T = true ∧ K ⟨.int .i64 es.length, [nn], [], []⟩ m
    | _ => False
  | .nilmap => isMapT P T = true ∧ K ⟨.int .i64 0, [], [], []⟩ m
  | u => Got (lenAV P T u) fun k => K ⟨.int .i64 k, [], [], []⟩ m
theorem LenAt_str {T : TypeId} {x : ByteArray} : LenAt P T H m (.str x) K = Got (lenAV P T (.str x)) fun k => K ⟨.int .i64 k, [], [], []⟩ m := rfl
theorem LenAt_nilsl {T : TypeId} : LenAt P T H m .nilsl K = Got (lenAV P T .nilsl) fun k => K ⟨.int .i64 k, [], [], []⟩ m := rfl
theorem LenAt_sl {T : TypeId} {a b : Nat} {p : List Nat} {i l c w : Nat} : LenAt P T H m (.sl a b p i l c w) K = Got (lenAV P T (.sl a b p i l c w)) fun k => K ⟨.int .i64 k, [], [], []⟩ m := rfl
theorem LenAt_vsl {T : TypeId} {es : List AV} {l : Nat} : LenAt P T H m (.vsl es l) K = Got (lenAV P T (.vsl es l)) fun k => K ⟨.int .i64 k, [], [], []⟩ m := rfl
theorem LenAt_agg {T : TypeId} {es : List AV} : LenAt P T H m (.agg es) K = Got (lenAV P T (.agg es)) fun k => K ⟨.int .i64 k, [], [], []⟩ m := rfl
theorem LenAt_mapv {T : TypeId} {nn : Nat} {es : List (AV × AV)} (h : Heap.get H nn = some (.map es)) (hT : isMapT P T = true) (hK : K ⟨.int .i64 es.length, [nn], [], []⟩ m) : LenAt P T H m (.mapv nn) K := by
  simp only [LenAt, h]; exact ⟨hT, hK⟩
@[congr] theorem LenAt_congr {T : TypeId} {H' : Heap} {u u' : AV} (h : H = H') (h1 : u = u') : LenAt P T H m u K = LenAt P T H' m u' K := by rw [h, h1]
theorem Do_len {x : Operand} {T : TypeId} : Do P Z ⟨d, .call { callee := .builtin .len, args := #[x], argTypes := #[T] }, ty, pos, af, g⟩ ⟨n, t, H, m⟩ K = Got (St.ev ⟨n, t, H, m⟩ x) fun u => LenAt P T H m u K := by
  simp only [Do, Got, LenAt, lenAV]
  cases h : St.ev ⟨n, t, H, m⟩ x with
  | none => rfl
  | some u =>
    cases u <;> first | rfl | (simp only; cases h1 : P.underlying T with
    | none => simp
    | some D => cases D <;> simp [slLen])
theorem Do_lookup {T : TypeId} {x i : Operand} {c : Bool} : Do P Z ⟨d, .lookup T x i c, ty, pos, af, g⟩ ⟨n, t, H, m⟩ K = DoLookup P Z T (St.ev ⟨n, t, H, m⟩ x) (St.ev ⟨n, t, H, m⟩ i) c ⟨n, t, H, m⟩ K := rfl
theorem Do_mapUpdate {T : TypeId} {x i y : Operand} : Do P Z ⟨d, .mapUpdate T x i y, ty, pos, af, g⟩ ⟨n, t, H, m⟩ K = DoMapUpdate P T (St.ev ⟨n, t, H, m⟩ x) (St.ev ⟨n, t, H, m⟩ i) (St.ev ⟨n, t, H, m⟩ y) ⟨n, t, H, m⟩ K := rfl
theorem Do_makeMap {T : TypeId} : Do P Z ⟨d, .makeMap T none, ty, pos, af, g⟩ ⟨n, t, H, m⟩ K = K ⟨.mapv m, [], [], [(m, .map [])]⟩ (m + 1) := rfl
/-- An operation of which the tape says what comes: left. -/
def StepI (P : Program) (o : Oper) (s : St) (K : Eff → Nat → Prop) (_ : Inert K := ⟨()⟩) : Prop := NStep P o s K
theorem Do_range {T : TypeId} {x : Operand} : Do P Z ⟨d, .range T x, ty, pos, af, g⟩ ⟨n, t, H, m⟩ K = StepI P ⟨d, .range T x, ty, pos, af, g⟩ ⟨n, t, H, m⟩ K := rfl
theorem Do_next {x : Operand} {b : Bool} : Do P Z ⟨d, .next x b, ty, pos, af, g⟩ ⟨n, t, H, m⟩ K = StepI P ⟨d, .next x b, ty, pos, af, g⟩ ⟨n, t, H, m⟩ K := rfl
theorem Do_entry {x : Operand} : Do P Z ⟨d, .entry x, ty, pos, af, g⟩ ⟨n, t, H, m⟩ K = CallI P ⟨d, .entry x, ty, pos, af, g⟩ ⟨n, t, H, m⟩ K := rfl
theorem Do_delete {as : Array Operand} {ts : Array TypeId} : Do P Z ⟨d, .call { callee := .builtin .delete, args := as, argTypes := ts }, ty, pos, af, g⟩ ⟨n, t, H, m⟩ K = CallI P ⟨d, .call { callee := .builtin .delete, args := as, argTypes := ts }, ty, pos, af, g⟩ ⟨n, t, H, m⟩ K := rfl
theorem Do_makeFunc {f : FuncId} {cs : Array Operand} : Do P Z ⟨d, .makeFunc (.func f) #[] cs, ty, pos, af, g⟩ ⟨n, t, H, m⟩ K = Got (evL (St.ev ⟨n, t, H, m⟩) cs.toList) fun us => Need (us.all capOk = true) (K ⟨.func f us, [], [], []⟩ m) := by
  simp only [Do, Got, Need]
  cases evL (St.ev ⟨n, t, H, m⟩) cs.toList <;> rfl
theorem DoLookup_own {T kt et : TypeId} {nn : Nat} {k z v : AV} {es : List (AV × AV)} {b : Bool} {c : Bool} (hT : P.underlying T = some (.map kt et)) (hH : Heap.get H nn = some (.map es)) (hz : Z et = some z) (hK : Maps.Keyed P kt) (hk : IsKey P kt k) (hg : GoodMap P kt es)
    (hv : mval es k z = v) (hb : mhas es k = b) (h : K ⟨if c then .tuple [v, .bool b] else v, [nn], [], []⟩ m) : DoLookup P Z T (some (.mapv nn)) (some k) c ⟨n, t, H, m⟩ K := by
  subst hv hb
  simp only [DoLookup, hT, hH, hz]
  exact ⟨⟨hK, hk, hg⟩, h⟩
theorem DoLookup_nil {T kt et : TypeId} {k z : AV} {c : Bool} (hT : P.underlying T = some (.map kt et)) (hz : Z et = some z) (hK : Maps.Keyed P kt) (hk : IsKey P kt k)
    (h : K ⟨if c then .tuple [z, .bool false] else z, [], [], []⟩ m) : DoLookup P Z T (some .nilmap) (some k) c ⟨n, t, H, m⟩ K := by
  simp only [DoLookup, hT, hz]
  exact ⟨⟨hK, hk⟩, h⟩
theorem DoMapUpdate_own {T kt et : TypeId} {nn : Nat} {k u : AV} {es es' : List (AV × AV)} (hT : P.underlying T = some (.map kt et)) (hH : Heap.get H nn = some (.map es)) (hK : Maps.Keyed P kt) (hk : IsKey P kt k) (hg : GoodMap P kt es) (hu : ∀ vs, u ≠ .tuple vs)
    (he : mput es k u = es') (h : K ⟨.undef, [], [nn], [(nn, .map es')]⟩ m) : DoMapUpdate P T (some (.mapv nn)) (some k) (some u) ⟨n, t, H, m⟩ K := by
  subst he
  simp only [DoMapUpdate, hT, hH]
  exact ⟨⟨hK, hk, hg, hu⟩, h⟩
@[congr] theorem DoLookup_congr {T : TypeId} {x x' i i' : Option AV} {c : Bool} {s s' : St} (h : x = x') (h1 : i = i') (h' : s = s') : DoLookup P Z T x i c s K = DoLookup P Z T x' i' c s' K := by rw [h, h1, h']
@[congr] theorem DoMapUpdate_congr {T : TypeId} {x x' i i' y y' : Option AV} {s s' : St} (h : x = x') (h1 : i = i') (h2 : y = y') (h' : s = s') : DoMapUpdate P T x i y s K = DoMapUpdate P T x' i' y' s' K := by rw [h, h1, h2, h']
def minAV (u v : AV) : Option AV := match u, v with
  | .int k i, .int k' j => if k = k' then some (.int k (if j < i then j else i)) else none
  | _, _ => none
def maxAV (u v : AV) : Option AV := match u, v with
  | .int k i, .int k' j => if k = k' then some (.int k (if i < j then j else i)) else none
  | _, _ => none
theorem minAV_int {k k' : IntKind} {i j : Int} : minAV (.int k i) (.int k' j) = if k = k' then some (.int k (if j < i then j else i)) else none := rfl
theorem maxAV_int {k k' : IntKind} {i j : Int} : maxAV (.int k i) (.int k' j) = if k = k' then some (.int k (if i < j then j else i)) else none := rfl
theorem Do_min {x y : Operand} {ts : Array TypeId} : Do P Z ⟨d, .call { callee := .builtin .min, args := #[x, y], argTypes := ts }, ty, pos, af, g⟩ ⟨n, t, H, m⟩ K = Got (St.ev ⟨n, t, H, m⟩ x) fun u => Got (St.ev ⟨n, t, H, m⟩ y) fun v => Got (minAV u v) fun r => K ⟨r, [], [], []⟩ m := by
  simp only [Do, Got, minAV]
  cases St.ev ⟨n, t, H, m⟩ x with
  | none => rfl
  | some u =>
    cases St.ev ⟨n, t, H, m⟩ y with
    | none => cases u <;> rfl
    | some v =>
      cases u <;> try rfl
      cases v <;> try rfl
      rename_i k i k' j
      simp only
      by_cases h : k = k'
      · subst h; simp
      · simp [h]
theorem Do_max {x y : Operand} {ts : Array TypeId} : Do P Z ⟨d, .call { callee := .builtin .max, args := #[x, y], argTypes := ts }, ty, pos, af, g⟩ ⟨n, t, H, m⟩ K = Got (St.ev ⟨n, t, H, m⟩ x) fun u => Got (St.ev ⟨n, t, H, m⟩ y) fun v => Got (maxAV u v) fun r => K ⟨r, [], [], []⟩ m := by
  simp only [Do, Got, maxAV]
  cases St.ev ⟨n, t, H, m⟩ x with
  | none => rfl
  | some u =>
    cases St.ev ⟨n, t, H, m⟩ y with
    | none => cases u <;> rfl
    | some v =>
      cases u <;> try rfl
      cases v <;> try rfl
      rename_i k i k' j
      simp only
      by_cases h : k = k'
      · subst h; simp
      · simp [h]
/-- The number that a value is. -/
def intAV (o : Option AV) : Option Int := match o with
  | some (.int _ i) => some i
  | _ => none
theorem intAV_int (k : IntKind) (i : Int) : intAV (some (.int k i)) = some i := rfl
/-- Of a slice type: the zero element, its width. -/
def elemS (P : Program) (Z : TypeId → Option AV) (T : TypeId) : Option (AV × Nat) := match P.underlying T with
  | some (.slice E) => (Z E).bind fun z => (szOf P E).bind fun wd => if z.size = wd then some (z, wd) else none
  | _ => none
/-- And its bytes. -/
def elemM (P : Program) (Z : TypeId → Option AV) (T : TypeId) : Option (AV × Nat × Nat) := match P.underlying T with
  | some (.slice E) => (Z E).bind fun z => (szOf P E).bind fun wd => (byOf P E).bind fun b => if z.size = wd then some (z, wd, b) else none
  | _ => none
theorem Do_buildSlice {T : TypeId} {k : Nat} {ps : Array (Nat × Operand)} : Do P Z ⟨d, .buildSlice T k ps, ty, pos, af, g⟩ ⟨n, t, H, m⟩ K = Got (elemS P Z T) fun e => Got (partsAV (St.ev ⟨n, t, H, m⟩) ps.toList) fun us =>
    Need (k * e.2 ≤ 2 ^ 24 ∧ PartsOk (fun i => some (i * e.2, e.2)) (List.replicate k e.1) us ∧ ∀ x, x ∈ us → x.2.layable = true) (K ⟨.sl m 0 [] 0 k k e.2, [], [], [(m, .cells (.agg (setParts (List.replicate k e.1) us)))]⟩ (m + 1)) := by
  simp only [Do, Got, elemS, Need]
  cases P.underlying T with
  | none => rfl
  | some D =>
    cases D <;> try rfl
    rename_i E
    simp only
    cases partsAV (St.ev ⟨n, t, H, m⟩) ps.toList with
    | none =>
      simp only
      cases Z E with
      | none => rfl
      | some z => cases szOf P E with
        | none => rfl
        | some wd => by_cases h : z.size = wd <;> simp [h]
    | some us =>
      simp only
      cases Z E with
      | none => rfl
      | some z => cases szOf P E with
        | none => rfl
        | some wd => by_cases h : z.size = wd <;> simp [h]
theorem Do_makeSlice {T : TypeId} {x y : Operand} : Do P Z ⟨d, .makeSlice T x y, ty, pos, af, g⟩ ⟨n, t, H, m⟩ K = Got (elemM P Z T) fun e => Got (intAV (St.ev ⟨n, t, H, m⟩ x)) fun l => Got (intAV (St.ev ⟨n, t, H, m⟩ y)) fun c =>
    Need (0 ≤ l ∧ l ≤ c ∧ (e.2.2 : Int) * c ≤ 140737488355328 ∧ c ≤ 9223372036854775807) (K ⟨.sl m 0 [] 0 l.toNat c.toNat e.2.1, [], [], [(m, .cells (.agg (List.replicate c.toNat e.1)))]⟩ (m + 1)) := by
  simp only [Do, Got, elemM, Need, intAV]
  cases P.underlying T with
  | none => rfl
  | some D =>
    cases D <;> try rfl
    rename_i E
    simp only
    generalize St.ev ⟨n, t, H, m⟩ x = a
    generalize St.ev ⟨n, t, H, m⟩ y = b
    cases a with
    | none => (generalize ((Z E).bind fun z => (szOf P E).bind fun wd => (byOf P E).bind fun b => if z.size = wd then some (z, wd, b) else none) = A; cases A <;> rfl)
    | some u =>
      cases u <;> try (generalize ((Z E).bind fun z => (szOf P E).bind fun wd => (byOf P E).bind fun b => if z.size = wd then some (z, wd, b) else none) = A; cases A <;> rfl)
      cases b with
      | none => (generalize ((Z E).bind fun z => (szOf P E).bind fun wd => (byOf P E).bind fun b => if z.size = wd then some (z, wd, b) else none) = A; cases A <;> rfl)
      | some v =>
        cases v <;> try (generalize ((Z E).bind fun z => (szOf P E).bind fun wd => (byOf P E).bind fun b => if z.size = wd then some (z, wd, b) else none) = A; cases A <;> rfl)
        simp only
        cases Z E with
        | none => simp only [Option.bind_none]
        | some z => cases szOf P E with
          | none => simp only [Option.bind_none, Option.bind_some]
          | some wd => cases byOf P E with
            | none => simp only [Option.bind_none, Option.bind_some]
            | some b => by_cases h : z.size = wd <;> simp [h]
end
end
section
variable {P : Program} {Z : TypeId → Option AV} {d : Option Tmp} {ty : TypeId} {pos : String} {af : Array Edge} {g : Option (Nat × Bool)} {s : St} {K : Eff → Nat → Prop}
variable {n : Nat} {t : Env} {H : Heap} {m : Nat}
theorem DoBin_int {op : BinOp} {T : TypeId} {k k' : IntKind} {a b : Int} {K : AV → Prop} : DoBin P op T (some (.int k a)) (some (.int k' b)) K = Need (k = k' ∨ shifty op = true) (Got (binI op k a b) K) := by
  simp only [DoBin, Need, Got]
  cases binI op k a b <;> rfl
theorem DoBin_bool {op : BinOp} {T : TypeId} {a b : Bool} {K : AV → Prop} : DoBin P op T (some (.bool a)) (some (.bool b)) K = Got (isEq op) fun ng => Need (P.underlying T = some .bool) (K (.bool (if ng then a != b else a == b))) := by
  simp only [DoBin, Need, Got]
  cases isEq op <;> rfl
theorem DoBin_agg {op : BinOp} {T : TypeId} {a b : List AV} {K : AV → Prop} : DoBin P op T (some (.agg a)) (some (.agg b)) K = Got (isEq op) fun ng => Got (flatKinds P 40 T) fun ks => Got (cellsEq (AV.flatL a) (AV.flatL b)) fun r =>
    Need (P.eqGuardType P.depth T = false ∧ (P.underlying T).map isAggD = some true ∧ (AV.flatL a).map kindOf = ks.map some) (K (.bool (if ng then !r else r))) := by
  simp only [DoBin, Need, Got]
  cases isEq op <;> cases flatKinds P 40 T <;> cases cellsEq (AV.flatL a) (AV.flatL b) <;> rfl
end
section
theorem CallTo.pure {P : Program} {o : Oper} {s : St} {K : Eff → Nat → Prop} {f : FuncId} {as : Array Operand} {ts : Array TypeId} {args : List AV} {v : AV}
    (ho : o.op = .call { callee := .value (.func f), args := as, argTypes := ts }) (hok : fnOk P f = true) (hargs : as.toList.map s.ev = args.map some) (hta : ∀ x, x ∈ args → ∀ vs, x ≠ .tuple vs)
    (hc : ACall P f args [] v []) (hK : K ⟨v, [], [], []⟩ s.nx) : CallTo P o s K :=
  ⟨_, _, ls_call (caps := []) ho rfl hok hargs hta (fun x hx => by simp at hx) (by simpa using hc) (fun n b h => by simp [Heap.get] at h), effOk_val _ _, hK⟩
theorem CallTo.new {P : Program} {o : Oper} {s : St} {K : Eff → Nat → Prop} {f : FuncId} {as : Array Operand} {ts : Array TypeId} {args : List AV} {v : AV} {b : ABlk}
    (ho : o.op = .call { callee := .value (.func f), args := as, argTypes := ts }) (hok : fnOk P f = true) (hargs : as.toList.map s.ev = args.map some) (hta : ∀ x, x ∈ args → ∀ vs, x ≠ .tuple vs)
    (hc : ACall P f args [] v [(s.nx, b)]) (hK : K ⟨v, [], [], [(s.nx, b)]⟩ (s.nx + 1)) : CallTo P o s K :=
  ⟨_, _, ls_call (caps := []) ho rfl hok hargs hta (fun x hx => by simp at hx) (by simpa using hc) (fun n b h => by simp [Heap.get] at h), effOk_new _ _ _, hK⟩
end
end Go.Proofs.Ytipbgaahpchhbaa
/- Zero values; ends of walks; loops. -/
namespace Go.Proofs.Ytipbgaahpchhbaa
open Go Go.RowKit

/-- A zero cell: a nil slice is told as a slice without elements. -/
def zeroAV : Value → Option AV
  | .slice none 0 0 => some (.vsl [] 0)
  | c => constAV c

theorem zeroAV_rel {w : World} {I : Nat → Prop} {ρ : Rho} {x : AV} {c : Value} (h : zeroAV c = some x) : CRel w I ρ x c ∧ x.layable = true := by
  have key : ∀ c x, constAV c = some x → CRel w I ρ x c ∧ x.layable = true := by
    intro c x h
    have h2 := constAV_rel (w := w) (I := I) (ρ := ρ) h
    unfold constAV at h
    split at h <;> simp only [Option.some.injEq, reduceCtorEq] at h <;> subst h <;> exact ⟨h2, rfl⟩
  unfold zeroAV at h
  split at h
  · simp only [Option.some.injEq] at h; subst h; exact ⟨.vsl0 _ _, rfl⟩
  · exact key _ _ h

theorem ZeroIs.agg' {P : Program} {T : TypeId} {vs : List AV} {cs : Array Value} (h : (P.info? T).bind (·.zero) = some (.agg cs)) (hv : (AV.flatL vs).map some = cs.toList.map zeroAV) : ZeroIs P T (.agg vs) := by
  refine ⟨rfl, .agg cs, fun w => ?_, fun w I ρ => ⟨cs, rfl, ?_, fun k hk => ?_⟩⟩
  · cases hi : P.info? T with
    | none => simp [hi] at h
    | some i => simp [hi] at h; simp [zeroValue, typeInfo, hi, h]
  · have := congrArg List.length hv
    simpa using this.symm
  · have hl := congrArg List.length hv
    simp only [List.length_map] at hl
    have h1 : ((AV.flatL vs).map some)[k]? = (cs.toList.map zeroAV)[k]? := by rw [hv]
    have hk' : k < cs.toList.length := by omega
    simp only [List.getElem?_map, List.getElem?_eq_getElem hk, List.getElem?_eq_getElem hk', Option.map_some, Option.some.injEq] at h1
    rw [List.getD_eq_getElem?_getD, List.getD_eq_getElem?_getD, List.getElem?_eq_getElem hk, List.getElem?_eq_getElem hk', Option.getD_some, Option.getD_some]
    exact (zeroAV_rel h1.symm).1

theorem ZeroIs.one' {P : Program} {T : TypeId} {z : AV} {c : Value} (h : (P.info? T).bind (·.zero) = some c) (hz : zeroAV c = some z) : ZeroIs P T z := by
  refine ⟨(zeroAV_rel (w := default) (I := fun _ => False) (ρ := fun _ => none) hz).2, c, fun w => ?_, fun w I ρ => ?_⟩
  · cases hi : P.info? T with
    | none => simp [hi] at h
    | some i => simp [hi] at h; simp [zeroValue, typeInfo, hi, h]
  · have h1 := (zeroAV_rel (w := w) (I := I) (ρ := ρ) hz).1
    cases z <;> first | exact h1 | trivial | (exact absurd (zeroAV_rel (w := w) (I := I) (ρ := ρ) hz).2 (by simp [AV.layable])) | cases h1

/-- A value that names no memory. -/
theorem on_mono {S S' : Nat → Prop} (h : ∀ n, S n → S' n) {x : AV} (hx : AV.on S x) : AV.on S' x := by
  have key : AV.on S x → AV.on S' x := by
    refine AV.rec (motive_1 := fun x => AV.on S x → AV.on S' x) (motive_2 := fun xs => AV.onL S xs → AV.onL S' xs) ?_ ?_ ?_ ?_ ?_ ?_ ?_ ?_ ?_ ?_ ?_ ?_ ?_ ?_ ?_ ?_ ?_ ?_ ?_ ?_ x
    all_goals intros
    all_goals first
      | trivial
      | (apply h; assumption)
      | (rename_i ih hx; exact ih hx)
      | (rename_i ih1 ih2 hx; exact ⟨ih1 hx.1, ih2 hx.2⟩)
  exact key hx

/-- An end of a walk that returns one value and leaves no memory. -/
theorem Final.one {P : Program} {fn : Func} {r : ResultVar} {u v : AV} {e : Exit} {s : St} (he : e = .normal ∨ e = .ret) (hr : fn.results = #[r]) (h : ResOk P s r u) (hu : ∀ vs, u ≠ .tuple vs) (hv : ∀ vs, v ≠ .tuple vs) (hf : Frz (fun _ => False) s.H u v) : Final P fn v [] e s := by
  refine ⟨he, [u], ?_, ?_, fun n b h => by simp [Heap.get] at h⟩
  · rw [hr]; exact ⟨h, trivial⟩
  · have : (fun n => Heap.get [] n ≠ none) = fun _ => False := by funext n; simp [Heap.get]
    rw [this]
    show FrzV _ _ u v
    cases u <;> first | exact absurd rfl (hu _) | (cases v <;> first | exact absurd rfl (hv _) | exact hf)

theorem Final.many {P : Program} {fn : Func} {rs : List ResultVar} {us vs : List AV} {e : Exit} {s : St} (he : e = .normal ∨ e = .ret) (hr : fn.results.toList = rs) (h : All2 (ResOk P s) rs us) (hl : us.length ≠ 1) (hf : All2 (Frz (fun _ => False) s.H) us vs) : Final P fn (.tuple vs) [] e s := by
  refine ⟨he, us, hr ▸ h, ?_, fun n b h => by simp [Heap.get] at h⟩
  have : (fun n => Heap.get [] n ≠ none) = fun _ => False := by funext n; simp [Heap.get]
  rw [this]
  cases us with
  | nil => exact hf
  | cons u us =>
    cases us with
    | nil => simp at hl
    | cons u2 us => exact hf

/-- A contract from a run of the body. -/
theorem ACall.run {P : Program} {Z : TypeId → Option AV} {f : FuncId} {fn : Func} {c : Code} {args : List AV} {v : AV} {put : Heap} (hm : P.follows .mixedOrders = true) (hZ : ∀ T z, Z T = some z → ZeroIs P T z) (hf : P.funcs[f]? = some fn) (hb : fn.body = some c) {N : Nat} (hN : fn.ntmps = N) (hc : codeOk N c = true) (ht : args.length ≤ N)
    (hargs : ∀ x, x ∈ args → AV.on (fun _ => False) x ∧ ∀ vs, x ≠ .tuple vs) (nx : Nat)
    (h : Run P Z c ⟨N, argEnv args 0, [], nx⟩ (Final P fn v put)) : ACall P f args [] v put := by
  subst hN
  exact ACall.intro hf hb ht (fun x hx => ⟨on_mono (fun _ h => h.elim) (hargs x hx).1, (hargs x hx).2⟩) (fun n b h => by simp [Heap.get] at h) nx (fun n h => by simp at h) (fun n h => by simp at h)
    (AWp.mono (Run.sound hm hZ c _ _ hc rfl h) fun e s h => h.1)

/-- A loop. -/
theorem AWp.loopR {P : Program} {Z : TypeId → Option AV} {c : Code} {N : Nat} {s s0 : St} {Q : Exit → St → Prop} (hm : P.follows .mixedOrders = true) (hZ : ∀ T z, Z T = some z → ZeroIs P T z) (hc : codeOk N c = true) (Inv : Nat → St → Prop) {n0 : Nat} (hw : Wk s s0) (h0 : Inv n0 s0)
    (round : ∀ n s, Inv n s → s.n = N ∧ Run P Z c s (fun e s' => match e with
      | .normal => ∃ m s'', m < n ∧ Inv m s'' ∧ Wk s' s''
      | e => Q e s')) (hN : s.n = N) : AWp P (.loop c) s fun e s' => Q e s' ∧ s'.n = N := by
  refine AWp.loop Inv hw h0 fun n s hI => ?_
  obtain ⟨h1, h2⟩ := round n s hI
  refine AWp.mono (Run.sound hm hZ c s _ hc h1 h2) fun e s' h => ?_
  obtain ⟨h3, h4⟩ := h
  cases e with
  | normal => exact h3
  | _ => exact ⟨h3, h4⟩
end Go.Proofs.Ytipbgaahpchhbaa
/- Equations for the operations on rows, texts and types. -/
namespace Go.Proofs.Ytipbgaahpchhbaa
open Go Go.RowKit

/-- How wide a slice's elements are. -/
def elS (P : Program) (T : TypeId) : Option Nat := match P.underlying T with
  | some (.slice E) => szOf P E
  | _ => none
/-- How long an array is and how wide its elements are. -/
def elA (P : Program) (T : TypeId) : Option (Nat × Nat) := match P.underlying T with
  | some (.array n E) => (szOf P E).map fun w => (n, w)
  | _ => none
def isStrT (P : Program) (T : TypeId) : Bool := match P.underlying T with
  | some .string => true
  | _ => false
theorem isStrT_spec {P : Program} {T : TypeId} : (isStrT P T = true) = (P.underlying T = some .string) := by
  unfold isStrT
  cases h : P.underlying T with
  | none => simp
  | some d => cases d <;> simp

section
variable {P : Program} {Z : TypeId → Option AV} {T : TypeId} {K : AV → Prop}

theorem DoIndexAddr_vsl {es : List AV} {len : Nat} {k : IntKind} {q : Int} : DoIndexAddr P T (some (.vsl es len)) (some (.int k q)) K = Got (elS P T) fun wd => Need (0 ≤ q ∧ q < len) (K (.vptr (.agg es) (q.toNat * wd) [q.toNat])) := by
  simp only [DoIndexAddr, elS, Got, Need]
  cases P.underlying T with
  | none => rfl
  | some D =>
    cases D <;> try rfl
    rename_i E
    simp only
    cases szOf P E <;> rfl
theorem DoIndexAddr_sl {nn off : Nat} {p : List Nat} {i len cap wd : Nat} {k : IntKind} {q : Int} : DoIndexAddr P T (some (.sl nn off p i len cap wd)) (some (.int k q)) K = Need (elS P T = some wd ∧ 0 ≤ q ∧ q < len) (K (.ptr nn (off + q.toNat * wd) (p ++ [i + q.toNat]))) := by
  simp only [DoIndexAddr, elS, Need]
  cases P.underlying T with
  | none => simp
  | some D => cases D <;> simp
theorem DoIndexAddr_ptr {nn off : Nat} {p : List Nat} {k : IntKind} {q : Int} : DoIndexAddr P T (some (.ptr nn off p)) (some (.int k q)) K = Got (elA P T) fun e => Need (0 ≤ q ∧ q < e.1) (K (.ptr nn (off + q.toNat * e.2) (p ++ [q.toNat]))) := by
  simp only [DoIndexAddr, elA, Got, Need]
  cases P.underlying T with
  | none => rfl
  | some D =>
    cases D <;> try rfl
    rename_i n E
    simp only
    cases szOf P E <;> rfl
theorem DoIndex_str {t : ByteArray} {k : IntKind} {q : Int} : DoIndex P T (some (.str t)) (some (.int k q)) K = Need (isStrT P T = true ∧ 0 ≤ q ∧ q < t.size) (K (.int .u8 (byteAt t q))) := by
  simp only [DoIndex, Need, isStrT_spec]
theorem DoIndex_agg {vs : List AV} {k : IntKind} {q : Int} : DoIndex P T (some (.agg vs)) (some (.int k q)) K = Got (elA P T) fun e => Got vs[q.toNat]? fun u => Need (0 ≤ q ∧ q < e.1 ∧ q.toNat * e.2 = AV.sizeL (vs.take q.toNat) ∧ ∀ n E, P.underlying T = some (.array n E) → LoadOk P E u) (K u) := by
  simp only [DoIndex, elA, Got, Need]
  cases P.underlying T with
  | none => rfl
  | some D =>
    cases D <;> try rfl
    rename_i n E
    simp only
    cases szOf P E with
    | none => rfl
    | some wd =>
      simp only [Option.map_some]
      cases vs[q.toNat]? with
      | none => rfl
      | some u =>
        simp only [Option.some.injEq, TypeDesc.array.injEq]
        refine propext ⟨fun h => ⟨⟨h.1.1, h.1.2.1, h.1.2.2.1, fun n' E' he => ?_⟩, h.2⟩, fun h => ⟨⟨h.1.1, h.1.2.1, h.1.2.2.1, h.1.2.2.2 _ _ ⟨rfl, rfl⟩⟩, h.2⟩⟩
        rw [← he.2]; exact h.1.2.2.2

section
variable {n : Nat} {t : Env} {H : Heap} {m : Nat} {K : Eff → Nat → Prop}
theorem DoSlice_str {x : ByteArray} {lo hi : Option Operand} : DoSlice P T (some (.str x)) lo hi ⟨n, t, H, m⟩ K = Got (bndAV (St.ev ⟨n, t, H, m⟩) lo 0) fun l => Got (bndAV (St.ev ⟨n, t, H, m⟩) hi x.size) fun h =>
    Need (isStrT P T = true ∧ 0 ≤ l ∧ l ≤ h ∧ h ≤ x.size) (K ⟨.str (x.extract l.toNat h.toNat), [], [], []⟩ m) := by
  simp only [DoSlice, Got, Need, isStrT_spec]
  cases bndAV (St.ev ⟨n, t, H, m⟩) lo 0 <;> cases bndAV (St.ev ⟨n, t, H, m⟩) hi x.size <;> rfl
theorem DoSlice_vsl {es : List AV} {len : Nat} {lo hi : Option Operand} : DoSlice P T (some (.vsl es len)) lo hi ⟨n, t, H, m⟩ K = Got (bndAV (St.ev ⟨n, t, H, m⟩) lo 0) fun l => Got (bndAV (St.ev ⟨n, t, H, m⟩) hi len) fun h => Got (elS P T) fun wd =>
    Need (Unif wd es ∧ 0 ≤ l ∧ l ≤ h ∧ h ≤ es.length) (K ⟨.vsl (es.drop l.toNat) (h.toNat - l.toNat), [], [], []⟩ m) := by
  simp only [DoSlice, Got, Need, elS]
  cases bndAV (St.ev ⟨n, t, H, m⟩) lo 0 <;> cases bndAV (St.ev ⟨n, t, H, m⟩) hi len <;> try rfl
  cases P.underlying T with
  | none => rfl
  | some D =>
    cases D <;> try rfl
    rename_i E
    simp only
    cases szOf P E <;> rfl
theorem DoSlice_sl {nn off : Nat} {p : List Nat} {i len cap wd : Nat} {lo hi : Option Operand} : DoSlice P T (some (.sl nn off p i len cap wd)) lo hi ⟨n, t, H, m⟩ K = Got (bndAV (St.ev ⟨n, t, H, m⟩) lo 0) fun l => Got (bndAV (St.ev ⟨n, t, H, m⟩) hi len) fun h =>
    Need (elS P T = some wd ∧ 0 ≤ l ∧ l ≤ h ∧ h ≤ cap) (K ⟨.sl nn (off + l.toNat * wd) p (i + l.toNat) (h.toNat - l.toNat) (cap - l.toNat) wd, [], [], []⟩ m) := by
  simp only [DoSlice, Got, Need, elS]
  cases bndAV (St.ev ⟨n, t, H, m⟩) lo 0 <;> cases bndAV (St.ev ⟨n, t, H, m⟩) hi len <;> try rfl
  cases P.underlying T with
  | none => simp
  | some D => cases D <;> simp

/-- A base that is appended to. -/
def BaseAt (H : Heap) (wd : Nat) (by_ : Nat) (u : AV) (xs : List AV) (rd : List Nat) (m : Nat) (K : Eff → Nat → Prop) : Prop := match u with
  | .nilsl => Need (xs.length * by_ ≤ 140737488355328 ∧ xs.length ≤ 9223372036854775807) (Branch (xs.length == 0) (K ⟨.nilsl, rd, [], []⟩ m) (K ⟨.sl m 0 [] 0 xs.length xs.length wd, rd, [], [(m, .cells (.agg xs))]⟩ (m + 1)))
  | .sl n off p i len cap wd' => match p with
    | [] => GotC (Heap.get H n) fun r => match r with
      | .agg es => Need (wd' = wd ∧ off = i * wd ∧ i + len ≤ es.length ∧ Unif wd es ∧ n ∉ rd ∧ n ≠ m ∧ (len + xs.length) * by_ ≤ 140737488355328 ∧ len + xs.length ≤ 9223372036854775807)
            (K ⟨.sl m 0 [] 0 (len + xs.length) (len + xs.length) wd, rd, [n], [(m, .cells (.agg ((es.drop i).take len ++ xs)))]⟩ (m + 1))
      | _ => False
    | _ => False
  | _ => False
@[congr] theorem BaseAt_congr {H H' : Heap} {wd by_ : Nat} {u u' : AV} {xs xs' : List AV} {rd : List Nat} {m : Nat} {K : Eff → Nat → Prop} (h : H = H') (h1 : u = u') (h2 : xs = xs') : BaseAt H wd by_ u xs rd m K = BaseAt H' wd by_ u' xs' rd m K := by rw [h, h1, h2]
theorem BaseAt_nil {wd by_ : Nat} {xs : List AV} {rd : List Nat} : BaseAt H wd by_ .nilsl xs rd m K = Need (xs.length * by_ ≤ 140737488355328 ∧ xs.length ≤ 9223372036854775807) (Branch (xs.length == 0) (K ⟨.nilsl, rd, [], []⟩ m) (K ⟨.sl m 0 [] 0 xs.length xs.length wd, rd, [], [(m, .cells (.agg xs))]⟩ (m + 1))) := rfl
/-- The same, of what is read there. -/
def BaseSl (wd by_ nn off i len wd' : Nat) (r : AV) (xs : List AV) (rd : List Nat) (m : Nat) (K : Eff → Nat → Prop) : Prop := match r with
  | .agg es => Need (wd' = wd ∧ off = i * wd ∧ i + len ≤ es.length ∧ Unif wd es ∧ nn ∉ rd ∧ nn ≠ m ∧ (len + xs.length) * by_ ≤ 140737488355328 ∧ len + xs.length ≤ 9223372036854775807)
            (K ⟨.sl m 0 [] 0 (len + xs.length) (len + xs.length) wd, rd, [nn], [(m, .cells (.agg ((es.drop i).take len ++ xs)))]⟩ (m + 1))
  | _ => False
theorem BaseSl_agg {wd by_ nn off i len wd' : Nat} {es : List AV} {xs : List AV} {rd : List Nat} : BaseSl wd by_ nn off i len wd' (.agg es) xs rd m K = Need (wd' = wd ∧ off = i * wd ∧ i + len ≤ es.length ∧ Unif wd es ∧ nn ∉ rd ∧ nn ≠ m ∧ (len + xs.length) * by_ ≤ 140737488355328 ∧ len + xs.length ≤ 9223372036854775807)
            (K ⟨.sl m 0 [] 0 (len + xs.length) (len + xs.length) wd, rd, [nn], [(m, .cells (.agg ((es.drop i).take len ++ xs)))]⟩ (m + 1)) := rfl
theorem BaseAt_sl {wd by_ nn off i len cap wd' : Nat} {xs : List AV} {rd : List Nat} : BaseAt H wd by_ (.sl nn off [] i len cap wd') xs rd m K = GotC (Heap.get H nn) fun r => BaseSl wd by_ nn off i len wd' r xs rd m K := rfl

/-- What a slice hands out. -/
def SrcAt (H : Heap) (wd : Nat) (u : AV) (K : List Nat → List AV → Prop) : Prop := Src (Heap.get H) wd u K
@[congr] theorem SrcAt_congr {H H' : Heap} {wd : Nat} {u u' : AV} {K : List Nat → List AV → Prop} (h : H = H') (h1 : u = u') : SrcAt H wd u K = SrcAt H' wd u' K := by rw [h, h1]
theorem SrcAt_nil {wd : Nat} {K : List Nat → List AV → Prop} : SrcAt H wd .nilsl K = K [] [] := rfl
theorem SrcAt_vsl {wd : Nat} {es : List AV} {len : Nat} {K : List Nat → List AV → Prop} : SrcAt H wd (.vsl es len) K = Need (len ≤ es.length ∧ Unif wd es) (K [] (es.take len)) := rfl
theorem SrcAt_str {wd : Nat} {x : ByteArray} {K : List Nat → List AV → Prop} : SrcAt H wd (.str x) K = Need (wd = 1) (K [] (x.data.toList.map byteAV)) := rfl
theorem SrcAt_sl {wd nn off i len cap wd' : Nat} {p : List Nat} {K : List Nat → List AV → Prop} : SrcAt H wd (.sl nn off p i len cap wd') K = GotC (Heap.get H nn) fun root => Got (root.proj p) fun r => match r with
    | .agg es => Need (wd' = wd ∧ off = root.offOf p + i * wd ∧ i + len ≤ es.length ∧ Unif wd es) (K [nn] ((es.drop i).take len))
    | _ => False := by
  simp only [SrcAt, Src, GotC, Got, Need]
  cases Heap.get H nn with
  | none => rfl
  | some b =>
    cases b <;> try rfl
    rename_i root
    simp only
    cases root.proj p with
    | none => rfl
    | some r => cases r <;> rfl

def isSlStr : TypeDesc → Bool
  | .slice _ => true
  | .string => true
  | _ => false
/-- Of append's types: the element's width, bytes; and that the second is a slice or a text. -/
def apT (P : Program) (Z : TypeId → Option AV) (T1 T2 : TypeId) : Option (Nat × Nat) := match P.underlying T1, P.underlying T2 with
  | some (.slice E), some d => (szOf P E).bind fun wd => (byOf P E).bind fun b => (Z E).bind fun z => if z.size = wd ∧ isSlStr d = true then some (wd, b) else none
  | _, _ => none
theorem DoAppend_of {T1 T2 : TypeId} {x y : Option AV} {u w : AV} (hx : x = some u) (hy : y = some w) {e : Nat × Nat} (he : apT P Z T1 T2 = some e) (h : SrcAt H e.1 w fun rd xs => BaseAt H e.1 e.2 u xs rd m K) : DoAppend P Z T1 T2 x y ⟨n, t, H, m⟩ K := by
  subst hx hy
  unfold apT at he
  split at he
  · rename_i E D h1 h2
    cases hs : szOf P E with
    | none => simp [hs] at he
    | some wd => cases hb : byOf P E with
      | none => simp [hs, hb] at he
      | some b => cases hz : Z E with
        | none => simp [hs, hb, hz] at he
        | some z =>
          simp only [hs, hb, hz, Option.bind_some] at he
          split at he
          · rename_i hc
            simp only [Option.some.injEq] at he
            subst he
            unfold DoAppend
            simp only [h1, hs, hb, hz, h2]
            refine ⟨⟨hc.1, ?_⟩, ?_⟩
            · have := hc.2
              cases D <;> first | trivial | (simp [isSlStr] at this)
            · have hmono : ∀ (K1 K2 : List Nat → List AV → Prop), (∀ a b, K1 a b → K2 a b) → Src (Heap.get H) wd w K1 → Src (Heap.get H) wd w K2 := by
                intro K1 K2 hK hs
                unfold Src at hs ⊢
                split at hs
                · exact hK _ _ hs
                · exact ⟨hs.1, hK _ _ hs.2⟩
                · split at hs
                  · split at hs
                    · exact ⟨hs.1, hK _ _ hs.2⟩
                    · exact hs.elim
                  · exact hs.elim
                · exact ⟨hs.1, hK _ _ hs.2⟩
                · exact hs.elim
              refine hmono _ _ ?_ h
              intro rd xs hb
              cases u <;> try exact hb.elim
              · refine ⟨hb.1, ?_⟩
                by_cases h0 : xs.length = 0
                · rw [if_pos h0]; exact hb.2.1 (by simp [h0])
                · rw [if_neg h0]; exact hb.2.2 (by simp [h0])
              · rename_i nn off p i len cap wd'
                cases p with
                | cons _ _ => exact hb.elim
                | nil =>
                  simp only [BaseAt, GotC] at hb ⊢
                  split at hb
                  · rename_i r hr
                    cases r <;> try exact hb.elim
                    simp only [hr]
                    exact hb
                  · exact hb.elim
          · simp at he
  · simp at he
end

/-- A struct type's zero parts. -/
def bldZ (P : Program) (Z : TypeId → Option AV) (T : TypeId) : Option (List AV) := match P.underlying T, Z T with
  | some (.struct fs), some (.agg zs) => if fs.toList.all (fun f => (szOf P f.type).isSome) then some zs else none
  | some (.array n E), some (.agg zs) => if (szOf P E).isSome then some zs else none
  | _, _ => none
def placeAt (P : Program) (T : TypeId) (i : Nat) : Option (Nat × Nat) := match P.underlying T with
  | some (.struct fs) => fieldPlaces P fs i
  | some (.array n E) => (szOf P E).map fun sz => (i * sz, sz)
  | _ => none
theorem DoBuild_of {us : Option (List (Nat × AV))} : DoBuild P Z T us K = Got (bldZ P Z T) fun zs => Got us fun us => Need (PartsOk (placeAt P T) zs us ∧ ∀ x, x ∈ us → x.2.layable = true) (K (.agg (setParts zs us))) := by
  unfold DoBuild bldZ
  cases h1 : P.underlying T with
  | none => rfl
  | some D =>
    cases D <;> try rfl
    · rename_i n E
      cases Z T with
      | none => rfl
      | some z =>
        cases z <;> try rfl
        rename_i zs
        simp only
        cases hE : szOf P E with
        | none => cases us <;> simp [Got, hE]
        | some sz =>
          have hp : placeAt P T = fun i => some (i * sz, sz) := by funext i; simp [placeAt, h1, hE]
          cases us with
          | none => rfl
          | some us => simp only [Got, Need, hp, hE, Option.isSome_some, if_true]
    · rename_i fs
      cases Z T with
      | none => rfl
      | some z =>
        cases z <;> try rfl
        rename_i zs
        simp only
        have hp : placeAt P T = fieldPlaces P fs := by funext i; simp [placeAt, h1]
        by_cases hall : fs.toList.all (fun f => (szOf P f.type).isSome) = true
        · rw [if_pos hall]
          have h2 : ∀ f, f ∈ fs.toList → (szOf P f.type).isSome = true := fun f hf => List.all_eq_true.1 hall f hf
          cases us with
          | none => rfl
          | some us => simp only [Got, Need, hp]; exact propext ⟨fun h => ⟨⟨h.1.2.1, h.1.2.2⟩, h.2⟩, fun h => ⟨⟨h2, h.1.1, h.1.2⟩, h.2⟩⟩
        · rw [if_neg hall]
          cases us with
          | none => rfl
          | some us =>
            simp only [Got]
            refine propext ⟨fun h => hall (List.all_eq_true.2 fun f hf => h.1.1 f hf), fun h => h.elim⟩
theorem PartsOk_nil {pl : Nat → Option (Nat × Nat)} {vs : List AV} : PartsOk pl vs [] = True := rfl
theorem PartsOk_cons {pl : Nat → Option (Nat × Nat)} {vs : List AV} {i : Nat} {u : AV} {r : List (Nat × AV)} : PartsOk pl vs ((i, u) :: r) = (u.layable = true ∧ (∃ old, vs[i]? = some old ∧ u.size = old.size ∧ pl i = some (AV.sizeL (vs.take i), u.size)) ∧ PartsOk pl (vs.set i u) r) := rfl
theorem setParts_nil {vs : List AV} : setParts vs [] = vs := rfl
theorem setParts_cons {vs : List AV} {i : Nat} {u : AV} {r : List (Nat × AV)} : setParts vs ((i, u) :: r) = setParts (vs.set i u) r := rfl
def isAggT (P : Program) (T : TypeId) : Option Bool := (P.underlying T).map isAggD
theorem isAggT_ex {b : Bool} : (∃ d, P.underlying T = some d ∧ isAggD d = b) = (isAggT P T = some b) := by
  unfold isAggT
  cases P.underlying T with
  | none => simp
  | some d => simp
theorem LoadOk_agg {vs : List AV} : LoadOk P T (.agg vs) = (isAggT P T = some true ∧ szOf P T = some (AV.sizeL vs)) := by simp only [LoadOk, isAggT_ex]
theorem LoadOk_int {k : IntKind} {i : Int} : LoadOk P T (.int k i) = (isAggT P T = some false) := by simp only [LoadOk, isAggT_ex]
theorem LoadOk_bool {b : Bool} : LoadOk P T (.bool b) = (isAggT P T = some false) := by simp only [LoadOk, isAggT_ex]
theorem LoadOk_str {b : ByteArray} : LoadOk P T (.str b) = (isAggT P T = some false) := by simp only [LoadOk, isAggT_ex]
theorem LoadOk_vsl {es : List AV} {l : Nat} : LoadOk P T (.vsl es l) = (isAggT P T = some false) := by simp only [LoadOk, isAggT_ex]
theorem LoadOk_nilsl : LoadOk P T .nilsl = (isAggT P T = some false) := by simp only [LoadOk, isAggT_ex]
theorem LoadOk_sl {nn off : Nat} {p : List Nat} {i len cap wd : Nat} : LoadOk P T (.sl nn off p i len cap wd) = (isAggT P T = some false) := by simp only [LoadOk, isAggT_ex]
theorem LoadOk_ptr {nn off : Nat} {p : List Nat} : LoadOk P T (.ptr nn off p) = (isAggT P T = some false) := by simp only [LoadOk, isAggT_ex]
theorem LoadOk_nilptr : LoadOk P T .nilptr = (isAggT P T = some false) := by simp only [LoadOk, isAggT_ex]
theorem LoadOk_mapv {n : Nat} : LoadOk P T (.mapv n) = (isAggT P T = some false) := by simp only [LoadOk, isAggT_ex]
theorem LoadOk_nilmap : LoadOk P T .nilmap = (isAggT P T = some false) := by simp only [LoadOk, isAggT_ex]
theorem LoadOk_func {f : Nat} {cs : List AV} : LoadOk P T (.func f cs) = (isAggT P T = some false) := by simp only [LoadOk, isAggT_ex]
theorem lenAV_str {t : ByteArray} : lenAV P T (.str t) = if isStrT P T = true then some t.size else none := by
  unfold lenAV isStrT
  cases P.underlying T with
  | none => simp
  | some d => cases d <;> simp
theorem lenAV_vsl {es : List AV} {l : Nat} : lenAV P T (.vsl es l) = match P.underlying T with
  | some (.slice _) => some l
  | some (.array n _) => some n
  | _ => none := rfl
theorem lenAV_sl {nn off : Nat} {p : List Nat} {i len cap wd : Nat} : lenAV P T (.sl nn off p i len cap wd) = match P.underlying T with
  | some (.slice _) => some len
  | some (.array n _) => some n
  | _ => none := rfl
theorem lenAV_nilsl : lenAV P T .nilsl = match P.underlying T with
  | some (.slice _) => some 0
  | some (.array n _) => some n
  | _ => none := rfl
end
theorem binI_add {k : IntKind} {a b : Int} : binI .add k a b = some (.int k (k.wrap (a + b))) := rfl
theorem binI_sub {k : IntKind} {a b : Int} : binI .sub k a b = some (.int k (k.wrap (a - b))) := rfl
theorem binI_mul {k : IntKind} {a b : Int} : binI .mul k a b = some (.int k (k.wrap (a * b))) := rfl
theorem binI_eql {k : IntKind} {a b : Int} : binI .eql k a b = some (.bool (a == b)) := rfl
theorem binI_neq {k : IntKind} {a b : Int} : binI .neq k a b = some (.bool (a != b)) := rfl
theorem binI_lss {k : IntKind} {a b : Int} : binI .lss k a b = some (.bool (decide (a < b))) := rfl
theorem binI_leq {k : IntKind} {a b : Int} : binI .leq k a b = some (.bool (decide (a ≤ b))) := rfl
theorem binI_gtr {k : IntKind} {a b : Int} : binI .gtr k a b = some (.bool (decide (b < a))) := rfl
theorem binI_geq {k : IntKind} {a b : Int} : binI .geq k a b = some (.bool (decide (b ≤ a))) := rfl
end Go.Proofs.Ytipbgaahpchhbaa
/- Loops' states, and small facts. -/
namespace Go.Proofs.Ytipbgaahpchhbaa
open Go Go.RowKit

/-- What a state tells is told by another one. -/
def SubT : Env → Env → Prop
  | [], _ => True
  | (d, v) :: r, t => look t d = some v ∧ SubT r t
def SubH : Heap → Heap → Prop
  | [], _ => True
  | (d, v) :: r, t => Heap.get t d = some v ∧ SubH r t
theorem SubT.spec : ∀ {t0 t : Env}, SubT t0 t → ∀ d v, look t0 d = some v → look t d = some v
  | [], t, _, d, v, h => by simp [look] at h
  | (m, u) :: r, t, hs, d, v, h => by
    simp only [look] at h
    by_cases hd : d = m
    · subst hd; simp only [if_true, Option.some.injEq] at h; subst h; exact hs.1
    · rw [if_neg hd] at h; exact SubT.spec hs.2 d v h
theorem SubH.spec : ∀ {t0 t : Heap}, SubH t0 t → ∀ d v, Heap.get t0 d = some v → Heap.get t d = some v
  | [], t, _, d, v, h => by simp [Heap.get] at h
  | (m, u) :: r, t, hs, d, v, h => by
    simp only [Heap.get] at h
    by_cases hd : d = m
    · subst hd; simp only [if_true, Option.some.injEq] at h; subst h; exact hs.1
    · rw [if_neg hd] at h; exact SubH.spec hs.2 d v h
theorem SubT_nil {t : Env} : SubT [] t = True := rfl
theorem SubT_cons {d : Nat} {v : AV} {r t : Env} : SubT ((d, v) :: r) t = (look t d = some v ∧ SubT r t) := rfl
theorem SubH_nil {t : Heap} : SubH [] t = True := rfl
theorem SubH_cons {d : Nat} {v : ABlk} {r t : Heap} : SubH ((d, v) :: r) t = (Heap.get t d = some v ∧ SubH r t) := rfl
theorem Wk.sub {n : Nat} {t t0 : Env} {H H0 : Heap} {m m0 : Nat} (h : SubT t0 t ∧ SubH H0 H ∧ m ≤ m0) : Wk ⟨n, t, H, m⟩ ⟨n, t0, H0, m0⟩ :=
  Wk.mk h.1.spec h.2.1.spec h.2.2 rfl

theorem Unif.sizeL_take {wd : Nat} {es : List AV} (h : Unif wd es) {k : Nat} (hk : k ≤ es.length) : AV.sizeL (es.take k) = k * wd := by
  rw [(h.take k).sizeL, List.length_take, Nat.min_eq_left hk]

theorem list_get {α : Type} {xs : List α} {i : Nat} (h : i < xs.length) : ∃ x, xs[i]? = some x := ⟨_, List.getElem?_eq_getElem h⟩
theorem take_succ {α : Type} {xs : List α} {i : Nat} {x : α} (h : xs[i]? = some x) : xs.take (i + 1) = xs.take i ++ [x] := by
  rw [List.take_add_one, h]; rfl
theorem DoBin_agg' {P : Program} {op : BinOp} {T : TypeId} {a b : List AV} {K : AV → Prop} : DoBin P op T (some (.agg a)) (some (.agg b)) K = Got (isEq op) fun ng => Got (flatKinds P 40 T) fun ks => Got (cellsEq (AV.flatL a) (AV.flatL b)) fun r =>
    Need (P.eqGuardType P.depth T = false ∧ isAggT P T = some true ∧ (AV.flatL a).map kindOf = ks.map some) (K (.bool (if ng then !r else r))) := DoBin_agg
theorem isEq_eql : isEq .eql = some false := rfl
theorem isEq_neq : isEq .neq = some true := rfl
theorem cellsEq_nil : cellsEq [] [] = some true := rfl
theorem cellsEq_cons {x y : AV} {xs ys : List AV} {a b : Bool} (h1 : scEq x y = some a) (h2 : cellsEq xs ys = some b) : cellsEq (x :: xs) (y :: ys) = some (a && b) := by
  simp [cellsEq, h1, h2]
theorem all2_nil {α β : Type} {R : α → β → Prop} : All2 R [] [] = True := rfl
theorem strEq_iff {s t : ByteArray} : strEq s t = true ↔ s = t := by
  simp only [strEq, beq_iff_eq]
  constructor
  · intro h
    rw [Go.ByteArray.toList_eq, Go.ByteArray.toList_eq] at h
    cases s; cases t
    simp only [ByteArray.mk.injEq]
    exact Array.ext' h
  · rintro rfl; rfl
@[congr] theorem DoBin_congr {P : Program} {op : BinOp} {T : TypeId} {x x' y y' : Option AV} {K : AV → Prop} (h : x = x') (h' : y = y') : DoBin P op T x y K = DoBin P op T x' y' K := by rw [h, h']
@[congr] theorem DoIndexAddr_congr {P : Program} {T : TypeId} {x x' y y' : Option AV} {K : AV → Prop} (h : x = x') (h' : y = y') : DoIndexAddr P T x y K = DoIndexAddr P T x' y' K := by rw [h, h']
@[congr] theorem DoIndex_congr {P : Program} {T : TypeId} {x x' y y' : Option AV} {K : AV → Prop} (h : x = x') (h' : y = y') : DoIndex P T x y K = DoIndex P T x' y' K := by rw [h, h']
@[congr] theorem DoSlice_congr {P : Program} {T : TypeId} {x x' : Option AV} {lo hi : Option Operand} {s s' : St} {K : Eff → Nat → Prop} (h : x = x') (h' : s = s') : DoSlice P T x lo hi s K = DoSlice P T x' lo hi s' K := by rw [h, h']
@[congr] theorem DoConvert_congr {P : Program} {S D : TypeId} {x x' : Option AV} {s s' : St} {K : Eff → Nat → Prop} (h : x = x') (h' : s = s') : DoConvert P S D x s K = DoConvert P S D x' s' K := by rw [h, h']
@[congr] theorem DoAppend_congr {P : Program} {Z : TypeId → Option AV} {S D : TypeId} {x x' y y' : Option AV} {s s' : St} {K : Eff → Nat → Prop} (h : x = x') (h1 : y = y') (h' : s = s') : DoAppend P Z S D x y s K = DoAppend P Z S D x' y' s' K := by rw [h, h1, h']
@[congr] theorem DoCopy_congr {P : Program} {S : TypeId} {x x' y y' : Option AV} {s s' : St} {K : Eff → Nat → Prop} (h : x = x') (h1 : y = y') (h' : s = s') : DoCopy P S x y s K = DoCopy P S x' y' s' K := by rw [h, h1, h']
@[congr] theorem DoBuild_congr {P : Program} {Z : TypeId → Option AV} {T : TypeId} {us us' : Option (List (Nat × AV))} {K : AV → Prop} (h : us = us') : DoBuild P Z T us K = DoBuild P Z T us' K := by rw [h]
@[congr] theorem FieldAt_congr' {P : Program} {S : TypeId} {j : Nat} {x x' : AV} {K : AV → Prop} (h : x = x') : FieldAt P S j x K = FieldAt P S j x' K := by rw [h]
@[congr] theorem BaseSl_congr {wd by_ nn off i len wd' : Nat} {r r' : AV} {xs xs' : List AV} {rd : List Nat} {m : Nat} {K : Eff → Nat → Prop} (h : r = r') (h1 : xs = xs') : BaseSl wd by_ nn off i len wd' r xs rd m K = BaseSl wd by_ nn off i len wd' r' xs' rd m K := by rw [h, h1]
theorem CallTo.newAt {P : Program} {o : Oper} {s : St} {K : Eff → Nat → Prop} {f : FuncId} {as : Array Operand} {ts : Array TypeId} {args : List AV} {v : AV} {b : ABlk} (k : Nat)
    (ho : o.op = .call { callee := .value (.func f), args := as, argTypes := ts }) (hok : fnOk P f = true) (hargs : as.toList.map s.ev = args.map some) (hta : ∀ x, x ∈ args → ∀ vs, x ≠ .tuple vs) (hk : s.nx ≤ k)
    (hc : ACall P f args [] v [(k, b)]) (hK : K ⟨v, [], [], [(k, b)]⟩ (k + 1)) : CallTo P o s K := by
  refine ⟨_, k + 1, ls_call (caps := []) ho rfl hok hargs hta (fun x hx => by simp at hx) (by simpa using hc) (fun n b h => by simp [Heap.get] at h), ⟨by omega, fun n x hn _ => ?_, fun n hn => by simp at hn⟩, by simpa using hK⟩
  simp only [Heap.get] at hn
  by_cases h : n = k
  · subst h; omega
  · simp [h] at hn
/-- An end of a walk that returns one value and hands one block on. -/
theorem Final.oneNew {P : Program} {fn : Func} {r : ResultVar} {u : AV} {e : Exit} {s : St} {k : Nat} {x : AV} (he : e = .normal ∨ e = .ret) (hr : fn.results = #[r]) (h : ResOk P s r u) (hu : ∀ vs, u ≠ .tuple vs) (hk : Heap.get s.H k = some (.cells x)) (hon : AV.on (fun n => n = k) u) (hox : AV.on (fun n => n = k) x) :
    Final P fn u [(k, .cells x)] e s := by
  have hK : ∀ n, n = k → Heap.get [(k, ABlk.cells x)] n ≠ none := fun n hn => by subst hn; simp [Heap.get]
  refine ⟨he, [u], ?_, ?_, fun n b hb => ?_⟩
  · rw [hr]; exact ⟨h, trivial⟩
  · show FrzV _ _ u u
    have hf : Frz (fun n => Heap.get [(k, ABlk.cells x)] n ≠ none) s.H u u := .same _ (on_mono hK hon)
    cases u <;> first | exact absurd rfl (hu _) | exact hf
  · simp only [Heap.get] at hb
    by_cases h1 : n = k
    · subst h1
      simp only [if_true, Option.some.injEq] at hb
      subst hb
      exact ⟨_, hk, .same _ (on_mono hK hox)⟩
    · simp [h1] at hb
def intT (P : Program) (T : TypeId) : Option IntKind := match P.underlying T with
  | some (.int k) => some k
  | _ => none
theorem DoConvert_int {P : Program} {S D : TypeId} {k : IntKind} {i : Int} {n : Nat} {t : Env} {H : Heap} {m : Nat} {K : Eff → Nat → Prop} : DoConvert P S D (some (.int k i)) ⟨n, t, H, m⟩ K = Got (intT P D) fun k' => Got (P.underlying S) fun _ => K ⟨.int k' (k'.wrap i), [], [], []⟩ m := by
  simp only [DoConvert, Got, intT]
  cases P.underlying S with
  | none => cases P.underlying D with
    | none => rfl
    | some D => cases D <;> rfl
  | some S => cases P.underlying D with
    | none => rfl
    | some D => cases D <;> rfl
end Go.Proofs.Ytipbgaahpchhbaa
/- Memory that is lent to a callee that wants data only; more equations of the evaluator. -/
namespace Go.Proofs.Ytipbgaahpchhbaa
open Go Go.RowKit

/-- A callee that wants data only is lent memory of the caller's own: what is not told on is immutable from then on. -/
theorem ACall.lend {P : Program} {f : FuncId} {args args' : List AV} {v : AV} {H put : Heap} (hc : ACall P f args [] v [])
    (hargs : All2 (Frz (fun n => Heap.get put n ≠ none) H) args' args)
    (hput : ∀ n b, Heap.get put n = some b → ∃ b0, Heap.get H n = some b0 ∧ BFrz (fun n => Heap.get put n ≠ none) H b0 b) : ACall P f args' H v put := by
  intro w I ρ cargs hsz hrel hbl hinj himm hfr
  let K : Nat → Prop := fun n => Heap.get put n ≠ none
  let I1 : Nat → Prop := fun b => I b ∨ ∃ n blk o r, Heap.get H n = some blk ∧ ¬ K n ∧ ρ n = some (b, o, r)
  have hI : ∀ b, I b → I1 b := fun b h => .inl h
  have hfz : ∀ n blk b o r, Heap.get H n = some blk → ¬ K n → ρ n = some (b, o, r) → I1 b := fun n blk b o r h1 h2 h3 => .inr ⟨n, blk, o, r, h1, h2, h3⟩
  have hlen := All2.length hargs
  have hrel1 : ∀ k, k < args.length → XRel w I1 ρ (args.getD k .undef) (cargs.getD k Go.undef) := fun k hk =>
    Frz.rel hI (fun _ _ _ h => h) hbl hfz (All2.get .undef .undef hargs k (by omega)) (hrel k (by omega))
  have himm1 : Imm (OwnW ρ (([] : Heap).map (·.1))) w I1 := fun b hb => ⟨by
    rcases hb with hb | ⟨n, blk, o, r, h1, h2, h3⟩
    · exact (himm b hb).1
    · exact (hbl n blk h1).lt h3, fun ⟨n, hn, _⟩ => by simp at hn⟩
  have hcall := hc w I1 ρ cargs (by omega) hrel1 (fun n b h => by simp [Heap.get] at h) (fun n m x y _ h => by simp [Heap.get] at h) himm1 (fun n x h => by simp [Heap.get] at h)
  refine Calls.mono hcall ?_
  rintro e w' ⟨c, I', ρ', rfl, hp⟩
  have hkeep : ∀ b, b < w.heap.size → w'.heap[b]? = w.heap[b]? := fun b hb => hp.ext.keep b hb (fun ⟨n, hn, _⟩ => by simp at hn)
  have hnI : ∀ n b0 b o r, K n → Heap.get H n = some b0 → ρ n = some (b, o, r) → ¬ I b → ¬ I' b := by
    intro n b0 b o r hk hn hr hnb hb
    rcases hp.ext.new b hb with (h | ⟨n', blk, o', r', h1, h2, h3⟩) | ⟨m, hm, _⟩ | h
    · exact hnb h
    · exact hinj n n' b0 blk (fun h => by subst h; exact h2 hk) hn h1 b o r b o' r' hr h3 rfl
    · simp at hm
    · have := (hbl n b0 hn).lt hr; omega
  refine ⟨c, I', ρ', rfl, ⟨hp.val, fun n b hn => ?_, fun n m x y hnm h1 h2 b o r b' o' r' hr hr' => ?_, fun n x hn b o r hr => ?_, ⟨hp.ext.os, hp.ext.tape, hp.ext.output, hp.ext.size, fun b hb _ => hkeep b hb, fun b hb => hp.ext.imm b (hI b hb), fun b hb => ?_, hp.ext.rho⟩, hp.lt, fun n hn _ => hp.fresh n hn rfl⟩⟩
  · obtain ⟨b0, h0, hfb⟩ := hput n b hn
    have hKn : K n := ne_none hn
    have hrel0 := hbl n b0 h0
    cases b0 with
    | cells x0 =>
      cases b with
      | cells y0 =>
        obtain ⟨bb, o, r, h1, h2, h3⟩ := hrel0
        have hlt := h3.lt
        obtain ⟨arr, T, fz, g1, g2, g3, g4, g5⟩ := h3.ex
        have hfl := Frz.flat hI (fun _ _ _ h => h) hbl hfz hfb
        have hcs := hfl ((arr.toList.drop o).take x0.flat.length) ⟨by simp; omega, fun k hk => by
          have := g5 k hk
          have e1 : ((arr.toList.drop o).take x0.flat.length).getD k Go.undef = arr.getD (o + k) Go.undef := by
            rw [← getD_toList]
            simp only [List.getD_eq_getElem?_getD, List.getElem?_take, hk, if_true, List.getElem?_drop]
          rw [e1]; exact this⟩
        obtain ⟨q1, q2⟩ := hcs
        have q1' : y0.flat.length = x0.flat.length := by rw [← q1]; simp; omega
        have hl1 : Lies w I1 ρ bb o r y0.flat := ⟨arr, T, fz, g1, g2, g3, by omega, fun k hk => by
          have := q2 k hk
          have e1 : ((arr.toList.drop o).take x0.flat.length).getD k Go.undef = arr.getD (o + k) Go.undef := by
            rw [← getD_toList]
            have : k < x0.flat.length := by omega
            simp only [List.getD_eq_getElem?_getD, List.getElem?_take, this, if_true, List.getElem?_drop]
          rwa [e1] at this⟩
        exact ⟨bb, o, r, hp.ext.rho n _ h1, hnI n _ bb o r hKn h0 h1 h2, hl1.mono hp.ext himm1 (hkeep bb hlt)⟩
      | map es => exact hfb.elim
      | raw _ _ => exact hfb.elim
    | raw _ _ => cases b <;> exact hfb.elim
    | map es =>
      cases b with
      | cells y0 => exact hfb.elim
      | raw _ _ => exact hfb.elim
      | map ds =>
        obtain ⟨rfl, hon⟩ := hfb
        obtain ⟨bb, o, r, h1, h2, h3⟩ := hrel0
        have hlt := h3.lt
        have hb1 : BRel w I1 ρ n (.map es) := ⟨bb, o, r, h1, fun h => hnI n _ bb o r hKn h0 h1 h2 (hp.ext.imm _ h), by
          have hx : Ext (fun b => ¬ I b) w w I I1 ρ ρ := ⟨rfl, rfl, rfl, Nat.le_refl _, fun _ _ _ => rfl, hI, fun b hb => by
            by_cases h : I b
            · exact .inl h
            · exact .inr (.inl h), fun _ _ h => h⟩
          exact h3.mono hx (fun b hb => ⟨(himm b hb).1, fun h => h hb⟩) rfl⟩
        obtain ⟨bb', o', r', h1', h2', h3'⟩ := hb1
        rw [h1] at h1'; cases h1'
        exact ⟨bb, o, r, hp.ext.rho n _ h1, hnI n _ bb o r hKn h0 h1 h2, h3'.mono hp.ext himm1 (hkeep bb hlt)⟩
  · obtain ⟨x0, hx0, _⟩ := hput n x h1
    obtain ⟨y0, hy0, _⟩ := hput m y h2
    obtain ⟨b1, o1, r1, e1, _⟩ := (hbl n x0 hx0).dom
    obtain ⟨b2, o2, r2, e2, _⟩ := (hbl m y0 hy0).dom
    have f1 := hp.ext.rho n _ e1
    have f2 := hp.ext.rho m _ e2
    rw [hr] at f1; cases f1
    rw [hr'] at f2; cases f2
    exact hinj n m x0 y0 hnm hx0 hy0 _ _ _ _ _ _ e1 e2
  · obtain ⟨x0, hx0, _⟩ := hput n x hn
    obtain ⟨b1, o1, r1, e1, _⟩ := (hbl n x0 hx0).dom
    have f1 := hp.ext.rho n _ e1
    rw [hr] at f1; cases f1
    exact .inl ⟨n, get_map hx0, o, r, e1⟩
  · rcases hp.ext.new b hb with (h | ⟨n', blk, o', r', h1, h2, h3⟩) | ⟨m, hm, _⟩ | h
    · exact .inl h
    · exact .inr (.inl ⟨n', get_map h1, o', r', h3⟩)
    · simp at hm
    · exact .inr (.inr h)

/-- A call by such a contract. -/
theorem CallTo.lend {P : Program} {o : Oper} {s : St} {K : Eff → Nat → Prop} {f : FuncId} {as : Array Operand} {ts : Array TypeId} {args args' : List AV} {v : AV} (HH put : Heap)
    (ho : o.op = .call { callee := .value (.func f), args := as, argTypes := ts }) (hok : fnOk P f = true) (hargs : as.toList.map s.ev = args'.map some) (hta : ∀ x, x ∈ args' → ∀ vs, x ≠ .tuple vs)
    (hc : ACall P f args [] v []) (hH : ∀ n b, Heap.get HH n = some b → Heap.get s.H n = some b) (hfz : All2 (Frz (fun n => Heap.get put n ≠ none) HH) args' args)
    (hput : ∀ n b, Heap.get put n = some b → ∃ b0, Heap.get HH n = some b0 ∧ BFrz (fun n => Heap.get put n ≠ none) HH b0 b)
    (hK : K ⟨v, [], HH.map (·.1), put⟩ s.nx) : CallTo P o s K := by
  refine ⟨_, s.nx, ls_call (caps := []) ho rfl hok hargs hta (fun x hx => by simp at hx) (by simpa using hc.lend hfz hput) hH, ⟨Nat.le_refl _, fun n x hn hw => ?_, fun n hn => ?_⟩, by simpa using hK⟩
  · obtain ⟨b0, h0, _⟩ := hput n x hn
    exact absurd (get_map h0) hw
  · obtain ⟨b, hb⟩ := get_mem hn
    exact ⟨b, hH n b hb⟩

section
variable {P : Program} {T S D : TypeId} {n : Nat} {t : Env} {H : Heap} {m : Nat} {K : Eff → Nat → Prop}
theorem binI_quo {k : IntKind} {a b : Int} : binI .quo k a b = if b = 0 then none else some (.int k (k.wrap (a.tdiv b))) := rfl
theorem binI_rem {k : IntKind} {a b : Int} : binI .rem k a b = if b = 0 then none else some (.int k (a.tmod b)) := rfl
theorem binI_and {k : IntKind} {a b : Int} : binI .and k a b = some (.int k (bAnd k a b)) := rfl
theorem binI_or {k : IntKind} {a b : Int} : binI .or k a b = some (.int k (bOr k a b)) := rfl
theorem binI_xor {k : IntKind} {a b : Int} : binI .xor k a b = some (.int k (bXor k a b)) := rfl
theorem binI_shl {k : IntKind} {a b : Int} : binI .shl k a b = if b < 0 then none else some (.int k (bShl k a b)) := rfl
theorem binI_shr {k : IntKind} {a b : Int} : binI .shr k a b = if b < 0 then none else some (.int k (bShr k a b)) := rfl
theorem binS_eql {a b : ByteArray} : binS .eql a b = some (.bool (strEq a b)) := rfl
theorem binS_neq {a b : ByteArray} : binS .neq a b = some (.bool (!strEq a b)) := rfl
theorem binS_add {a b : ByteArray} : binS .add a b = if a.size + b.size ≤ 9223372036854775807 then some (.str (a ++ b)) else none := rfl
theorem shifty_shl : shifty .shl = true := rfl
theorem shifty_shr : shifty .shr = true := rfl
theorem DoBin_str {op : BinOp} {T : TypeId} {a b : ByteArray} {K : AV → Prop} : DoBin P op T (some (.str a)) (some (.str b)) K = Got (binS op a b) K := by
  simp only [DoBin, Got]
  cases binS op a b <;> rfl
/-- A row of bytes. -/
def isByT (P : Program) (T : TypeId) : Bool := match P.underlying T with
  | some (.slice E) => match P.underlying E with
    | some (.int .u8) => true
    | _ => false
  | _ => false
theorem DoConvert_src {u : AV} (hu : (∀ k i, u ≠ .int k i) ∧ ∀ x, u ≠ .str x) : DoConvert P S D (some u) ⟨n, t, H, m⟩ K = Need (isByT P S = true ∧ isStrT P D = true) (SrcAt H 1 u fun rd xs => Got (bytesOf xs) fun bs => K ⟨.str ⟨bs.toArray⟩, rd, [], []⟩ m) := by
  have key : ∀ X : Prop, (match P.underlying S, P.underlying D with
    | some (.slice E), some .string => P.underlying E = some (.int .u8) ∧ X
    | _, _ => False) = ((isByT P S = true ∧ isStrT P D = true) ∧ X) := by
    intro X
    unfold isByT isStrT
    cases h1 : P.underlying S with
    | none => simp
    | some d1 =>
      cases d1 with
      | slice E =>
        cases h2 : P.underlying D with
        | none => simp
        | some d2 =>
          cases d2 with
          | string =>
            simp only [and_true]
            cases h3 : P.underlying E with
            | none => simp
            | some d3 => cases d3 with
              | int k => cases k <;> simp
              | _ => simp
          | _ => simp
      | _ => simp
  have e : (fun rd xs => match bytesOf xs with
      | some bs => K ⟨.str ⟨bs.toArray⟩, rd, [], []⟩ m
      | none => False) = fun rd xs => Got (bytesOf xs) fun bs => K ⟨.str ⟨bs.toArray⟩, rd, [], []⟩ m := by
    funext rd xs
    cases bytesOf xs <;> rfl
  rw [Need, SrcAt, ← e, ← key]
  cases u <;> first | exact absurd rfl (hu.1 _ _) | exact absurd rfl (hu.2 _) | rfl
theorem DoConvert_sl {nn off : Nat} {p : List Nat} {i len cap wd : Nat} : DoConvert P S D (some (.sl nn off p i len cap wd)) ⟨n, t, H, m⟩ K = Need (isByT P S = true ∧ isStrT P D = true) (SrcAt H 1 (.sl nn off p i len cap wd) fun rd xs => Got (bytesOf xs) fun bs => K ⟨.str ⟨bs.toArray⟩, rd, [], []⟩ m) :=
  DoConvert_src ⟨fun k i h => (by cases h), fun x h => (by cases h)⟩
theorem DoConvert_vsl {es : List AV} {len : Nat} : DoConvert P S D (some (.vsl es len)) ⟨n, t, H, m⟩ K = Need (isByT P S = true ∧ isStrT P D = true) (SrcAt H 1 (.vsl es len) fun rd xs => Got (bytesOf xs) fun bs => K ⟨.str ⟨bs.toArray⟩, rd, [], []⟩ m) :=
  DoConvert_src ⟨fun k i h => (by cases h), fun x h => (by cases h)⟩
theorem DoConvert_nil : DoConvert P S D (some .nilsl) ⟨n, t, H, m⟩ K = Need (isByT P S = true ∧ isStrT P D = true) (SrcAt H 1 .nilsl fun rd xs => Got (bytesOf xs) fun bs => K ⟨.str ⟨bs.toArray⟩, rd, [], []⟩ m) :=
  DoConvert_src ⟨fun k i h => (by cases h), fun x h => (by cases h)⟩
end
/-- What row stands there. -/
def aggAt (r : AV) : Option (List AV) := match r with
  | .agg es => some es
  | _ => none
theorem aggAt_agg {es : List AV} : aggAt (.agg es) = some es := rfl
theorem SrcAt_sl' {wd nn off i len cap wd' : Nat} {p : List Nat} {H : Heap} {K : List Nat → List AV → Prop} : SrcAt H wd (.sl nn off p i len cap wd') K = GotC (Heap.get H nn) fun root => Got (root.proj p) fun r => Got (aggAt r) fun es =>
    Need (wd' = wd ∧ off = root.offOf p + i * wd ∧ i + len ≤ es.length ∧ Unif wd es) (K [nn] ((es.drop i).take len)) := by
  simp only [SrcAt, Src, GotC, Got, Need]
  cases Heap.get H nn with
  | none => rfl
  | some b =>
    cases b <;> try rfl
    rename_i root
    simp only
    cases root.proj p with
    | none => rfl
    | some r => cases r <;> rfl

/-- Names from c on, moved by m. -/
def shiftC (c m k : Nat) : Nat := if k < c then k else m + k
theorem shiftC_inj {c m a b : Nat} (h : shiftC c m a = shiftC c m b) : a = b := by
  unfold shiftC at h
  split at h <;> split at h <;> omega
abbrev Foot.shift (c m : Nat) (f : Foot) : Foot := (f.1.map (shiftC c m), f.2.map (shiftC c m))
theorem meets_shift (c m : Nat) (a b : List Nat) : meets (a.map (shiftC c m)) (b.map (shiftC c m)) = meets a b := by
  rw [Bool.eq_iff_iff]
  simp only [meets, List.any_eq_true, List.contains_iff_mem, List.mem_map]
  constructor
  · rintro ⟨x, ⟨y, hy, rfl⟩, z, hz, hzy⟩
    exact ⟨y, hy, shiftC_inj hzy ▸ hz⟩
  · rintro ⟨x, hx, hb⟩
    exact ⟨_, ⟨x, hx, rfl⟩, x, hb, rfl⟩
theorem heapApart_shift (c m : Nat) (x y : Foot) : heapApart (x.shift c m) (y.shift c m) = heapApart x y := by
  simp only [heapApart, Foot.shift, meets_shift]
theorem rowOk_shift (c n : Nat) {all : Array Oper} {m : Nat} {oj : Oper} {fj : Foot} : ∀ (i : Nat) (os : List Oper) (fs : List Foot), rowOk all m oj (fj.shift c n) i os (fs.map (Foot.shift c n)) = rowOk all m oj fj i os fs
  | _, [], fs => by simp [rowOk]
  | _, _ :: _, [] => by simp [rowOk]
  | i, o :: os, f :: fs => by
    simp only [List.map_cons, rowOk, pairOk]
    rw [rowOk_shift c n (i + 1) os fs, heapApart_shift]
theorem confGo_shift (c n : Nat) {all : Array Oper} {ops0 : List Oper} {fs0 : List Foot} : ∀ (j : Nat) (os : List Oper) (fs : List Foot) (ms : List Nat), confGo all ops0 (fs0.map (Foot.shift c n)) j os (fs.map (Foot.shift c n)) ms = confGo all ops0 fs0 j os fs ms
  | _, [], _, _ => by simp [confGo]
  | _, _ :: _, [], _ => by simp [confGo]
  | _, _ :: _, _ :: _, [] => by simp [confGo]
  | j, o :: os, f :: fs, m :: ms => by
    simp only [List.map_cons, confGo]
    rw [confGo_shift c n (j + 1) os fs ms, ← List.map_take, rowOk_shift]
theorem confOk_shift (c m : Nat) {ops : List Oper} {fs : List Foot} (fs' : List Foot) (h : fs = fs'.map (Foot.shift c m)) (hk : confOk ops fs' = true) : confOk ops fs = true := by
  subst h
  rw [confOk, confGo_shift]; exact hk
end Go.Proofs.Ytipbgaahpchhbaa
/- Contracts over memory of the caller's; pointers compared; fields of values. -/
namespace Go.Proofs.Ytipbgaahpchhbaa
open Go Go.RowKit

/-- A contract from a run of the body, over memory that the caller hands on. -/
theorem ACall.runH {P : Program} {Z : TypeId → Option AV} {f : FuncId} {fn : Func} {c : Code} {args : List AV} {v : AV} {H put : Heap} (hm : P.follows .mixedOrders = true) (hZ : ∀ T z, Z T = some z → ZeroIs P T z) (hf : P.funcs[f]? = some fn) (hb : fn.body = some c) {N : Nat} (hN : fn.ntmps = N) (hc : codeOk N c = true) (ht : args.length ≤ N)
    (hargs : ∀ x, x ∈ args → AV.on (fun n => n ∈ H.map (·.1)) x ∧ ∀ vs, x ≠ .tuple vs) (hH : ∀ n b, Heap.get H n = some b → b.on fun n => n ∈ H.map (·.1)) (nx : Nat) (hnx : ∀ n, n ∈ H.map (·.1) → n < nx)
    (h : Run P Z c ⟨N, argEnv args 0, H, nx⟩ (Final P fn v put)) (hnx' : nx ≤ 100 := by decide) : ACall P f args H v put := by
  subst hN
  exact ACall.intro hf hb ht hargs hH nx hnx (fun n hn => Nat.lt_of_lt_of_le (hnx n hn) hnx') (AWp.mono (Run.sound hm hZ c _ _ hc rfl h) fun e s h => h.1)

/-- A call by a contract, whatever memory it takes and gives. -/
theorem CallTo.gen {P : Program} {o : Oper} {s : St} {K : Eff → Nat → Prop} {f : FuncId} {as : Array Operand} {ts : Array TypeId} {args : List AV} {v : AV} (HH put : Heap) (nx : Nat)
    (ho : o.op = .call { callee := .value (.func f), args := as, argTypes := ts }) (hok : fnOk P f = true) (hargs : as.toList.map s.ev = args.map some) (hta : ∀ x, x ∈ args → ∀ vs, x ≠ .tuple vs)
    (hc : ACall P f args HH v put) (hH : ∀ n b, Heap.get HH n = some b → Heap.get s.H n = some b)
    (hnx : s.nx ≤ nx ∧ ∀ n x, Heap.get put n = some x → n ∉ HH.map (·.1) → s.nx ≤ n ∧ n < nx)
    (hK : K ⟨v, [], HH.map (·.1), put⟩ nx) : CallTo P o s K := by
  refine ⟨_, nx, ls_call (caps := []) ho rfl hok hargs hta (fun x hx => by simp at hx) (by simpa using hc) hH, ⟨hnx.1, fun n x hn hw => hnx.2 n x hn hw, fun n hn => ?_⟩, hK⟩
  obtain ⟨b, hb⟩ := get_mem hn
  exact ⟨b, hH n b hb⟩

/-- What lies in one heap lies in another one. -/
theorem SubH.of {H0 H : Heap} (h : SubH H0 H) : ∀ n b, Heap.get H0 n = some b → Heap.get H n = some b := h.spec

def isPtrT (P : Program) (T : TypeId) : Bool := match P.underlying T with
  | some (.pointer _) => true
  | _ => false
section
variable {P : Program} {Z : TypeId → Option AV} {T : TypeId} {op : BinOp} {K : AV → Prop}
theorem DoBin_ptr {u u' : AV} {p q : Bool} (hp : isNilPtr u = some p) (hq : isNilPtr u' = some q) (hpq : (p || q) = true) : DoBin P op T (some u) (some u') K = Got (isEq op) fun ng => Need (isPtrT P T = true) (K (.bool (if ng then !(p && q) else (p && q)))) := by
  have key : (match isEq op, isNilPtr u, isNilPtr u', P.underlying T with
    | some ng, some p, some q, some (.pointer _) => (p = true ∨ q = true) ∧ K (.bool (if ng then !(p && q) else (p && q)))
    | _, _, _, _ => False) = Got (isEq op) fun ng => Need (isPtrT P T = true) (K (.bool (if ng then !(p && q) else (p && q)))) := by
    rw [hp, hq]
    have hpq' : p = true ∨ q = true := by simpa using hpq
    simp only [Got, Need, isPtrT]
    cases isEq op with
    | none => rfl
    | some ng =>
      cases P.underlying T with
      | none => simp
      | some d => cases d <;> simp [hpq']
  rw [← key]
  cases u <;> simp only [isNilPtr, reduceCtorEq] at hp <;> cases u' <;> simp only [isNilPtr, reduceCtorEq] at hq <;> rfl
theorem DoBin_ptr_nil {n off : Nat} {p : List Nat} : DoBin P op T (some (.ptr n off p)) (some .nilptr) K = Got (isEq op) fun ng => Need (isPtrT P T = true) (K (.bool ng)) := by
  rw [DoBin_ptr rfl rfl rfl]
  simp only [Got]
  cases isEq op with
  | none => rfl
  | some ng => cases ng <;> rfl
theorem DoBin_nil_nil : DoBin P op T (some .nilptr) (some .nilptr) K = Got (isEq op) fun ng => Need (isPtrT P T = true) (K (.bool (!ng))) := by
  rw [DoBin_ptr rfl rfl rfl]
  simp only [Got]
  cases isEq op with
  | none => rfl
  | some ng => cases ng <;> rfl
variable {d : Option Tmp} {ty : TypeId} {pos : String} {af : Array Edge} {g : Option (Nat × Bool)} {n : Nat} {t : Env} {H : Heap} {m : Nat} {K : Eff → Nat → Prop}
/-- Of a struct type: where its fields lie, and of which type they are. -/
def fldT (P : Program) (S : TypeId) (j : Nat) : Option (Nat × TypeId) := match P.underlying S with
  | some (.struct fs) => (fs[j]?).map fun f => (f.offset, f.type)
  | _ => none
theorem Do_field {S : TypeId} {x : Operand} {j : Nat} : Do P Z ⟨d, .field S x j, ty, pos, af, g⟩ ⟨n, t, H, m⟩ K = Got (St.ev ⟨n, t, H, m⟩ x) fun u => Got (aggAt u) fun vs => Got (fldT P S j) fun e => Got vs[j]? fun y => Need (e.1 = AV.sizeL (vs.take j) ∧ LoadOk P e.2 y) (K ⟨y, [], [], []⟩ m) := by
  simp only [Do, Got, Need, fldT, aggAt]
  cases h : St.ev ⟨n, t, H, m⟩ x with
  | none =>
    cases P.underlying S with
    | none => rfl
    | some D => cases D <;> rfl
  | some u =>
    cases P.underlying S with
    | none => cases u <;> rfl
    | some D =>
      cases D with
      | struct fs =>
        cases u with
        | agg vs =>
          simp only
          cases fs[j]? with
          | none => rfl
          | some f =>
            simp only [Option.map_some]
            cases vs[j]? <;> rfl
        | _ => rfl
      | _ => cases u <;> rfl
end
end Go.Proofs.Ytipbgaahpchhbaa
/- Arrays that are sliced, and copies. -/
namespace Go.Proofs.Ytipbgaahpchhbaa
open Go Go.RowKit
section
variable {P : Program} {T : TypeId} {n : Nat} {t : Env} {H : Heap} {m : Nat} {K : Eff → Nat → Prop}
theorem DoSlice_ptr {nn off : Nat} {p : List Nat} {lo hi : Option Operand} : DoSlice P T (some (.ptr nn off p)) lo hi ⟨n, t, H, m⟩ K = Got (elA P T) fun e => GotC (Heap.get H nn) fun root => Got (bndAV (St.ev ⟨n, t, H, m⟩) lo 0) fun l => Got (bndAV (St.ev ⟨n, t, H, m⟩) hi e.1) fun h => Got (root.proj p) fun r => Got (aggAt r) fun es =>
    Need (root.offOf p = off ∧ AV.sizeL es = e.1 * e.2 ∧ 0 ≤ l ∧ l ≤ h ∧ h ≤ e.1) (K ⟨.sl nn (off + l.toNat * e.2) p l.toNat (h.toNat - l.toNat) (e.1 - l.toNat) e.2, [nn], [], []⟩ m) := by
  simp only [DoSlice, Got, GotC, Need, elA, aggAt]
  cases P.underlying T with
  | none => rfl
  | some D =>
    cases D <;> try rfl
    rename_i len E
    simp only
    cases Heap.get H nn with
    | none => cases szOf P E <;> rfl
    | some b =>
      cases b with
      | map es => cases szOf P E <;> rfl
      | raw _ _ => cases szOf P E <;> rfl
      | cells root =>
        simp only
        cases szOf P E with
        | none =>
          simp only [Option.map_none]
          cases bndAV (St.ev ⟨n, t, H, m⟩) lo 0 <;> cases bndAV (St.ev ⟨n, t, H, m⟩) hi len <;> rfl
        | some wd =>
          simp only [Option.map_some]
          cases bndAV (St.ev ⟨n, t, H, m⟩) lo 0 <;> cases bndAV (St.ev ⟨n, t, H, m⟩) hi len <;> try rfl
          simp only
          cases root.proj p with
          | none => rfl
          | some r => cases r <;> rfl
theorem DoCopy_sl {nn off i len cap wd : Nat} {p : List Nat} {w : AV} : DoCopy P T (some (.sl nn off p i len cap wd)) (some w) ⟨n, t, H, m⟩ K = Got (elS P T) fun wd' => GotC (Heap.get H nn) fun root => Got (root.proj p) fun r => Got (aggAt r) fun es =>
    Need (wd' = wd ∧ off = root.offOf p + i * wd ∧ i + len ≤ es.length ∧ Unif wd es) (SrcAt H wd w fun rd xs => Need (nn ∉ rd) (K ⟨.int .i64 (Nat.min xs.length len : Nat), rd, [nn], [(nn, .cells (root.upd p (.agg (es.take i ++ xs.take (Nat.min xs.length len) ++ es.drop (i + Nat.min xs.length len)))))]⟩ m)) := by
  simp only [DoCopy, Got, GotC, Need, elS, aggAt, SrcAt]
  cases P.underlying T with
  | none => rfl
  | some D =>
    cases D <;> try rfl
    rename_i E
    simp only
    cases szOf P E with
    | none => rfl
    | some wd' =>
      simp only
      cases Heap.get H nn with
      | none => rfl
      | some b =>
        cases b with
        | map es => rfl
        | raw _ _ => rfl
        | cells root =>
          simp only
          cases root.proj p with
          | none => rfl
          | some r => cases r <;> rfl
end

/-- Bytes as values. -/
abbrev bytesAV (l : List UInt8) : List AV := l.map byteAV
def zb (n : Nat) : List UInt8 := List.replicate n 0
theorem zb_len (n : Nat) : (zb n).length = n := List.length_replicate
theorem unif_bytes (l : List UInt8) : Unif 1 (l.map byteAV) := fun x hx => by
  obtain ⟨o, _, rfl⟩ := List.mem_map.1 hx; rfl
theorem sizeL_bytes (l : List UInt8) : AV.sizeL (l.map byteAV) = l.length := by
  rw [(unif_bytes l).sizeL, List.length_map, Nat.mul_one]
theorem on_bytes (S : Nat → Prop) (l : List UInt8) : AV.onL S (l.map byteAV) := by
  rw [AV.onL_iff]
  intro x hx
  obtain ⟨o, _, rfl⟩ := List.mem_map.1 hx
  trivial
theorem bytesOf_bytes (l : List UInt8) : bytesOf (l.map byteAV) = some l := by
  induction l with
  | nil => rfl
  | cons b l ih => simp [byteAV, bytesOf, ih]
theorem byteAV_of (n : Nat) (h : n < 256) : AV.int .u8 (n : Int) = byteAV (UInt8.ofNat n) := by
  simp [byteAV, Nat.mod_eq_of_lt h]
theorem cellsEq_bytes : ∀ {l k : List UInt8}, l.length = k.length → cellsEq (l.map byteAV) (k.map byteAV) = some (l == k)
  | [], [], _ => rfl
  | [], _ :: _, h => by simp at h
  | _ :: _, [], h => by simp at h
  | a :: l, b :: k, h => by
    have := cellsEq_bytes (l := l) (k := k) (by simpa using h)
    simp only [List.map_cons]
    have e : scEq (byteAV a) (byteAV b) = some (a == b) := by
      simp only [byteAV, scEq, if_true]
      congr 1
      rw [Bool.eq_iff_iff]
      simp only [beq_iff_eq]
      constructor
      · intro h
        exact UInt8.toNat_inj.1 (by omega)
      · rintro rfl; rfl
    rw [cellsEq_cons e this]
    rfl
def kreps (n : Nat) : List K3 := List.replicate n .i
theorem kinds_bytes {l : List UInt8} {n : Nat} (h : l.length = n) : (l.map byteAV).map kindOf = (kreps n).map some := by
  subst h
  induction l with
  | nil => rfl
  | cons b l ih => simp only [List.map_cons, ih, kreps, List.length_cons, List.replicate_succ]; rfl
end Go.Proofs.Ytipbgaahpchhbaa
/- Unsigned numbers: bits and bytes as naturals. -/
namespace Go.Proofs.Ytipbgaahpchhbaa
open Go Go.RowKit

theorem wrap_u8 (x : Nat) : IntKind.u8.wrap (x : Int) = ((x % 256 : Nat) : Int) := by
  simp [IntKind.wrap, IntKind.signed, IntKind.bits]
theorem wrap_u32 (x : Nat) : IntKind.u32.wrap (x : Int) = ((x % 4294967296 : Nat) : Int) := by
  simp [IntKind.wrap, IntKind.signed, IntKind.bits]
theorem wrap_u64 (x : Nat) : IntKind.u64.wrap (x : Int) = ((x % 18446744073709551616 : Nat) : Int) := by
  simp [IntKind.wrap, IntKind.signed, IntKind.bits]
theorem wrap_u16 (x : Nat) : IntKind.u16.wrap (x : Int) = ((x % 65536 : Nat) : Int) := by
  simp [IntKind.wrap, IntKind.signed, IntKind.bits]
theorem bShr_nat (k : IntKind) (v j : Nat) : bShr k (v : Int) (j : Int) = ((v / 2 ^ (min j k.bits) : Nat) : Int) := by
  simp only [bShr, Int.toNat_natCast]
  rw [Int.fdiv_eq_ediv_of_nonneg _ (by exact_mod_cast Nat.zero_le _)]
  norm_cast
theorem bShl_u64 (v j : Nat) : bShl .u64 (v : Int) (j : Int) = ((v * 2 ^ (min j 64) % 18446744073709551616 : Nat) : Int) := by
  have : (v : Int) * 2 ^ (min j 64) = ((v * 2 ^ (min j 64) : Nat) : Int) := by norm_cast
  simp only [bShl, Int.toNat_natCast]
  rw [show IntKind.u64.bits = 64 from rfl, this, wrap_u64]
theorem bOr_u64 {a b : Nat} (ha : a < 18446744073709551616) (hb : b < 18446744073709551616) : bOr .u64 (a : Int) (b : Int) = ((a ||| b : Nat) : Int) := by
  simp only [bOr, BitVec.ofInt_natCast]
  have h : (BitVec.ofNat IntKind.u64.bits a ||| BitVec.ofNat IntKind.u64.bits b).toNat = a ||| b := by
    show (BitVec.ofNat 64 a ||| BitVec.ofNat 64 b).toNat = _
    rw [BitVec.toNat_or, BitVec.toNat_ofNat, BitVec.toNat_ofNat, Nat.mod_eq_of_lt ha, Nat.mod_eq_of_lt hb]
  rw [h, wrap_u64, Nat.mod_eq_of_lt (Nat.or_lt_two_pow (n := 64) ha hb)]
theorem or_add {a b : Nat} (hb : b < 256) : (a * 256) ||| b = a * 256 + b := by
  have := Nat.shiftLeft_add_eq_or_of_lt (i := 8) (b := b) hb a
  rw [Nat.shiftLeft_eq] at this
  exact this.symm

/-- The lowest n bytes of a number; the number of bytes. -/
def putL (v n : Nat) : List UInt8 := (List.range n).map fun i => UInt8.ofNat (v / 2 ^ (8 * i))
theorem putL_len (v n : Nat) : (putL v n).length = n := by simp [putL]
def getL : List UInt8 → Nat
  | [] => 0
  | b :: r => b.toNat + 256 * getL r
theorem getL_lt : ∀ l : List UInt8, getL l < 2 ^ (8 * l.length)
  | [] => by simp [getL]
  | b :: r => by
    have h1 := getL_lt r
    have h2 := b.toNat_lt
    simp only [getL, List.length_cons]
    have : 2 ^ (8 * (r.length + 1)) = 256 * 2 ^ (8 * r.length) := by rw [Nat.mul_add, Nat.pow_add, Nat.mul_comm]
    rw [this]
    omega
theorem getL_put : ∀ (v n : Nat), getL (putL v n) = v % 2 ^ (8 * n)
  | v, 0 => by simp [putL, getL, Nat.mod_one]
  | v, n + 1 => by
    have e : putL v (n + 1) = UInt8.ofNat v :: putL (v / 256) n := by
      simp only [putL, List.range_succ_eq_map, List.map_cons, List.map_map]
      rw [Nat.mul_zero, Nat.pow_zero, Nat.div_one]
      congr 1
      apply List.map_congr_left
      intro i _
      simp only [Function.comp]
      congr 1
      rw [Nat.div_div_eq_div_mul]
      congr 1
      rw [show 8 * (i + 1) = 8 + 8 * i by omega, Nat.pow_add]
    rw [e, getL, getL_put (v / 256) n]
    have h1 : (UInt8.ofNat v).toNat = v % 256 := by simp
    rw [h1]
    have : 2 ^ (8 * (n + 1)) = 256 * 2 ^ (8 * n) := by rw [Nat.mul_add, Nat.pow_add, Nat.mul_comm]
    rw [this, Nat.mod_mul]
theorem zb_map (n : Nat) : List.replicate n (AV.int .u8 0) = (zb n).map byteAV := by
  rw [zb, List.map_replicate]; rfl
theorem str_bytes (l : List UInt8) : (ByteArray.mk l.toArray).size = l.length := by simp [ByteArray.size]
theorem layable_byteAV (b : UInt8) : (byteAV b).layable = true := rfl
end Go.Proofs.Ytipbgaahpchhbaa
/- Memory that is lent to a callee whose answer names none: it is the caller's again. -/
namespace Go.Proofs.Ytipbgaahpchhbaa
open Go Go.RowKit

def AV.isPlain : AV → Bool
  | .bool _ => true
  | .int _ _ => true
  | .str _ => true
  | _ => false
theorem VRel.plain {w w' : World} {I I' : Nat → Prop} {ρ ρ' : Rho} {v : AV} {c : Value} (hv : v.isPlain = true) (h : VRel w I ρ v c) : VRel w' I' ρ' v c := by
  cases v <;> simp only [AV.isPlain, Bool.false_eq_true] at hv
  · have h' : CRel w I ρ _ c := h
    cases h'; exact CRel.bool _
  · have h' : CRel w I ρ _ c := h
    cases h'; exact CRel.int _ _
  · have h' : CRel w I ρ _ c := h
    cases h'; exact CRel.str _

theorem ACall.borrow {P : Program} {f : FuncId} {args args' : List AV} {v : AV} {H : Heap} (hc : ACall P f args [] v []) (hv : v.isPlain = true)
    (hargs : All2 (Frz (fun _ => False) H) args' args) : ACall P f args' H v H := by
  intro w I ρ cargs hsz hrel hbl hinj himm hfr
  let I1 : Nat → Prop := fun b => I b ∨ ∃ n blk o r, Heap.get H n = some blk ∧ ρ n = some (b, o, r)
  have hI : ∀ b, I b → I1 b := fun b h => .inl h
  have hfz : ∀ n blk b o r, Heap.get H n = some blk → ¬ False → ρ n = some (b, o, r) → I1 b := fun n blk b o r h1 _ h3 => .inr ⟨n, blk, o, r, h1, h3⟩
  have hlen := All2.length hargs
  have hrel1 : ∀ k, k < args.length → XRel w I1 ρ (args.getD k .undef) (cargs.getD k Go.undef) := fun k hk =>
    Frz.rel hI (fun _ _ h _ => h.elim) hbl hfz (All2.get .undef .undef hargs k (by omega)) (hrel k (by omega))
  have himm1 : Imm (OwnW ρ (([] : Heap).map (·.1))) w I1 := fun b hb => ⟨by
    rcases hb with hb | ⟨n, blk, o, r, h1, h3⟩
    · exact (himm b hb).1
    · exact (hbl n blk h1).lt h3, fun ⟨n, hn, _⟩ => by simp at hn⟩
  have hcall := hc w I1 ρ cargs (by omega) hrel1 (fun n b h => by simp [Heap.get] at h) (fun n m x y _ h => by simp [Heap.get] at h) himm1 (fun n x h => by simp [Heap.get] at h)
  refine Calls.mono hcall ?_
  rintro e w' ⟨c, I', ρ', rfl, hp⟩
  have hkeep : ∀ b, b < w.heap.size → w'.heap[b]? = w.heap[b]? := fun b hb => hp.ext.keep b hb (fun ⟨n, hn, _⟩ => by simp at hn)
  let own := OwnW ρ (H.map (·.1))
  let I2 : Nat → Prop := fun b => I' b ∧ ¬ own b
  have hx : Ext own w w' I I2 ρ ρ' := ⟨hp.ext.os, hp.ext.tape, hp.ext.output, hp.ext.size, fun b hb _ => hkeep b hb, fun b hb => ⟨hp.ext.imm b (hI b hb), (himm b hb).2⟩, fun b hb => by
    rcases hp.ext.new b hb.1 with (h | ⟨n', blk, o', r', h1, h3⟩) | ⟨m, hm, _⟩ | h
    · exact .inl h
    · exact .inr (.inl ⟨n', get_map h1, o', r', h3⟩)
    · simp at hm
    · exact .inr (.inr h), hp.ext.rho⟩
  refine ⟨c, I2, ρ', rfl, ⟨hp.val.plain hv, fun n b hn => ?_, fun n m x y hnm h1 h2 b o r b' o' r' hr hr' => ?_, fun n x hn b o r hr => ?_, hx, fun b hb => hp.lt b hb.1, fun n hn _ => hp.fresh n hn rfl⟩⟩
  · have hrel0 := hbl n b hn
    cases b with
    | cells x0 =>
      obtain ⟨bb, o, r, h1, h2, h3⟩ := hrel0
      exact ⟨bb, o, r, hp.ext.rho n _ h1, fun h => h.2 ⟨n, get_map hn, o, r, h1⟩, h3.mono hx himm (hkeep bb h3.lt)⟩
    | raw bb ob =>
      obtain ⟨o, r, h1, h2, h3, h4⟩ := hrel0
      have hlt : bb < w.heap.size := (hbl n _ hn).lt h1
      exact ⟨o, r, hp.ext.rho n _ h1, fun h => h.2 ⟨n, get_map hn, o, r, h1⟩, h3, (hkeep bb hlt).trans h4⟩
    | map es =>
      obtain ⟨bb, o, r, h1, h2, h3⟩ := hrel0
      exact ⟨bb, o, r, hp.ext.rho n _ h1, fun h => h.2 ⟨n, get_map hn, o, r, h1⟩, h3.mono hx himm (hkeep bb h3.lt)⟩
  · obtain ⟨b1, o1, r1, e1, _⟩ := (hbl n x h1).dom
    obtain ⟨b2, o2, r2, e2, _⟩ := (hbl m y h2).dom
    have f1 := hp.ext.rho n _ e1
    have f2 := hp.ext.rho m _ e2
    rw [hr] at f1; cases f1
    rw [hr'] at f2; cases f2
    exact hinj n m x y hnm h1 h2 _ _ _ _ _ _ e1 e2
  · obtain ⟨b1, o1, r1, e1, _⟩ := (hbl n x hn).dom
    have f1 := hp.ext.rho n _ e1
    rw [hr] at f1; cases f1
    exact .inl ⟨n, get_map hn, o, r, e1⟩
/-- Ends of walks that hand memory on. -/
theorem Final.oneH {P : Program} {fn : Func} {r : ResultVar} {u v : AV} {e : Exit} {s : St} {put : Heap} (he : e = .normal ∨ e = .ret) (hr : fn.results = #[r]) (h : ResOk P s r u) (hu : ∀ vs, u ≠ .tuple vs) (hv : ∀ vs, v ≠ .tuple vs) (hf : Frz (fun n => Heap.get put n ≠ none) s.H u v)
    (hput : ∀ n b, Heap.get put n = some b → ∃ b0, Heap.get s.H n = some b0 ∧ BFrz (fun n => Heap.get put n ≠ none) s.H b0 b) : Final P fn v put e s := by
  refine ⟨he, [u], ?_, ?_, hput⟩
  · rw [hr]; exact ⟨h, trivial⟩
  · show FrzV _ _ u v
    cases u <;> first | exact absurd rfl (hu _) | (cases v <;> first | exact absurd rfl (hv _) | exact hf)
theorem Final.manyH {P : Program} {fn : Func} {rs : List ResultVar} {us vs : List AV} {e : Exit} {s : St} {put : Heap} (he : e = .normal ∨ e = .ret) (hr : fn.results.toList = rs) (h : All2 (ResOk P s) rs us) (hl : us.length ≠ 1) (hf : All2 (Frz (fun n => Heap.get put n ≠ none) s.H) us vs)
    (hput : ∀ n b, Heap.get put n = some b → ∃ b0, Heap.get s.H n = some b0 ∧ BFrz (fun n => Heap.get put n ≠ none) s.H b0 b) : Final P fn (.tuple vs) put e s := by
  refine ⟨he, us, hr ▸ h, ?_, hput⟩
  cases us with
  | nil => exact hf
  | cons u us =>
    cases us with
    | nil => simp at hl
    | cons u2 us => exact hf
end Go.Proofs.Ytipbgaahpchhbaa
/- Bits of 32; the sum CRC-32, a bit at a time. -/
namespace Go.Proofs.Ytipbgaahpchhbaa
open Go Go.RowKit

theorem unAV_neg {k : IntKind} {n : Int} : unAV .neg (.int k n) = some (.int k (k.wrap (0 - n))) := rfl
theorem unAV_xor {k : IntKind} {n : Int} : unAV .xor (.int k n) = some (.int k (bXor k (if k.signed then -1 else k.max) n)) := rfl
theorem bXor_u32 {a b : Nat} (ha : a < 4294967296) (hb : b < 4294967296) : bXor .u32 (a : Int) (b : Int) = ((a ^^^ b : Nat) : Int) := by
  simp only [bXor, BitVec.ofInt_natCast]
  have h : (BitVec.ofNat IntKind.u32.bits a ^^^ BitVec.ofNat IntKind.u32.bits b).toNat = a ^^^ b := by
    show (BitVec.ofNat 32 a ^^^ BitVec.ofNat 32 b).toNat = _
    rw [BitVec.toNat_xor, BitVec.toNat_ofNat, BitVec.toNat_ofNat, Nat.mod_eq_of_lt ha, Nat.mod_eq_of_lt hb]
  rw [h, wrap_u32, Nat.mod_eq_of_lt (Nat.xor_lt_two_pow (n := 32) ha hb)]
theorem bAnd_u32 {a b : Nat} (ha : a < 4294967296) (hb : b < 4294967296) : bAnd .u32 (a : Int) (b : Int) = ((a &&& b : Nat) : Int) := by
  simp only [bAnd, BitVec.ofInt_natCast]
  have h : (BitVec.ofNat IntKind.u32.bits a &&& BitVec.ofNat IntKind.u32.bits b).toNat = a &&& b := by
    show (BitVec.ofNat 32 a &&& BitVec.ofNat 32 b).toNat = _
    rw [BitVec.toNat_and, BitVec.toNat_ofNat, BitVec.toNat_ofNat, Nat.mod_eq_of_lt ha, Nat.mod_eq_of_lt hb]
  rw [h, wrap_u32, Nat.mod_eq_of_lt (Nat.lt_of_le_of_lt Nat.and_le_left ha)]
def poly : Nat := 3988292384
def crcStep (r : Nat) : Nat := if r % 2 = 1 then (r / 2) ^^^ poly else r / 2
theorem crcStep_lt {r : Nat} (h : r < 4294967296) : crcStep r < 4294967296 := by
  unfold crcStep
  split
  · exact Nat.xor_lt_two_pow (n := 32) (by omega) (by decide)
  · omega
def crcBits : Nat → Nat → Nat
  | 0, r => r
  | n + 1, r => crcStep (crcBits n r)
theorem crcBits_lt {r : Nat} (h : r < 4294967296) : ∀ n, crcBits n r < 4294967296
  | 0 => h
  | n + 1 => crcStep_lt (crcBits_lt h n)
def crcL (r : Nat) : List UInt8 → Nat
  | [] => r
  | b :: l => crcL (crcBits 8 (r ^^^ b.toNat)) l
theorem xor_byte_lt {r : Nat} (b : UInt8) (h : r < 4294967296) : r ^^^ b.toNat < 4294967296 :=
  Nat.xor_lt_two_pow (n := 32) h (Nat.lt_of_lt_of_le b.toNat_lt (by decide))
theorem crcL_lt : ∀ {l : List UInt8} {r : Nat}, r < 4294967296 → crcL r l < 4294967296
  | [], r, h => h
  | b :: l, r, h => crcL_lt (l := l) (crcBits_lt (xor_byte_lt b h) 8)
theorem crcL_append : ∀ (l k : List UInt8) (r : Nat), crcL r (l ++ k) = crcL (crcL r l) k
  | [], k, r => rfl
  | b :: l, k, r => crcL_append l k _
theorem crcL_take {l : List UInt8} {i : Nat} {b : UInt8} (h : l[i]? = some b) (r : Nat) : crcL r (l.take (i + 1)) = crcBits 8 (crcL r (l.take i) ^^^ b.toNat) := by
  rw [take_succ h, crcL_append]; rfl
def crcSum (l : List UInt8) : Nat := 4294967295 - crcL 4294967295 l
theorem crcSum_lt (l : List UInt8) : crcSum l < 4294967296 := by unfold crcSum; omega
theorem xor_all {r : Nat} (h : r < 4294967296) : 4294967295 ^^^ r = 4294967295 - r := by
  have h1 : (BitVec.ofNat 32 4294967295 ^^^ BitVec.ofNat 32 r) = ~~~ (BitVec.ofNat 32 r) := by
    rw [show BitVec.ofNat 32 4294967295 = BitVec.allOnes 32 from rfl, BitVec.allOnes_xor]
  have h2 := congrArg BitVec.toNat h1
  rw [BitVec.toNat_xor, BitVec.toNat_not, BitVec.toNat_ofNat, BitVec.toNat_ofNat, Nat.mod_eq_of_lt (show r < 2 ^ 32 from h)] at h2
  exact h2
end Go.Proofs.Ytipbgaahpchhbaa
