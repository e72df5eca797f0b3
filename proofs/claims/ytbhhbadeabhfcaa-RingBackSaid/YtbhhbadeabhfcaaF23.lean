/- What each operation comes to, as equations. -/
import Derived.Test.YtbhhbadeabhfcaaF22
set_option linter.unusedVariables false
set_option linter.unusedSimpArgs false
namespace Go.Proofs.Ytbhhbadeabhfcaa
open Go Go.RowKit

section
variable {P : Program} {Z : TypeId → Option AV} {d : Option Tmp} {ty : TypeId} {pos : String} {af : Array Edge} {g : Option (Nat × Bool)} {s : St} {K : Eff → Nat → Prop}

theorem BO_nil {all : List Oper} {K : St → Prop} {n : Nat} {t : Env} {H : Heap} {m : Nat} : BO P Z all [] ⟨n, t, H, m⟩ K = K ⟨n, t, H, m⟩ := rfl
theorem BO_cons {all os : List Oper} {K : St → Prop} {op : Op} {n : Nat} {t : Env} {H : Heap} {m : Nat} : BO P Z all (⟨d, op, ty, pos, af, none⟩ :: os) ⟨n, t, H, m⟩ K = Do P Z ⟨d, op, ty, pos, af, none⟩ ⟨n, t, H, m⟩ fun e nx => BO P Z all os (St.app ⟨n, t, H, m⟩ d e nx) K := rfl
theorem BO_consg {all os : List Oper} {K : St → Prop} {op : Op} {j : Nat} {want : Bool} {n : Nat} {t : Env} {H : Heap} {m : Nat} : BO P Z all (⟨d, op, ty, pos, af, some (j, want)⟩ :: os) ⟨n, t, H, m⟩ K =
    Got (((all[j]?).bind (·.dst)).bind (look t)) fun v => Gd want v (Do P Z ⟨d, op, ty, pos, af, some (j, want)⟩ ⟨n, t, H, m⟩ fun e nx => BO P Z all os (St.app ⟨n, t, H, m⟩ d e nx) K) (BO P Z all os ⟨n, Env.put t d (.tuple []), H, m⟩ K) := rfl
theorem BOD_nil {all : List Oper} {L : List Foot} {K : List Foot → St → Prop} {n : Nat} {t : Env} {H : Heap} {m : Nat} : BOD P Z all [] ⟨n, t, H, m⟩ L K = K L ⟨n, t, H, m⟩ := rfl
theorem BOD_cons {all os : List Oper} {L : List Foot} {K : List Foot → St → Prop} {op : Op} {n : Nat} {t : Env} {H : Heap} {m : Nat} : BOD P Z all (⟨d, op, ty, pos, af, none⟩ :: os) ⟨n, t, H, m⟩ L K = Do P Z ⟨d, op, ty, pos, af, none⟩ ⟨n, t, H, m⟩ fun e nx => BOD P Z all os (St.app ⟨n, t, H, m⟩ d e nx) (L ++ [e.foot]) K := rfl
theorem BOD_consg {all os : List Oper} {L : List Foot} {K : List Foot → St → Prop} {op : Op} {j : Nat} {want : Bool} {n : Nat} {t : Env} {H : Heap} {m : Nat} : BOD P Z all (⟨d, op, ty, pos, af, some (j, want)⟩ :: os) ⟨n, t, H, m⟩ L K =
    Got (((all[j]?).bind (·.dst)).bind (look t)) fun v => Gd want v (Do P Z ⟨d, op, ty, pos, af, some (j, want)⟩ ⟨n, t, H, m⟩ fun e nx => BOD P Z all os (St.app ⟨n, t, H, m⟩ d e nx) (L ++ [e.foot]) K) (BOD P Z all os ⟨n, Env.put t d (.tuple []), H, m⟩ (L ++ [([], [])]) K) := rfl

theorem RunR_nil {K : St → Prop} : RunR P Z [] false s K = K s := rfl
theorem RunR_false {o : Oper} {ops : List Oper} {K : St → Prop} : RunR P Z (o :: ops) false s K = BO P Z (o :: ops) (o :: ops) s K := rfl
theorem RunR_true {o : Oper} {ops : List Oper} {K : St → Prop} : RunR P Z (o :: ops) true s K = BOD P Z (o :: ops) (o :: ops) s [] fun L s' => Need (confOk (o :: ops) L = true) (K s') := rfl

section
variable {n : Nat} {t : Env} {H : Heap} {m : Nat} {Q : Exit → St → Prop}
theorem Run_skip : Run P Z .skip ⟨n, t, H, m⟩ Q = Q .normal ⟨n, t, H, m⟩ := rfl
theorem Run_ret : Run P Z .ret ⟨n, t, H, m⟩ Q = Q .ret ⟨n, t, H, m⟩ := rfl
theorem Run_exit {id : Nat} : Run P Z (.exit id) ⟨n, t, H, m⟩ Q = Q (.exit id) ⟨n, t, H, m⟩ := rfl
theorem Run_seq {x y : Code} : Run P Z (.seq x y) ⟨n, t, H, m⟩ Q = Run P Z x ⟨n, t, H, m⟩ fun e s' => match e with
    | .normal => Run P Z y s' Q
    | e => Q e s' := rfl
theorem Run_cond {c : Operand} {x y : Code} : Run P Z (.cond c x y) ⟨n, t, H, m⟩ Q = Got (St.ev ⟨n, t, H, m⟩ c) fun v => BranchV v (Run P Z x ⟨n, t, H, m⟩ Q) (Run P Z y ⟨n, t, H, m⟩ Q) := rfl
theorem Run_block {id : Nat} {c : Code} : Run P Z (.block id c) ⟨n, t, H, m⟩ Q = Run P Z c ⟨n, t, H, m⟩ fun e s' => match e with
    | .exit i => if i = id then Q .normal s' else Q (.exit i) s'
    | e => Q e s' := rfl
theorem Run_region {id : Nat} {ops : Array Oper} {draw : Bool} : Run P Z (.region id ops draw) ⟨n, t, H, m⟩ Q = RunR P Z ops.toList draw ⟨n, t, H, m⟩ (Q .normal) := rfl
def LoopI (P : Program) (c : Code) (s : St) (Q : Exit → St → Prop) (_ : Inert Q := ⟨()⟩) : Prop := AWp P (.loop c) s Q
theorem Run_loop {c : Code} : Run P Z (.loop c) ⟨n, t, H, m⟩ Q = LoopI P c ⟨n, t, H, m⟩ fun e s' => Q e s' ∧ s'.n = n := rfl

theorem St_app {v : AV} {rd wr : List Nat} {put : Heap} {nx : Nat} : St.app ⟨n, t, H, m⟩ d ⟨v, rd, wr, put⟩ nx = ⟨n, Env.put t d v, put ++ Heap.dels H wr, nx⟩ := rfl
end
theorem put_some {t : Env} {x : Tmp} {v : AV} : Env.put t (some x) v = (x, v) :: t := rfl
theorem put_none {t : Env} {v : AV} : Env.put t none v = t := rfl
theorem dels_nil {H : Heap} : Heap.dels H [] = H := rfl
theorem dels_cons {H : Heap} {n : Nat} {r : List Nat} : Heap.dels H (n :: r) = Heap.dels (Heap.del H n) r := rfl
theorem del_nil {n : Nat} : Heap.del [] n = [] := rfl
theorem del_cons {H : Heap} {n m : Nat} {b : ABlk} : Heap.del ((m, b) :: H) n = if n = m then Heap.del H n else (m, b) :: Heap.del H n := rfl
theorem foot_mk {v : AV} {rd wr : List Nat} {put : Heap} : Eff.foot ⟨v, rd, wr, put⟩ = (rd, wr ++ put.map (·.1)) := rfl
theorem look_cons {m n : Nat} {v : AV} {r : Env} : look ((m, v) :: r) n = if n = m then some v else look r n := rfl
theorem look_nil {n : Nat} : look [] n = none := rfl
theorem get_cons {m n : Nat} {b : ABlk} {r : Heap} : Heap.get ((m, b) :: r) n = if n = m then some b else Heap.get r n := rfl
theorem get_nil {n : Nat} : Heap.get [] n = none := rfl
section
variable {n : Nat} {t : Env} {H : Heap} {m : Nat}
theorem ev_tmp {x : Nat} : St.ev ⟨n, t, H, m⟩ (.tmp x) = look t x := rfl
theorem ev_const {c : Value} : St.ev ⟨n, t, H, m⟩ (.const c) = constAV c := rfl
theorem ev_func {f : Nat} : St.ev ⟨n, t, H, m⟩ (.func f) = some (.func f []) := rfl
end
theorem const_bool (b : Bool) : constAV (.bool b) = some (.bool b) := rfl
theorem const_int (k : IntKind) (n : Int) : constAV (.int k n) = some (.int k n) := rfl
theorem const_str (x : ByteArray) : constAV (.string x) = some (.str x) := rfl
theorem const_nilptr : constAV (.pointer none) = some .nilptr := rfl
theorem const_nilsl : constAV (.slice none 0 0) = some .nilsl := rfl
theorem const_nilmap : constAV (.map none) = some .nilmap := rfl

section
variable {n : Nat} {t : Env} {H : Heap} {m : Nat}

theorem Do_move {x : Operand} : Do P Z ⟨d, .move x, ty, pos, af, g⟩ ⟨n, t, H, m⟩ K = Got (St.ev ⟨n, t, H, m⟩ x) fun v => K ⟨v, [], [], []⟩ m := by
  simp only [Do, Got]; cases St.ev ⟨n, t, H, m⟩ x <;> rfl
theorem Do_assign {x : Operand} : Do P Z ⟨d, .assign x, ty, pos, af, g⟩ ⟨n, t, H, m⟩ K = Got (St.ev ⟨n, t, H, m⟩ x) fun v => K ⟨v, [], [], []⟩ m := by
  simp only [Do, Got]; cases St.ev ⟨n, t, H, m⟩ x <;> rfl

/-- What `pick` takes. -/
def pickAV (c : AV) (a b : Option AV) : Option AV := match c with
  | .bool t => if t then a else b
  | _ => none
theorem pick_true {a b : Option AV} : pickAV (.bool true) a b = a := rfl
theorem pick_false {a b : Option AV} : pickAV (.bool false) a b = b := rfl
theorem pick_bool {c a b : Bool} : pickAV (.bool c) (some (.bool a)) (some (.bool b)) = some (.bool (if c then a else b)) := by cases c <;> rfl
theorem Do_pick {c a b : Operand} : Do P Z ⟨d, .pick c a b, ty, pos, af, g⟩ ⟨n, t, H, m⟩ K = Got (St.ev ⟨n, t, H, m⟩ c) fun u => Got (pickAV u (St.ev ⟨n, t, H, m⟩ a) (St.ev ⟨n, t, H, m⟩ b)) fun v => K ⟨v, [], [], []⟩ m := by
  simp only [Do, Got, pickAV]
  cases h : St.ev ⟨n, t, H, m⟩ c with
  | none => rfl
  | some u =>
    cases u <;> try rfl
    rename_i b'
    cases b'
    · simp only [Bool.false_eq_true, if_false]; cases St.ev ⟨n, t, H, m⟩ b <;> rfl
    · simp only [if_true]; cases St.ev ⟨n, t, H, m⟩ a <;> rfl
theorem Do_alloc {T : TypeId} : Do P Z ⟨d, .alloc T, ty, pos, af, g⟩ ⟨n, t, H, m⟩ K = Got (Z T) fun z => K ⟨.ptr m 0 [], [], [], [(m, .cells z)]⟩ (m + 1) := by
  simp only [Do, Got]; cases Z T <;> rfl
theorem Do_box {T : TypeId} {x : Operand} : Do P Z ⟨d, .box T x, ty, pos, af, g⟩ ⟨n, t, H, m⟩ K = Got (St.ev ⟨n, t, H, m⟩ x) fun u => Need (u.layable = true) (K ⟨.ptr m 0 [], [], [], [(m, .cells u)]⟩ (m + 1)) := by
  simp only [Do, Got, Need]; cases St.ev ⟨n, t, H, m⟩ x <;> rfl

def LoadAt (P : Program) (T : TypeId) (H : Heap) (u : AV) (K : AV → List Nat → Prop) : Prop := match u with
  | .ptr n off p => GotC (Heap.get H n) fun root => Got (root.proj p) fun u => Need (root.offOf p = off ∧ LoadOk P T u) (K u [n])
  | .vptr root off p => Got (root.proj p) fun u => Need (root.offOf p = off ∧ LoadOk P T u) (K u [])
  | _ => False
@[congr] theorem LoadAt_congr {T : TypeId} {H H' : Heap} {u u' : AV} {K : AV → List Nat → Prop} (h : H = H') (h' : u = u') : LoadAt P T H u K = LoadAt P T H' u' K := by rw [h, h']
theorem LoadAt_ptr {T : TypeId} {H : Heap} {nn off : Nat} {p : List Nat} {K : AV → List Nat → Prop} : LoadAt P T H (.ptr nn off p) K = GotC (Heap.get H nn) fun root => Got (root.proj p) fun u => Need (root.offOf p = off ∧ LoadOk P T u) (K u [nn]) := rfl
theorem LoadAt_vptr {T : TypeId} {H : Heap} {root : AV} {off : Nat} {p : List Nat} {K : AV → List Nat → Prop} : LoadAt P T H (.vptr root off p) K = Got (root.proj p) fun u => Need (root.offOf p = off ∧ LoadOk P T u) (K u []) := rfl
theorem Do_load {T : TypeId} {x : Operand} : Do P Z ⟨d, .load T x, ty, pos, af, g⟩ ⟨n, t, H, m⟩ K = Got (St.ev ⟨n, t, H, m⟩ x) fun u => LoadAt P T H u fun v rd => K ⟨v, rd, [], []⟩ m := by
  simp only [Do, Got, LoadAt, GotC, Need]
  cases h : St.ev ⟨n, t, H, m⟩ x with
  | none => rfl
  | some u =>
    cases u <;> try rfl
    · rename_i nn off p
      simp only
      cases h2 : Heap.get H nn with
      | none => rfl
      | some b => cases b <;> try rfl
                  rename_i r
                  simp only
                  cases r.proj p <;> rfl
    · rename_i r off p
      simp only
      cases r.proj p <;> rfl

def StoreAt (P : Program) (T : TypeId) (H : Heap) (x u : AV) (K : Nat → AV → Prop) : Prop := match x with
  | .ptr n off p => GotC (Heap.get H n) fun root => Got (root.proj p) fun old => Need (root.offOf p = off ∧ u.layable = true ∧ u.size = old.size ∧ szOf P T = some u.size) (K n (root.upd p u))
  | _ => False
@[congr] theorem StoreAt_congr {T : TypeId} {H H' : Heap} {x x' u u' : AV} {K : Nat → AV → Prop} (h : H = H') (h' : u = u') (h'' : x = x') : StoreAt P T H x u K = StoreAt P T H' x' u' K := by rw [h, h', h'']
theorem StoreAt_ptr {T : TypeId} {H : Heap} {nn off : Nat} {p : List Nat} {u : AV} {K : Nat → AV → Prop} : StoreAt P T H (.ptr nn off p) u K = GotC (Heap.get H nn) fun root => Got (root.proj p) fun old => Need (root.offOf p = off ∧ u.layable = true ∧ u.size = old.size ∧ szOf P T = some u.size) (K nn (root.upd p u)) := rfl
theorem Do_store {T : TypeId} {x y : Operand} : Do P Z ⟨d, .store T x y, ty, pos, af, g⟩ ⟨n, t, H, m⟩ K = Got (St.ev ⟨n, t, H, m⟩ x) fun a => Got (St.ev ⟨n, t, H, m⟩ y) fun u => StoreAt P T H a u fun nn r => K ⟨.undef, [], [nn], [(nn, .cells r)]⟩ m := by
  simp only [Do, Got, StoreAt, GotC, Need]
  cases h : St.ev ⟨n, t, H, m⟩ x with
  | none => rfl
  | some u =>
    cases h1 : St.ev ⟨n, t, H, m⟩ y with
    | none => cases u <;> rfl
    | some v =>
      cases u <;> try rfl
      rename_i nn off p
      simp only
      cases h2 : Heap.get H nn with
      | none => rfl
      | some b => cases b <;> try rfl
                  rename_i r
                  simp only
                  cases r.proj p <;> rfl

def FieldAt (P : Program) (S : TypeId) (j : Nat) (x : AV) (K : AV → Prop) : Prop := match P.underlying S with
  | some (.struct fs) => Got fs[j]? fun f => Got (szOf P f.type) fun k => match x with
    | .ptr n off p => Need (k ≠ 0) (K (.ptr n (off + f.offset) (p ++ [j])))
    | .vptr r off p => Need (k ≠ 0) (K (.vptr r (off + f.offset) (p ++ [j])))
    | _ => False
  | _ => False
@[congr] theorem FieldAt_congr {S : TypeId} {j : Nat} {x x' : AV} {K : AV → Prop} (h : x = x') : FieldAt P S j x K = FieldAt P S j x' K := by rw [h]
/-- Of a struct type: where its fields lie. -/
def fAt (P : Program) (S : TypeId) (j : Nat) : Option Nat := match P.underlying S with
  | some (.struct fs) => (fs[j]?).bind fun f => (szOf P f.type).bind fun k => if k ≠ 0 then some f.offset else none
  | _ => none
theorem FieldAt_ptr {S : TypeId} {j nn off : Nat} {p : List Nat} {K : AV → Prop} : FieldAt P S j (.ptr nn off p) K = Got (fAt P S j) fun o => K (.ptr nn (off + o) (p ++ [j])) := by
  unfold FieldAt fAt
  split
  · rename_i fs h
    cases fs[j]? with
    | none => rfl
    | some f =>
      simp only [Got, Option.bind_some]
      cases szOf P f.type with
      | none => rfl
      | some k => by_cases hk : k = 0 <;> simp [Need, hk]
  · rfl
theorem FieldAt_vptr {S : TypeId} {j off : Nat} {r : AV} {p : List Nat} {K : AV → Prop} : FieldAt P S j (.vptr r off p) K = Got (fAt P S j) fun o => K (.vptr r (off + o) (p ++ [j])) := by
  unfold FieldAt fAt
  split
  · rename_i fs h
    cases fs[j]? with
    | none => rfl
    | some f =>
      simp only [Got, Option.bind_some]
      cases szOf P f.type with
      | none => rfl
      | some k => by_cases hk : k = 0 <;> simp [Need, hk]
  · rfl
theorem Do_fieldAddr {S : TypeId} {x : Operand} {j : Nat} : Do P Z ⟨d, .fieldAddr S x j, ty, pos, af, g⟩ ⟨n, t, H, m⟩ K = Got (St.ev ⟨n, t, H, m⟩ x) fun a => FieldAt P S j a fun v => K ⟨v, [], [], []⟩ m := by
  simp only [Do, Got, FieldAt, Need]
  cases h : St.ev ⟨n, t, H, m⟩ x with
  | none =>
    cases h1 : P.underlying S with
    | none => rfl
    | some D =>
      cases D <;> try rfl
      rename_i fs
      simp only
      cases fs[j]? with
      | none => rfl
      | some f => simp only; cases szOf P f.type <;> rfl
  | some u =>
    cases h1 : P.underlying S with
    | none => rfl
    | some D =>
      cases D <;> try rfl
      rename_i fs
      simp only
      cases fs[j]? with
      | none => rfl
      | some f =>
        simp only
        cases szOf P f.type with
        | none => rfl
        | some k => cases u <;> rfl

theorem Do_indexAddr {T : TypeId} {x y : Operand} : Do P Z ⟨d, .indexAddr T x y, ty, pos, af, g⟩ ⟨n, t, H, m⟩ K = DoIndexAddr P T (St.ev ⟨n, t, H, m⟩ x) (St.ev ⟨n, t, H, m⟩ y) fun v => K ⟨v, [], [], []⟩ m := rfl
theorem Do_index {T : TypeId} {x y : Operand} : Do P Z ⟨d, .index T x y, ty, pos, af, g⟩ ⟨n, t, H, m⟩ K = DoIndex P T (St.ev ⟨n, t, H, m⟩ x) (St.ev ⟨n, t, H, m⟩ y) fun v => K ⟨v, [], [], []⟩ m := rfl
theorem Do_binOp {op : BinOp} {T T' : TypeId} {x y : Operand} : Do P Z ⟨d, .binOp op T x y T', ty, pos, af, g⟩ ⟨n, t, H, m⟩ K = DoBin P op T (St.ev ⟨n, t, H, m⟩ x) (St.ev ⟨n, t, H, m⟩ y) fun v => K ⟨v, [], [], []⟩ m := rfl
theorem Do_slice {T : TypeId} {x : Operand} {lo hi : Option Operand} : Do P Z ⟨d, .slice T x lo hi none, ty, pos, af, g⟩ ⟨n, t, H, m⟩ K = DoSlice P T (St.ev ⟨n, t, H, m⟩ x) lo hi ⟨n, t, H, m⟩ K := rfl
theorem Do_convert {S D : TypeId} {x : Operand} : Do P Z ⟨d, .convert S D x, ty, pos, af, g⟩ ⟨n, t, H, m⟩ K = DoConvert P S D (St.ev ⟨n, t, H, m⟩ x) ⟨n, t, H, m⟩ K := rfl
theorem Do_append {x y : Operand} {T1 T2 : TypeId} : Do P Z ⟨d, .call { callee := .builtin .append, args := #[x, y], argTypes := #[T1, T2] }, ty, pos, af, g⟩ ⟨n, t, H, m⟩ K = DoAppend P Z T1 T2 (St.ev ⟨n, t, H, m⟩ x) (St.ev ⟨n, t, H, m⟩ y) ⟨n, t, H, m⟩ K := rfl
theorem Do_copy {x y : Operand} {T1 T2 : TypeId} : Do P Z ⟨d, .call { callee := .builtin .copy, args := #[x, y], argTypes := #[T1, T2] }, ty, pos, af, g⟩ ⟨n, t, H, m⟩ K = DoCopy P T1 (St.ev ⟨n, t, H, m⟩ x) (St.ev ⟨n, t, H, m⟩ y) ⟨n, t, H, m⟩ K := rfl
def CallI (P : Program) (o : Oper) (s : St) (K : Eff → Nat → Prop) (_ : Inert K := ⟨()⟩) : Prop := CallTo P o s K
theorem Do_call {f : Operand} {as : Array Operand} {ts : Array TypeId} : Do P Z ⟨d, .call { callee := .value f, args := as, argTypes := ts }, ty, pos, af, g⟩ ⟨n, t, H, m⟩ K = CallI P ⟨d, .call { callee := .value f, args := as, argTypes := ts }, ty, pos, af, g⟩ ⟨n, t, H, m⟩ K := rfl
theorem Do_build {T : TypeId} {ps : Array (Nat × Operand)} : Do P Z ⟨d, .build T ps, ty, pos, af, g⟩ ⟨n, t, H, m⟩ K = DoBuild P Z T (partsAV (St.ev ⟨n, t, H, m⟩) ps.toList) fun v => K ⟨v, [], [], []⟩ m := rfl

def unAV (op : UnOp) (u : AV) : Option AV := match u with
  | .bool b => match op with
    | .not => some (.bool (!b))
    | _ => none
  | .int k n => unI op k n
  | _ => none
theorem unAV_not (b : Bool) : unAV .not (.bool b) = some (.bool (!b)) := rfl
theorem Do_unOp {op : UnOp} {T : TypeId} {x : Operand} : Do P Z ⟨d, .unOp op T x, ty, pos, af, g⟩ ⟨n, t, H, m⟩ K = Got (St.ev ⟨n, t, H, m⟩ x) fun u => Got (unAV op u) fun v => K ⟨v, [], [], []⟩ m := by
  simp only [Do, Got, unAV]
  cases h : St.ev ⟨n, t, H, m⟩ x with
  | none => rfl
  | some u =>
    cases u <;> try rfl
    · cases op <;> rfl
    · rename_i k i
      simp only
      cases unI op k i <;> rfl
theorem Do_nilCheck {x : Operand} : Do P Z ⟨d, .nilCheck x, ty, pos, af, g⟩ ⟨n, t, H, m⟩ K = Got (St.ev ⟨n, t, H, m⟩ x) fun u => match u with
    | .ptr nn off p => K ⟨.ptr nn off p, [], [], []⟩ m
    | _ => False := by
  simp only [Do, Got]
  cases h : St.ev ⟨n, t, H, m⟩ x with
  | none => rfl
  | some u => cases u <;> rfl
def tupAt (u : AV) (j : Nat) : Option AV := match u with
  | .tuple vs => match vs[j]? with
    | some (.tuple _) => none
    | r => r
  | _ => none
theorem tupAt_mk (vs : List AV) (j : Nat) : tupAt (.tuple vs) j = match vs[j]? with
    | some (.tuple _) => none
    | r => r := rfl
theorem Do_extract {x : Operand} {j : Nat} : Do P Z ⟨d, .extract x j, ty, pos, af, g⟩ ⟨n, t, H, m⟩ K = Got (St.ev ⟨n, t, H, m⟩ x) fun u => Got (tupAt u j) fun v => K ⟨v, [], [], []⟩ m := by
  simp only [Do, Got, tupAt]
  cases h : St.ev ⟨n, t, H, m⟩ x with
  | none => rfl
  | some u =>
    cases u <;> try rfl
    rename_i vs
    simp only
    cases vs[j]? with
    | none => rfl
    | some w => cases w <;> simp
def lenAV (P : Program) (T : TypeId) (u : AV) : Option Nat := match u with
  | .str t => match P.underlying T with
    | some .string => some t.size
    | _ => none
  | u => match P.underlying T with
    | some (.slice _) => slLen u
    | some (.array n _) => some n
    | _ => none
theorem Do_len {x : Operand} {T : TypeId} : Do P Z ⟨d, .call { callee := .builtin .len, args := #[x], argTypes := #[T] }, ty, pos, af, g⟩ ⟨n, t, H, m⟩ K = Got (St.ev ⟨n, t, H, m⟩ x) fun u => Got (lenAV P T u) fun k => K ⟨.int .i64 k, [], [], []⟩ m := by
  simp only [Do, Got, lenAV]
  cases h : St.ev ⟨n, t, H, m⟩ x with
  | none => rfl
  | some u =>
    cases u <;> simp only <;> cases h1 : P.underlying T with
    | none => simp
    | some D => cases D <;> simp [slLen]
def minAV (u v : AV) : Option AV := match u, v with
  | .int k i, .int k' j => if k = k' then some (.int k (if j < i then j else i)) else none
  | _, _ => none
def maxAV (u v : AV) : Option AV := match u, v with
  | .int k i, .int k' j => if k = k' then some (.int k (if i < j then j else i)) else none
  | _, _ => none
theorem minAV_int {k k' : IntKind} {i j : Int} : minAV (.int k i) (.int k' j) = if k = k' then some (.int k (if j < i then j else i)) else none := rfl
theorem maxAV_int {k k' : IntKind} {i j : Int} : maxAV (.int k i) (.int k' j) = if k = k' then some (.int k (if i < j then j else i)) else none := rfl
theorem Do_min {x y : Operand} {ts : Array TypeId} : Do P Z ⟨d, .call { callee := .builtin .min, args := #[x, y], argTypes := ts }, ty, pos, af, g⟩ ⟨n, t, H, m⟩ K = Got (St.ev ⟨n, t, H, m⟩ x) fun u => Got (St.ev ⟨n, t, H, m⟩ y) fun v => Got (minAV u v) fun r => K ⟨r, [], [], []⟩ m := by
  simp only [Do, Got, minAV]
  cases St.ev ⟨n, t, H, m⟩ x with
  | none => rfl
  | some u =>
    cases St.ev ⟨n, t, H, m⟩ y with
    | none => cases u <;> rfl
    | some v =>
      cases u <;> try rfl
      cases v <;> try rfl
      rename_i k i k' j
      simp only
      by_cases h : k = k'
      · subst h; simp
      · simp [h]
theorem Do_max {x y : Operand} {ts : Array TypeId} : Do P Z ⟨d, .call { callee := .builtin .max, args := #[x, y], argTypes := ts }, ty, pos, af, g⟩ ⟨n, t, H, m⟩ K = Got (St.ev ⟨n, t, H, m⟩ x) fun u => Got (St.ev ⟨n, t, H, m⟩ y) fun v => Got (maxAV u v) fun r => K ⟨r, [], [], []⟩ m := by
  simp only [Do, Got, maxAV]
  cases St.ev ⟨n, t, H, m⟩ x with
  | none => rfl
  | some u =>
    cases St.ev ⟨n, t, H, m⟩ y with
    | none => cases u <;> rfl
    | some v =>
      cases u <;> try rfl
      cases v <;> try rfl
      rename_i k i k' j
      simp only
      by_cases h : k = k'
      · subst h; simp
      · simp [h]
/-- The number that a value is. -/
def intAV (o : Option AV) : Option Int := match o with
  | some (.int _ i) => some i
  | _ => none
theorem intAV_int (k : IntKind) (i : Int) : intAV (some (.int k i)) = some i := rfl
/-- Of a slice type: the zero element, its width. -/
def elemS (P : Program) (Z : TypeId → Option AV) (T : TypeId) : Option (AV × Nat) := match P.underlying T with
  | some (.slice E) => (Z E).bind fun z => (szOf P E).bind fun wd => if z.size = wd then some (z, wd) else none
  | _ => none
/-- And its bytes. -/
def elemM (P : Program) (Z : TypeId → Option AV) (T : TypeId) : Option (AV × Nat × Nat) := match P.underlying T with
  | some (.slice E) => (Z E).bind fun z => (szOf P E).bind fun wd => (byOf P E).bind fun b => if z.size = wd then some (z, wd, b) else none
  | _ => none
theorem Do_buildSlice {T : TypeId} {k : Nat} {ps : Array (Nat × Operand)} : Do P Z ⟨d, .buildSlice T k ps, ty, pos, af, g⟩ ⟨n, t, H, m⟩ K = Got (elemS P Z T) fun e => Got (partsAV (St.ev ⟨n, t, H, m⟩) ps.toList) fun us =>
    Need (k * e.2 ≤ 2 ^ 24 ∧ PartsOk (fun i => some (i * e.2, e.2)) (List.replicate k e.1) us ∧ ∀ x, x ∈ us → x.2.layable = true) (K ⟨.sl m 0 [] 0 k k e.2, [], [], [(m, .cells (.agg (setParts (List.replicate k e.1) us)))]⟩ (m + 1)) := by
  simp only [Do, Got, elemS, Need]
  cases P.underlying T with
  | none => rfl
  | some D =>
    cases D <;> try rfl
    rename_i E
    simp only
    cases partsAV (St.ev ⟨n, t, H, m⟩) ps.toList with
    | none =>
      simp only
      cases Z E with
      | none => rfl
      | some z => cases szOf P E with
        | none => rfl
        | some wd => by_cases h : z.size = wd <;> simp [h]
    | some us =>
      simp only
      cases Z E with
      | none => rfl
      | some z => cases szOf P E with
        | none => rfl
        | some wd => by_cases h : z.size = wd <;> simp [h]
theorem Do_makeSlice {T : TypeId} {x y : Operand} : Do P Z ⟨d, .makeSlice T x y, ty, pos, af, g⟩ ⟨n, t, H, m⟩ K = Got (elemM P Z T) fun e => Got (intAV (St.ev ⟨n, t, H, m⟩ x)) fun l => Got (intAV (St.ev ⟨n, t, H, m⟩ y)) fun c =>
    Need (0 ≤ l ∧ l ≤ c ∧ (e.2.2 : Int) * c ≤ 140737488355328 ∧ c ≤ 9223372036854775807) (K ⟨.sl m 0 [] 0 l.toNat c.toNat e.2.1, [], [], [(m, .cells (.agg (List.replicate c.toNat e.1)))]⟩ (m + 1)) := by
  simp only [Do, Got, elemM, Need, intAV]
  cases P.underlying T with
  | none => rfl
  | some D =>
    cases D <;> try rfl
    rename_i E
    simp only
    generalize St.ev ⟨n, t, H, m⟩ x = a
    generalize St.ev ⟨n, t, H, m⟩ y = b
    cases a with
    | none => (generalize ((Z E).bind fun z => (szOf P E).bind fun wd => (byOf P E).bind fun b => if z.size = wd then some (z, wd, b) else none) = A; cases A <;> rfl)
    | some u =>
      cases u <;> try (generalize ((Z E).bind fun z => (szOf P E).bind fun wd => (byOf P E).bind fun b => if z.size = wd then some (z, wd, b) else none) = A; cases A <;> rfl)
      cases b with
      | none => (generalize ((Z E).bind fun z => (szOf P E).bind fun wd => (byOf P E).bind fun b => if z.size = wd then some (z, wd, b) else none) = A; cases A <;> rfl)
      | some v =>
        cases v <;> try (generalize ((Z E).bind fun z => (szOf P E).bind fun wd => (byOf P E).bind fun b => if z.size = wd then some (z, wd, b) else none) = A; cases A <;> rfl)
        simp only
        cases Z E with
        | none => simp only [Option.bind_none]
        | some z => cases szOf P E with
          | none => simp only [Option.bind_none, Option.bind_some]
          | some wd => cases byOf P E with
            | none => simp only [Option.bind_none, Option.bind_some]
            | some b => by_cases h : z.size = wd <;> simp [h]
end
end
section
variable {P : Program} {Z : TypeId → Option AV} {d : Option Tmp} {ty : TypeId} {pos : String} {af : Array Edge} {g : Option (Nat × Bool)} {s : St} {K : Eff → Nat → Prop}
variable {n : Nat} {t : Env} {H : Heap} {m : Nat}
theorem DoBin_int {op : BinOp} {T : TypeId} {k k' : IntKind} {a b : Int} {K : AV → Prop} : DoBin P op T (some (.int k a)) (some (.int k' b)) K = Need (k = k' ∨ shifty op = true) (Got (binI op k a b) K) := by
  simp only [DoBin, Need, Got]
  cases binI op k a b <;> rfl
theorem DoBin_bool {op : BinOp} {T : TypeId} {a b : Bool} {K : AV → Prop} : DoBin P op T (some (.bool a)) (some (.bool b)) K = Got (isEq op) fun ng => Need (P.underlying T = some .bool) (K (.bool (if ng then a != b else a == b))) := by
  simp only [DoBin, Need, Got]
  cases isEq op <;> rfl
theorem DoBin_agg {op : BinOp} {T : TypeId} {a b : List AV} {K : AV → Prop} : DoBin P op T (some (.agg a)) (some (.agg b)) K = Got (isEq op) fun ng => Got (flatKinds P 40 T) fun ks => Got (cellsEq (AV.flatL a) (AV.flatL b)) fun r =>
    Need (P.eqGuardType P.depth T = false ∧ (P.underlying T).map isAggD = some true ∧ (AV.flatL a).map kindOf = ks.map some) (K (.bool (if ng then !r else r))) := by
  simp only [DoBin, Need, Got]
  cases isEq op <;> cases flatKinds P 40 T <;> cases cellsEq (AV.flatL a) (AV.flatL b) <;> rfl
end
section
theorem CallTo.pure {P : Program} {o : Oper} {s : St} {K : Eff → Nat → Prop} {f : FuncId} {as : Array Operand} {ts : Array TypeId} {args : List AV} {v : AV}
    (ho : o.op = .call { callee := .value (.func f), args := as, argTypes := ts }) (hok : fnOk P f = true) (hargs : as.toList.map s.ev = args.map some) (hta : ∀ x, x ∈ args → ∀ vs, x ≠ .tuple vs)
    (hc : ACall P f args [] v []) (hK : K ⟨v, [], [], []⟩ s.nx) : CallTo P o s K :=
  ⟨_, _, ls_call (caps := []) ho rfl hok hargs hta (fun x hx => by simp at hx) (by simpa using hc) (fun n b h => by simp [Heap.get] at h), effOk_val _ _, hK⟩
theorem CallTo.new {P : Program} {o : Oper} {s : St} {K : Eff → Nat → Prop} {f : FuncId} {as : Array Operand} {ts : Array TypeId} {args : List AV} {v : AV} {b : ABlk}
    (ho : o.op = .call { callee := .value (.func f), args := as, argTypes := ts }) (hok : fnOk P f = true) (hargs : as.toList.map s.ev = args.map some) (hta : ∀ x, x ∈ args → ∀ vs, x ≠ .tuple vs)
    (hc : ACall P f args [] v [(s.nx, b)]) (hK : K ⟨v, [], [], [(s.nx, b)]⟩ (s.nx + 1)) : CallTo P o s K :=
  ⟨_, _, ls_call (caps := []) ho rfl hok hargs hta (fun x hx => by simp at hx) (by simpa using hc) (fun n b h => by simp [Heap.get] at h), effOk_new _ _ _, hK⟩
end
end Go.Proofs.Ytbhhbadeabhfcaa
