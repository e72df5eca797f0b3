/- The evaluator: what an operation comes to, as a proposition that is simplified. -/
import Derived.Test.YtbhhbadeabhfcaaF20
set_option linter.unusedVariables false
set_option linter.unusedSimpArgs false
namespace Go.Proofs.Ytbhhbadeabhfcaa
open Go Go.RowKit

def byOf (P : Program) (T : TypeId) : Option Nat := (P.info? T).map (·.bytes)

def partsAV (ev : Operand → Option AV) : List (Nat × Operand) → Option (List (Nat × AV))
  | [] => some []
  | (i, x) :: r => match ev x, partsAV ev r with
    | some v, some us => some ((i, v) :: us)
    | _, _ => none

/-- The elements that a slice or a text hands out. -/
def Src (H : Nat → Option ABlk) (wd : Nat) (u : AV) (K : List Nat → List AV → Prop) : Prop :=
  match u with
  | .nilsl => K [] []
  | .vsl es len => (len ≤ es.length ∧ Unif wd es) ∧ K [] (es.take len)
  | .sl n off p i len cap wd' => match H n with
    | some (.cells root) => match root.proj p with
      | some (.agg es) => (wd' = wd ∧ off = root.offOf p + i * wd ∧ i + len ≤ es.length ∧ Unif wd es) ∧ K [n] ((es.drop i).take len)
      | _ => False
    | _ => False
  | .str s => wd = 1 ∧ K [] (s.data.toList.map byteAV)
  | _ => False

theorem Src.sound {H : Nat → Option ABlk} {wd : Nat} {u : AV} {K : List Nat → List AV → Prop} (h : Src H wd u K) : ∃ rd xs, IsSrc H wd u rd xs ∧ K rd xs := by
  unfold Src at h
  split at h
  · exact ⟨_, _, .nil, h⟩
  · exact ⟨_, _, .vsl _ _ h.1.1 h.1.2, h.2⟩
  · split at h
    · split at h
      · obtain ⟨⟨rfl, h1, h2, h3⟩, h4⟩ := h
        exact ⟨_, _, .sl _ _ _ _ _ _ _ _ ‹_› ‹_› h1 h2 h3, h4⟩
      · exact h.elim
    · exact h.elim
  · exact ⟨_, _, .str _ h.1, h.2⟩
  · exact h.elim

/-- A bound of a slice expression. -/
def bndAV (ev : Operand → Option AV) (y : Option Operand) (d : Int) : Option Int := match y with
  | none => some d
  | some y => match ev y with
    | some (.int _ l) => some l
    | _ => none

theorem bndAV_spec {ev : Operand → Option AV} {y : Option Operand} {d l : Int} (h : bndAV ev y d = some l) : Bnd ev y l d := by
  unfold bndAV at h
  unfold Bnd
  split at h
  · simp only [Option.some.injEq] at h; exact h.symm
  · split at h
    · simp only [Option.some.injEq] at h; subst h; exact ⟨_, ‹_›⟩
    · cases h

/-- A call of a function: left to a contract. -/
def CallTo (P : Program) (o : Oper) (s : St) (K : Eff → Nat → Prop) : Prop := ∃ e nx, LS P o s.ev (Heap.get s.H) e ∧ EffOk s e nx ∧ K e nx

def isEq : BinOp → Option Bool
  | .eql => some false
  | .neq => some true
  | _ => none

def DoBin (P : Program) (op : BinOp) (T : TypeId) (x y : Option AV) (K : AV → Prop) : Prop :=
  match x, y with
  | some (.int k a), some (.int k' b) => (k = k' ∨ shifty op = true) ∧ match binI op k a b with | some v => K v | none => False
  | some (.str a), some (.str b) => match binS op a b with | some v => K v | none => False
  | some (.bool a), some (.bool b) => match isEq op with
    | some ng => P.underlying T = some .bool ∧ K (.bool (if ng then a != b else a == b))
    | none => False
  | some (.agg a), some (.agg b) => match isEq op, flatKinds P 40 T, cellsEq (AV.flatL a) (AV.flatL b) with
    | some ng, some ks, some r => (P.eqGuardType P.depth T = false ∧ (P.underlying T).map isAggD = some true ∧ (AV.flatL a).map kindOf = ks.map some) ∧ K (.bool (if ng then !r else r))
    | _, _, _ => False
  | some u, some u' => match isEq op, isNilPtr u, isNilPtr u', P.underlying T with
    | some ng, some p, some q, some (.pointer _) => (p = true ∨ q = true) ∧ K (.bool (if ng then !(p && q) else (p && q)))
    | _, _, _, _ => False
  | _, _ => False

def DoAppend (P : Program) (Z : TypeId → Option AV) (T1 T2 : TypeId) (x y : Option AV) (s : St) (K : Eff → Nat → Prop) : Prop :=
  match P.underlying T1, x, y with
  | some (.slice E), some u, some w => match szOf P E, byOf P E, Z E, P.underlying T2 with
    | some wd, some by_, some z, some d => (z.size = wd ∧ (match d with | .slice _ | .string => True | _ => False)) ∧ Src (Heap.get s.H) wd w fun rd xs =>
      match u with
      | .nilsl => (xs.length * by_ ≤ 140737488355328 ∧ xs.length ≤ 9223372036854775807) ∧ if xs.length = 0 then K ⟨.nilsl, rd, [], []⟩ s.nx else K ⟨.sl s.nx 0 [] 0 xs.length xs.length wd, rd, [], [(s.nx, .cells (.agg xs))]⟩ (s.nx + 1)
      | .sl n off [] i len cap wd' => match Heap.get s.H n with
        | some (.cells (.agg es)) => (wd' = wd ∧ off = i * wd ∧ i + len ≤ es.length ∧ Unif wd es ∧ n ∉ rd ∧ n ≠ s.nx ∧ (len + xs.length) * by_ ≤ 140737488355328 ∧ len + xs.length ≤ 9223372036854775807) ∧
            K ⟨.sl s.nx 0 [] 0 (len + xs.length) (len + xs.length) wd, rd, [n], [(s.nx, .cells (.agg ((es.drop i).take len ++ xs)))]⟩ (s.nx + 1)
        | _ => False
      | _ => False
    | _, _, _, _ => False
  | _, _, _ => False

def DoCopy (P : Program) (T1 : TypeId) (x y : Option AV) (s : St) (K : Eff → Nat → Prop) : Prop :=
  match P.underlying T1, x, y with
  | some (.slice E), some (.sl n off p i len cap wd), some w => match szOf P E, Heap.get s.H n with
    | some wd', some (.cells root) => match root.proj p with
      | some (.agg es) => (wd' = wd ∧ off = root.offOf p + i * wd ∧ i + len ≤ es.length ∧ Unif wd es) ∧ Src (Heap.get s.H) wd w fun rd xs =>
          n ∉ rd ∧ K ⟨.int .i64 (Nat.min xs.length len : Nat), rd, [n], [(n, .cells (root.upd p (.agg (es.take i ++ xs.take (Nat.min xs.length len) ++ es.drop (i + Nat.min xs.length len)))))]⟩ s.nx
      | _ => False
    | _, _ => False
  | _, _, _ => False

def DoSlice (P : Program) (T : TypeId) (x : Option AV) (lo hi : Option Operand) (s : St) (K : Eff → Nat → Prop) : Prop :=
  match x with
  | some (.str t) => match bndAV s.ev lo 0, bndAV s.ev hi t.size with
    | some l, some h => (P.underlying T = some .string ∧ 0 ≤ l ∧ l ≤ h ∧ h ≤ t.size) ∧ K ⟨.str (t.extract l.toNat h.toNat), [], [], []⟩ s.nx
    | _, _ => False
  | some .nilsl => match bndAV s.ev lo 0, bndAV s.ev hi 0, P.underlying T with
    | some l, some h, some (.slice E) => (l = 0 ∧ h = 0 ∧ (szOf P E).isSome = true) ∧ K ⟨.nilsl, [], [], []⟩ s.nx
    | _, _, _ => False
  | some (.vsl es len) => match bndAV s.ev lo 0, bndAV s.ev hi len, P.underlying T with
    | some l, some h, some (.slice E) => match szOf P E with
      | some wd => (Unif wd es ∧ 0 ≤ l ∧ l ≤ h ∧ h ≤ es.length) ∧ K ⟨.vsl (es.drop l.toNat) (h.toNat - l.toNat), [], [], []⟩ s.nx
      | none => False
    | _, _, _ => False
  | some (.sl n off p i len cap wd) => match bndAV s.ev lo 0, bndAV s.ev hi len, P.underlying T with
    | some l, some h, some (.slice E) => (szOf P E = some wd ∧ 0 ≤ l ∧ l ≤ h ∧ h ≤ cap) ∧ K ⟨.sl n (off + l.toNat * wd) p (i + l.toNat) (h.toNat - l.toNat) (cap - l.toNat) wd, [], [], []⟩ s.nx
    | _, _, _ => False
  | some (.ptr n off p) => match P.underlying T, Heap.get s.H n with
    | some (.array len E), some (.cells root) => match bndAV s.ev lo 0, bndAV s.ev hi len, szOf P E, root.proj p with
      | some l, some h, some wd, some (.agg es) => (root.offOf p = off ∧ AV.sizeL es = len * wd ∧ 0 ≤ l ∧ l ≤ h ∧ h ≤ len) ∧ K ⟨.sl n (off + l.toNat * wd) p l.toNat (h.toNat - l.toNat) (len - l.toNat) wd, [n], [], []⟩ s.nx
      | _, _, _, _ => False
    | _, _ => False
  | _ => False

def DoIndexAddr (P : Program) (T : TypeId) (x y : Option AV) (K : AV → Prop) : Prop :=
  match x, y with
  | some (.sl n off p i len cap wd), some (.int _ q) => match P.underlying T with
    | some (.slice E) => (szOf P E = some wd ∧ 0 ≤ q ∧ q < len) ∧ K (.ptr n (off + q.toNat * wd) (p ++ [i + q.toNat]))
    | _ => False
  | some (.vsl es len), some (.int _ q) => match P.underlying T with
    | some (.slice E) => match szOf P E with
      | some wd => (0 ≤ q ∧ q < len) ∧ K (.vptr (.agg es) (q.toNat * wd) [q.toNat])
      | none => False
    | _ => False
  | some (.ptr n off p), some (.int _ q) => match P.underlying T with
    | some (.array len E) => match szOf P E with
      | some wd => (0 ≤ q ∧ q < len) ∧ K (.ptr n (off + q.toNat * wd) (p ++ [q.toNat]))
      | none => False
    | _ => False
  | _, _ => False

def DoIndex (P : Program) (T : TypeId) (x y : Option AV) (K : AV → Prop) : Prop :=
  match x, y with
  | some (.str t), some (.int _ q) => (P.underlying T = some .string ∧ 0 ≤ q ∧ q < t.size) ∧ K (.int .u8 (byteAt t q))
  | some (.agg vs), some (.int _ q) => match P.underlying T with
    | some (.array n E) => match szOf P E, vs[q.toNat]? with
      | some wd, some u => (0 ≤ q ∧ q < n ∧ q.toNat * wd = AV.sizeL (vs.take q.toNat) ∧ LoadOk P E u) ∧ K u
      | _, _ => False
    | _ => False
  | _, _ => False

def DoConvert (P : Program) (S D : TypeId) (x : Option AV) (s : St) (K : Eff → Nat → Prop) : Prop :=
  match x with
  | some (.int k n) => match P.underlying S, P.underlying D with
    | some _, some (.int k') => K ⟨.int k' (k'.wrap n), [], [], []⟩ s.nx
    | _, _ => False
  | some (.str t) => False
  | some u => match P.underlying S, P.underlying D with
    | some (.slice E), some .string => P.underlying E = some (.int .u8) ∧ Src (Heap.get s.H) 1 u fun rd xs => match bytesOf xs with
      | some bs => K ⟨.str ⟨bs.toArray⟩, rd, [], []⟩ s.nx
      | none => False
    | _, _ => False
  | none => False

def DoBuild (P : Program) (Z : TypeId → Option AV) (T : TypeId) (us : Option (List (Nat × AV))) (K : AV → Prop) : Prop :=
  match P.underlying T, Z T, us with
  | some (.struct fs), some (.agg zs), some us => ((∀ f, f ∈ fs.toList → (szOf P f.type).isSome = true) ∧ PartsOk (fieldPlaces P fs) zs us ∧ ∀ x, x ∈ us → x.2.layable = true) ∧ K (.agg (setParts zs us))
  | some (.array n E), some (.agg zs), some us => match szOf P E with
    | some sz => (PartsOk (fun i => some (i * sz, sz)) zs us ∧ ∀ x, x ∈ us → x.2.layable = true) ∧ K (.agg (setParts zs us))
    | none => False
  | _, _, _ => False

/-- What an operation comes to. -/
def Do (P : Program) (Z : TypeId → Option AV) (o : Oper) (s : St) (K : Eff → Nat → Prop) : Prop :=
  match o.op with
  | .move x | .assign x => match s.ev x with
    | some v => K ⟨v, [], [], []⟩ s.nx
    | none => False
  | .pick c a b => match s.ev c with
    | some (.bool t) => match s.ev (if t then a else b) with
      | some v => K ⟨v, [], [], []⟩ s.nx
      | none => False
    | _ => False
  | .alloc T => match Z T with
    | some z => K ⟨.ptr s.nx 0 [], [], [], [(s.nx, .cells z)]⟩ (s.nx + 1)
    | none => False
  | .box T x => match s.ev x with
    | some u => u.layable = true ∧ K ⟨.ptr s.nx 0 [], [], [], [(s.nx, .cells u)]⟩ (s.nx + 1)
    | none => False
  | .load T x => match s.ev x with
    | some (.ptr n off p) => match Heap.get s.H n with
      | some (.cells root) => match root.proj p with
        | some u => (root.offOf p = off ∧ LoadOk P T u) ∧ K ⟨u, [n], [], []⟩ s.nx
        | none => False
      | _ => False
    | some (.vptr root off p) => match root.proj p with
      | some u => (root.offOf p = off ∧ LoadOk P T u) ∧ K ⟨u, [], [], []⟩ s.nx
      | none => False
    | _ => False
  | .store T x y => match s.ev x, s.ev y with
    | some (.ptr n off p), some u => match Heap.get s.H n with
      | some (.cells root) => match root.proj p with
        | some old => (root.offOf p = off ∧ u.layable = true ∧ u.size = old.size ∧ szOf P T = some u.size) ∧ K ⟨.undef, [], [n], [(n, .cells (root.upd p u))]⟩ s.nx
        | none => False
      | _ => False
    | _, _ => False
  | .fieldAddr S x j => match P.underlying S with
    | some (.struct fs) => match fs[j]? with
      | some f => match szOf P f.type, s.ev x with
        | some k, some (.ptr n off p) => k ≠ 0 ∧ K ⟨.ptr n (off + f.offset) (p ++ [j]), [], [], []⟩ s.nx
        | some k, some (.vptr root off p) => k ≠ 0 ∧ K ⟨.vptr root (off + f.offset) (p ++ [j]), [], [], []⟩ s.nx
        | _, _ => False
      | none => False
    | _ => False
  | .field S x j => match P.underlying S, s.ev x with
    | some (.struct fs), some (.agg vs) => match fs[j]?, vs[j]? with
      | some f, some u => (f.offset = AV.sizeL (vs.take j) ∧ LoadOk P f.type u) ∧ K ⟨u, [], [], []⟩ s.nx
      | _, _ => False
    | _, _ => False
  | .indexAddr T x y => DoIndexAddr P T (s.ev x) (s.ev y) fun v => K ⟨v, [], [], []⟩ s.nx
  | .index T x y => DoIndex P T (s.ev x) (s.ev y) fun v => K ⟨v, [], [], []⟩ s.nx
  | .slice T x lo hi none => DoSlice P T (s.ev x) lo hi s K
  | .binOp op T x y _ => DoBin P op T (s.ev x) (s.ev y) fun v => K ⟨v, [], [], []⟩ s.nx
  | .unOp op _ x => match s.ev x with
    | some (.bool b) => match op with
      | .not => K ⟨.bool (!b), [], [], []⟩ s.nx
      | _ => False
    | some (.int k n) => match unI op k n with
      | some v => K ⟨v, [], [], []⟩ s.nx
      | none => False
    | _ => False
  | .convert S D x => DoConvert P S D (s.ev x) s K
  | .nilCheck x => match s.ev x with
    | some (.ptr n off p) => K ⟨.ptr n off p, [], [], []⟩ s.nx
    | _ => False
  | .extract x j => match s.ev x with
    | some (.tuple vs) => match vs[j]? with
      | some u => (∀ us, u ≠ .tuple us) ∧ K ⟨u, [], [], []⟩ s.nx
      | none => False
    | _ => False
  | .build T ps => DoBuild P Z T (partsAV s.ev ps.toList) fun v => K ⟨v, [], [], []⟩ s.nx
  | .buildSlice T n ps => match P.underlying T, partsAV s.ev ps.toList with
    | some (.slice E), some us => match Z E, szOf P E with
      | some z, some wd => (z.size = wd ∧ n * wd ≤ 2 ^ 24 ∧ PartsOk (fun i => some (i * wd, wd)) (List.replicate n z) us ∧ ∀ x, x ∈ us → x.2.layable = true) ∧ K ⟨.sl s.nx 0 [] 0 n n wd, [], [], [(s.nx, .cells (.agg (setParts (List.replicate n z) us)))]⟩ (s.nx + 1)
      | _, _ => False
    | _, _ => False
  | .makeSlice T x y => match P.underlying T, s.ev x, s.ev y with
    | some (.slice E), some (.int _ l), some (.int _ c) => match Z E, szOf P E, byOf P E with
      | some z, some wd, some by_ => (z.size = wd ∧ 0 ≤ l ∧ l ≤ c ∧ (by_ : Int) * c ≤ 140737488355328 ∧ c ≤ 9223372036854775807) ∧ K ⟨.sl s.nx 0 [] 0 l.toNat c.toNat wd, [], [], [(s.nx, .cells (.agg (List.replicate c.toNat z)))]⟩ (s.nx + 1)
      | _, _, _ => False
    | _, _, _ => False
  | .call c => match c with
    | { callee := .builtin .len, args := ⟨[x]⟩, argTypes := ⟨[T]⟩ } => match s.ev x with
      | some (.str t) => P.underlying T = some .string ∧ K ⟨.int .i64 t.size, [], [], []⟩ s.nx
      | some u => match P.underlying T with
        | some (.slice _) => match slLen u with
          | some n => K ⟨.int .i64 n, [], [], []⟩ s.nx
          | none => False
        | some (.array n _) => K ⟨.int .i64 n, [], [], []⟩ s.nx
        | _ => False
      | none => False
    | { callee := .builtin .append, args := ⟨[x, y]⟩, argTypes := ⟨[T1, T2]⟩ } => DoAppend P Z T1 T2 (s.ev x) (s.ev y) s K
    | { callee := .builtin .copy, args := ⟨[x, y]⟩, argTypes := ⟨[T1, _]⟩ } => DoCopy P T1 (s.ev x) (s.ev y) s K
    | { callee := .builtin .min, args := ⟨[x, y]⟩, argTypes := _ } => match s.ev x, s.ev y with
      | some (.int k m), some (.int k' n) => k = k' ∧ K ⟨.int k (if n < m then n else m), [], [], []⟩ s.nx
      | _, _ => False
    | { callee := .builtin .max, args := ⟨[x, y]⟩, argTypes := _ } => match s.ev x, s.ev y with
      | some (.int k m), some (.int k' n) => k = k' ∧ K ⟨.int k (if m < n then n else m), [], [], []⟩ s.nx
      | _, _ => False
    | { callee := .value _, .. } => CallTo P o s K
    | _ => False
  | _ => False

section
variable {P : Program} {Z : TypeId → Option AV} {o : Oper} {s : St} {K : Eff → Nat → Prop}

theorem effOk_val (v : AV) (rd : List Nat) : EffOk s ⟨v, rd, [], []⟩ s.nx := ⟨Nat.le_refl _, fun n x h => by simp [Heap.get] at h, fun n h => by simp at h⟩
theorem effOk_new (v : AV) (rd : List Nat) (b : ABlk) : EffOk s ⟨v, rd, [], [(s.nx, b)]⟩ (s.nx + 1) :=
  ⟨by omega, fun n x h _ => by
    simp only [Heap.get] at h
    by_cases hn : n = s.nx
    · subst hn; omega
    · simp [hn] at h, fun n h => by simp at h⟩
theorem effOk_write (v : AV) (rd : List Nat) {n : Nat} {b0 : ABlk} (b : ABlk) (h : Heap.get s.H n = some b0) : EffOk s ⟨v, rd, [n], [(n, b)]⟩ s.nx :=
  ⟨Nat.le_refl _, fun m x hm hw => by
    simp only [Heap.get] at hm
    by_cases hn : m = n
    · subst hn; exact absurd (by simp) hw
    · simp [hn] at hm, fun m hm => by simp at hm; subst hm; exact ⟨_, h⟩⟩
theorem effOk_move (v : AV) (rd : List Nat) {n : Nat} {b0 : ABlk} (b : ABlk) (h : Heap.get s.H n = some b0) : EffOk s ⟨v, rd, [n], [(s.nx, b)]⟩ (s.nx + 1) :=
  ⟨by omega, fun m x hm hw => by
    simp only [Heap.get] at hm
    by_cases hn : m = s.nx
    · subst hn; omega
    · simp [hn] at hm, fun m hm => by simp at hm; subst hm; exact ⟨_, h⟩⟩

theorem partsAV_spec {ev : Operand → Option AV} : ∀ {ps : List (Nat × Operand)} {us : List (Nat × AV)}, partsAV ev ps = some us → ps.map (fun x => (x.1, ev x.2)) = us.map (fun x => (x.1, some x.2))
  | [], us, h => by simp only [partsAV, Option.some.injEq] at h; subst h; rfl
  | (i, x) :: r, us, h => by
    simp only [partsAV] at h
    split at h
    · rename_i v us' h1 h2
      simp only [Option.some.injEq] at h
      subst h
      simp [h1, partsAV_spec h2]
    · cases h

theorem DoBin.sound {op : BinOp} {T T' : TypeId} {x y : Operand} {K : AV → Prop} (ho : o.op = .binOp op T x y T') (h : DoBin P op T (s.ev x) (s.ev y) K) : ∃ v, LS P o s.ev (Heap.get s.H) ⟨v, [], [], []⟩ ∧ K v := by
  unfold DoBin at h
  have eqop : ∀ {ng : Bool}, isEq op = some ng → op = if ng then .neq else .eql := by
    intro ng h; cases op <;> simp only [isEq, Option.some.injEq, reduceCtorEq] at h <;> subst h <;> rfl
  split at h
  · obtain ⟨h1, h2⟩ := h
    split at h2
    · exact ⟨_, ls_bin_int ho ‹_› ‹_› h1 ‹_›, h2⟩
    · exact h2.elim
  · split at h
    · exact ⟨_, ls_bin_str ho ‹_› ‹_› ‹_›, h⟩
    · exact h.elim
  · split at h
    · rename_i ng hng
      have := eqop hng
      subst this
      exact ⟨_, ls_eq_bool ho ‹_› ‹_› h.1, h.2⟩
    · exact h.elim
  · split at h
    · rename_i ng ks r hng hks hr
      have := eqop hng
      subst this
      exact ⟨_, ls_eq_agg ho ‹_› ‹_› hks h.1.1 h.1.2.1 h.1.2.2 hr, h.2⟩
    · exact h.elim
  · split at h
    · rename_i ng p q E hng hp hq hT
      have := eqop hng
      subst this
      exact ⟨_, ls_eq_ptr ho ‹_› ‹_› hT hp hq h.1, h.2⟩
    · exact h.elim
  · exact h.elim

theorem szOf_info {P : Program} {E wd by_ : Nat} (h1 : szOf P E = some wd) (h2 : byOf P E = some by_) : ∃ i, P.info? E = some i ∧ i.size = wd ∧ i.bytes = by_ := by
  unfold szOf at h1
  unfold byOf at h2
  cases hi : P.info? E with
  | none => simp [hi] at h1
  | some i => simp [hi] at h1 h2; exact ⟨i, rfl, h1, h2⟩

theorem DoAppend.sound (hZ : ∀ T z, Z T = some z → ZeroIs P T z) {T1 T2 : TypeId} {x y : Operand} (ho : o.op = .call { callee := .builtin .append, args := #[x, y], argTypes := #[T1, T2] }) (h : DoAppend P Z T1 T2 (s.ev x) (s.ev y) s K) :
    ∃ e nx, LS P o s.ev (Heap.get s.H) e ∧ EffOk s e nx ∧ K e nx := by
  unfold DoAppend at h
  split at h
  · rename_i E u w hT hx hy
    split at h
    · rename_i wd by_ z d h1 h2 h3 h4
      obtain ⟨⟨h5, h6⟩, h⟩ := h
      obtain ⟨rd, xs, hs, h⟩ := h.sound
      have he : ElemOk P T1 T2 E wd by_ := ⟨hT, ⟨d, h4, fun k hk => by subst hk; exact h6⟩, szOf_info h1 h2, ⟨z, hZ _ _ h3, h5⟩⟩
      split at h
      · obtain ⟨⟨h7, h8⟩, h⟩ := h
        split at h
        · exact ⟨_, _, ls_append_nil0 ho he hx hy hs ‹_›, effOk_val _ _, h⟩
        · exact ⟨_, _, ls_append_nil s.nx ho he hx hy hs (by omega) h7 h8, effOk_new _ _ _, h⟩
      · split at h
        · rename_i hH
          obtain ⟨⟨rfl, g1, g2, g3, g4, g5, g6, g7⟩, h⟩ := h
          exact ⟨_, _, ls_append_own s.nx ho he hx hH g1 g2 g3 hy hs g4 (Ne.symm g5) g6 g7, effOk_move _ _ _ hH, h⟩
        · exact h.elim
      · exact h.elim
    · exact h.elim
  · exact h.elim

theorem DoCopy.sound {T1 T2 : TypeId} {x y : Operand} (ho : o.op = .call { callee := .builtin .copy, args := #[x, y], argTypes := #[T1, T2] }) (h : DoCopy P T1 (s.ev x) (s.ev y) s K) :
    ∃ e nx, LS P o s.ev (Heap.get s.H) e ∧ EffOk s e nx ∧ K e nx := by
  unfold DoCopy at h
  split at h
  · rename_i E n off p i len cap wd w hT hx hy
    split at h
    · rename_i wd' root h1 h2
      split at h
      · rename_i es h3
        obtain ⟨⟨rfl, g1, g2, g3⟩, h⟩ := h
        obtain ⟨rd, xs, hs, h4, h⟩ := h.sound
        exact ⟨_, _, ls_copy ho hT h1 hx h2 h3 g1 g2 g3 hy hs h4, effOk_write _ _ _ h2, h⟩
      · exact h.elim
    · exact h.elim
  · exact h.elim

theorem ls_slice_str' {P : Program} {o : Oper} {ev : Operand → Option AV} {H : Nat → Option ABlk} {T : TypeId} {x : Operand} {lo hi : Option Operand} {s : ByteArray} {l h : Int} (ho : o.op = .slice T x lo hi none) (hx : ev x = some (.str s)) (hlo : Bnd ev lo l 0) (hhi : Bnd ev hi h s.size)
    (hT : P.underlying T = some .string) (h0 : 0 ≤ l) (h1 : l ≤ h) (h2 : h ≤ s.size) : LS P o ev H ⟨.str (s.extract l.toNat h.toNat), [], [], []⟩ := by
  cases lo with
  | none => cases hi with
    | none => exact ls_slice_str ho hx hlo hhi hT h0 h1 h2
    | some y => exact ls_slice_str ho hx hlo hhi hT h0 h1 h2
  | some z => cases hi with
    | none => exact ls_slice_str ho hx hlo hhi hT h0 h1 h2
    | some y => exact ls_slice_str ho hx hlo hhi hT h0 h1 h2

theorem DoSlice.sound {T : TypeId} {x : Operand} {lo hi : Option Operand} (ho : o.op = .slice T x lo hi none) (h : DoSlice P T (s.ev x) lo hi s K) : ∃ e nx, LS P o s.ev (Heap.get s.H) e ∧ EffOk s e nx ∧ K e nx := by
  unfold DoSlice at h
  split at h
  · rename_i t hx
    split at h
    · rename_i l hh hl hh'
      obtain ⟨⟨g1, g2, g3, g4⟩, h⟩ := h
      exact ⟨_, _, ls_slice_str' ho hx (bndAV_spec hl) (bndAV_spec hh') g1 g2 g3 g4, effOk_val _ _, h⟩
    · exact h.elim
  · rename_i hx
    split at h
    · rename_i l hh E hl hh' hT
      obtain ⟨⟨rfl, rfl, g3⟩, h⟩ := h
      obtain ⟨wd, hwd⟩ := Option.isSome_iff_exists.1 g3
      exact ⟨_, _, ls_slice_nil ho hx (bndAV_spec hl) (bndAV_spec hh') hT hwd, effOk_val _ _, h⟩
    · exact h.elim
  · rename_i es len hx
    split at h
    · rename_i l hh E hl hh' hT
      split at h
      · rename_i wd hwd
        obtain ⟨⟨g1, g2, g3, g4⟩, h⟩ := h
        exact ⟨_, _, ls_slice_vsl ho hx (bndAV_spec hl) (bndAV_spec hh') hT hwd g1 g2 g3 g4, effOk_val _ _, h⟩
      · exact h.elim
    · exact h.elim
  · rename_i n off p i len cap wd hx
    split at h
    · rename_i l hh E hl hh' hT
      obtain ⟨⟨g1, g2, g3, g4⟩, h⟩ := h
      exact ⟨_, _, ls_slice_sl ho hx (bndAV_spec hl) (bndAV_spec hh') hT g1 g2 g3 g4, effOk_val _ _, h⟩
    · exact h.elim
  · rename_i n off p hx
    split at h
    · rename_i len E root hT hH
      split at h
      · rename_i l hh wd es hl hh' hwd hp
        obtain ⟨⟨g1, g2, g3, g4, g5⟩, h⟩ := h
        exact ⟨_, _, ls_slice_arr ho hx (bndAV_spec hl) (bndAV_spec hh') hT hwd hH hp g1 g2 g3 g4 g5, effOk_val _ _, h⟩
      · exact h.elim
    · exact h.elim
  · exact h.elim

theorem DoIndexAddr.sound {T : TypeId} {x y : Operand} {K : AV → Prop} (ho : o.op = .indexAddr T x y) (h : DoIndexAddr P T (s.ev x) (s.ev y) K) : ∃ v, LS P o s.ev (Heap.get s.H) ⟨v, [], [], []⟩ ∧ K v := by
  unfold DoIndexAddr at h
  split at h
  · split at h
    · exact ⟨_, ls_indexAddr_sl ho ‹_› ‹_› ‹_› h.1.1 h.1.2.1 h.1.2.2, h.2⟩
    · exact h.elim
  · split at h
    · split at h
      · exact ⟨_, ls_indexAddr_vsl ho ‹_› ‹_› ‹_› ‹_› h.1.1 h.1.2, h.2⟩
      · exact h.elim
    · exact h.elim
  · split at h
    · split at h
      · exact ⟨_, ls_indexAddr_arr ho ‹_› ‹_› ‹_› ‹_› h.1.1 h.1.2, h.2⟩
      · exact h.elim
    · exact h.elim
  · exact h.elim

theorem DoIndex.sound {T : TypeId} {x y : Operand} {K : AV → Prop} (ho : o.op = .index T x y) (h : DoIndex P T (s.ev x) (s.ev y) K) : ∃ v, LS P o s.ev (Heap.get s.H) ⟨v, [], [], []⟩ ∧ K v := by
  unfold DoIndex at h
  split at h
  · exact ⟨_, ls_index_str ho ‹_› ‹_› h.1.1 h.1.2.1 h.1.2.2, h.2⟩
  · split at h
    · split at h
      · exact ⟨_, ls_index_arr ho ‹_› ‹_› ‹_› ‹_› h.1.1 h.1.2.1 ‹_› h.1.2.2.1 h.1.2.2.2, h.2⟩
      · exact h.elim
    · exact h.elim
  · exact h.elim

theorem DoConvert.sound {S D : TypeId} {x : Operand} (ho : o.op = .convert S D x) (h : DoConvert P S D (s.ev x) s K) : ∃ e nx, LS P o s.ev (Heap.get s.H) e ∧ EffOk s e nx ∧ K e nx := by
  unfold DoConvert at h
  split at h
  · split at h
    · exact ⟨_, _, ls_conv_int ho ‹_› ‹_› ‹_›, effOk_val _ _, h⟩
    · exact h.elim
  · exact h.elim
  · rename_i u hx1 hx2 hx
    split at h
    · rename_i E hS hD
      obtain ⟨hE, h⟩ := h
      obtain ⟨rd, xs, hs, h⟩ := h.sound
      split at h
      · exact ⟨_, _, ls_strof ho hx hs (fun t ht => by subst ht; exact hx2 t rfl) hS hD hE ‹_›, effOk_val _ _, h⟩
      · exact h.elim
    · exact h.elim
  · exact h.elim

theorem DoBuild.sound (hZ : ∀ T z, Z T = some z → ZeroIs P T z) {T : TypeId} {ps : Array (Nat × Operand)} {K : AV → Prop} (ho : o.op = .build T ps) (h : DoBuild P Z T (partsAV s.ev ps.toList) K) : ∃ v, LS P o s.ev (Heap.get s.H) ⟨v, [], [], []⟩ ∧ K v := by
  unfold DoBuild at h
  split at h
  · rename_i fs zs us hT hz hus
    exact ⟨_, ls_build_struct ho hT (hZ _ _ hz) (partsAV_spec hus) (fun f hf => h.1.1 f (by simpa using hf)) h.1.2.1 h.1.2.2, h.2⟩
  · rename_i n E zs us hT hz hus
    split at h
    · rename_i sz hE
      exact ⟨_, ls_build_array ho hT (hZ _ _ hz) hE (partsAV_spec hus) h.1.1 h.1.2, h.2⟩
    · exact h.elim
  · exact h.elim

theorem Do.sound (hZ : ∀ T z, Z T = some z → ZeroIs P T z) (h : Do P Z o s K) : ∃ e nx, LS P o s.ev (Heap.get s.H) e ∧ EffOk s e nx ∧ K e nx := by
  unfold Do at h
  split at h
  · rename_i x ho
    split at h
    · exact ⟨_, _, ls_move (.inl ho) ‹_›, effOk_val _ _, h⟩
    · exact h.elim
  · rename_i x ho
    split at h
    · exact ⟨_, _, ls_move (.inr ho) ‹_›, effOk_val _ _, h⟩
    · exact h.elim
  · rename_i c a b ho
    split at h
    · split at h
      · exact ⟨_, _, ls_pick ho ‹_› ‹_›, effOk_val _ _, h⟩
      · exact h.elim
    · exact h.elim
  · rename_i T ho
    split at h
    · exact ⟨_, _, ls_alloc s.nx ho (hZ _ _ ‹_›), effOk_new _ _ _, h⟩
    · exact h.elim
  · rename_i T x ho
    split at h
    · exact ⟨_, _, ls_box s.nx ho ‹_› h.1, effOk_new _ _ _, h.2⟩
    · exact h.elim
  · rename_i T x ho
    split at h
    · split at h
      · split at h
        · exact ⟨_, _, ls_load ho ‹_› ‹_› ‹_› h.1.1 h.1.2, effOk_val _ _, h.2⟩
        · exact h.elim
      · exact h.elim
    · split at h
      · exact ⟨_, _, ls_loadv ho ‹_› ‹_› h.1.1 h.1.2, effOk_val _ _, h.2⟩
      · exact h.elim
    · exact h.elim
  · rename_i T x y ho
    split at h
    · split at h
      · rename_i hH
        split at h
        · exact ⟨_, _, ls_store ho ‹_› ‹_› hH ‹_› h.1.1 h.1.2.1 h.1.2.2.1 h.1.2.2.2, effOk_write _ _ _ hH, h.2⟩
        · exact h.elim
      · exact h.elim
    · exact h.elim
  · rename_i S x j ho
    split at h
    · split at h
      · split at h
        · exact ⟨_, _, ls_fieldAddr ho ‹_› ‹_› ‹_› ‹_› h.1, effOk_val _ _, h.2⟩
        · exact ⟨_, _, ls_fieldAddrv ho ‹_› ‹_› ‹_› ‹_› h.1, effOk_val _ _, h.2⟩
        · exact h.elim
      · exact h.elim
    · exact h.elim
  · rename_i S x j ho
    split at h
    · split at h
      · exact ⟨_, _, ls_field ho ‹_› ‹_› ‹_› ‹_› h.1.1 h.1.2, effOk_val _ _, h.2⟩
      · exact h.elim
    · exact h.elim
  · rename_i T x y ho
    obtain ⟨v, h1, h2⟩ := DoIndexAddr.sound ho h
    exact ⟨_, _, h1, effOk_val _ _, h2⟩
  · rename_i T x y ho
    obtain ⟨v, h1, h2⟩ := DoIndex.sound ho h
    exact ⟨_, _, h1, effOk_val _ _, h2⟩
  · rename_i T x lo hi ho
    exact DoSlice.sound ho h
  · rename_i op T x y T' ho
    obtain ⟨v, h1, h2⟩ := DoBin.sound ho h
    exact ⟨_, _, h1, effOk_val _ _, h2⟩
  · rename_i op T x ho
    split at h
    · split at h
      · exact ⟨_, _, ls_not ho ‹_›, effOk_val _ _, h⟩
      · exact h.elim
    · split at h
      · exact ⟨_, _, ls_un_int ho ‹_› ‹_›, effOk_val _ _, h⟩
      · exact h.elim
    · exact h.elim
  · rename_i S D x ho
    exact DoConvert.sound ho h
  · rename_i x ho
    split at h
    · exact ⟨_, _, ls_nilCheck ho ‹_›, effOk_val _ _, h⟩
    · exact h.elim
  · rename_i x j ho
    split at h
    · split at h
      · exact ⟨_, _, ls_extract ho ‹_› ‹_› h.1, effOk_val _ _, h.2⟩
      · exact h.elim
    · exact h.elim
  · rename_i T ps ho
    obtain ⟨v, h1, h2⟩ := DoBuild.sound hZ ho h
    exact ⟨_, _, h1, effOk_val _ _, h2⟩
  · rename_i T n ps ho
    split at h
    · split at h
      · exact ⟨_, _, ls_buildSlice s.nx ho ‹_› (hZ _ _ ‹_›) h.1.1 ‹_› h.1.2.1 (partsAV_spec ‹_›) h.1.2.2.1 h.1.2.2.2, effOk_new _ _ _, h.2⟩
      · exact h.elim
    · exact h.elim
  · rename_i T x y ho
    split at h
    · split at h
      · rename_i z wd by_ g1 g2 g3
        obtain ⟨i, i1, i2, i3⟩ := szOf_info g2 g3
        exact ⟨_, _, ls_makeSlice s.nx ho ‹_› ‹_› ‹_› (hZ _ _ g1) h.1.1 i1 i2 h.1.2.1 h.1.2.2.1 (by rw [i3]; exact h.1.2.2.2.1) h.1.2.2.2.2, effOk_new _ _ _, h.2⟩
      · exact h.elim
    · exact h.elim
  · rename_i c ho
    split at h
    · split at h
      · exact ⟨_, _, ls_len_str ho ‹_› h.1, effOk_val _ _, h.2⟩
      · split at h
        · split at h
          · exact ⟨_, _, ls_len_sl ho ‹_› ‹_› ‹_›, effOk_val _ _, h⟩
          · exact h.elim
        · exact ⟨_, _, ls_len_arr ho ‹_› ‹_›, effOk_val _ _, h⟩
        · exact h.elim
      · exact h.elim
    · exact DoAppend.sound hZ ho h
    · exact DoCopy.sound ho h
    · split at h
      · obtain ⟨rfl, h⟩ := h
        exact ⟨_, _, ls_min (.inl rfl) ho ‹_› ‹_›, effOk_val _ _, by simpa using h⟩
      · exact h.elim
    · split at h
      · obtain ⟨rfl, h⟩ := h
        exact ⟨_, _, ls_min (.inr rfl) ho ‹_› ‹_›, effOk_val _ _, by simpa using h⟩
      · exact h.elim
    · exact h
    · exact h.elim
  · exact h.elim

/-- The operations of a region, one behind the other. -/
def BOps (P : Program) (Z : TypeId → Option AV) (all : List Oper) : List Oper → St → (St → Prop) → Prop
  | [], s, K => K s
  | o :: os, s, K => match o.guard with
    | none => Do P Z o s fun e nx => BOps P Z all os (s.app o.dst e nx) K
    | some (j, want) => match gdBool (((all[j]?).bind (·.dst)).bind (look s.t)) with
      | some b => if b = some want then Do P Z o s fun e nx => BOps P Z all os (s.app o.dst e nx) K else BOps P Z all os { s with t := Env.put s.t o.dst (.tuple []) } K
      | _ => False

theorem BOps.sound (hZ : ∀ T z, Z T = some z → ZeroIs P T z) {all : List Oper} {K : St → Prop} : ∀ {l : List Oper} {s : St}, BOps P Z all l s K → AOps P all l s K
  | [], s, h => h
  | o :: os, s, h => by
    simp only [BOps] at h
    simp only [AOps]
    cases hg : o.guard with
    | none =>
      simp only [hg] at h ⊢
      obtain ⟨e, nx, h1, h2, h3⟩ := Do.sound hZ h
      exact ⟨e, nx, h1, h2, BOps.sound hZ h3⟩
    | some jw =>
      obtain ⟨j, want⟩ := jw
      simp only [hg] at h ⊢
      split at h
      · rename_i b hb
        simp only [hb]
        by_cases hbw : b = some want
        · simp only [hbw, if_true] at h ⊢
          obtain ⟨e, nx, h1, h2, h3⟩ := Do.sound hZ h
          exact ⟨e, nx, h1, h2, BOps.sound hZ h3⟩
        · simp only [hbw, if_false] at h ⊢
          exact BOps.sound hZ h
      · exact h.elim

def BOpsD (P : Program) (Z : TypeId → Option AV) (all : List Oper) : List Oper → St → List Foot → (List Foot → St → Prop) → Prop
  | [], s, L, K => K L s
  | o :: os, s, L, K => match o.guard with
    | none => Do P Z o s fun e nx => BOpsD P Z all os (s.app o.dst e nx) (L ++ [e.foot]) K
    | some (j, want) => match gdBool (((all[j]?).bind (·.dst)).bind (look s.t)) with
      | some b => if b = some want then Do P Z o s fun e nx => BOpsD P Z all os (s.app o.dst e nx) (L ++ [e.foot]) K else BOpsD P Z all os { s with t := Env.put s.t o.dst (.tuple []) } (L ++ [([], [])]) K
      | _ => False

theorem BOpsD.sound (hZ : ∀ T z, Z T = some z → ZeroIs P T z) {all : List Oper} {K : List Foot → St → Prop} : ∀ {l : List Oper} {s : St} {L : List Foot}, BOpsD P Z all l s L K → AOpsD P all l s L K
  | [], s, L, h => h
  | o :: os, s, L, h => by
    simp only [BOpsD] at h
    simp only [AOpsD]
    cases hg : o.guard with
    | none =>
      simp only [hg] at h ⊢
      obtain ⟨e, nx, h1, h2, h3⟩ := Do.sound hZ h
      exact ⟨e, nx, h1, h2, BOpsD.sound hZ h3⟩
    | some jw =>
      obtain ⟨j, want⟩ := jw
      simp only [hg] at h ⊢
      split at h
      · rename_i b hb
        simp only [hb]
        by_cases hbw : b = some want
        · simp only [hbw, if_true] at h ⊢
          obtain ⟨e, nx, h1, h2, h3⟩ := Do.sound hZ h
          exact ⟨e, nx, h1, h2, BOpsD.sound hZ h3⟩
        · simp only [hbw, if_false] at h ⊢
          exact BOpsD.sound hZ h
      · exact h.elim
end
end Go.Proofs.Ytbhhbadeabhfcaa
