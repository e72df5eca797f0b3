/- Operations that only make a value. -/
import Derived.Test.YtbhhbadeabhfcaaF7
import Derived.Laws.Sem
import Derived.Laws.World
import Derived.Laws.Cells
set_option linter.unusedVariables false
set_option linter.unusedSimpArgs false
namespace Go.Proofs.Ytbhhbadeabhfcaa
open Go Go.RowKit

def szOf (P : Program) (T : TypeId) : Option Nat := (P.info? T).map (·.size)

theorem run_underlying' {P : Program} {t : TypeId} {d : TypeDesc} (h : P.underlying t = some d) (w : World) : (underlying t).run P w = .ok d w := by
  simp [underlying, h]
theorem run_sizeOf' {P : Program} {t n : Nat} (h : szOf P t = some n) (w : World) : (sizeOf t).run P w = .ok n w := by
  unfold szOf at h
  cases hi : P.info? t with
  | none => simp [hi] at h
  | some i => simp [hi] at h; simp [sizeOf, typeInfo, hi, h]

def isAggD : TypeDesc → Bool
  | .struct _ | .array _ _ => true
  | _ => false

theorem run_isAgg' {P : Program} {t : TypeId} {d : TypeDesc} (h : P.underlying t = some d) (w : World) : (isAgg t).run P w = .ok (isAggD d) w := by
  unfold isAgg
  rw [Sem.run_bind, run_underlying' h]
  cases d <;> rfl

theorem add_mk (b o k : Nat) : (⟨b, o, none⟩ : Addr).add k = ⟨b, o + k, none⟩ := by
  unfold Addr.add
  by_cases h : k = 0 <;> simp [h]

section
variable {P : Program} {o : Oper} {ev : Operand → Option AV} {H : Nat → Option ABlk} {v : AV} {rd : List Nat}

/-- An operation that only makes a value. -/
theorem LS.value (h : ∀ (a : Act) (w : World) (I : Nat → Prop) (ρ : Rho), (∀ x, x ∈ o.op.operands → ∀ v, ev x = some v → VRel w I ρ v (a.eval x)) →
    (∀ n, n ∈ rd → ∀ b, H n = some b → BRel w I ρ n b) → ∃ c, VRel w I ρ v c ∧ (execOp a.eval o).run P w = .ok (.value c) w) : LS P o ev H ⟨v, rd, [], []⟩ := by
  intro a w I ρ hd hev hrd hinj himm hfr K Q hK
  obtain ⟨c, hc, hrun⟩ := h a w I ρ hev (fun n hn b hb => hrd n (.inl hn) b hb)
  unfold Oper.wp
  rw [hrun]
  refine hK c w I ρ ⟨hc, fun n b h => by simp [Heap.get] at h, fun n m x y _ h => by simp [Heap.get] at h, fun n x h => by simp [Heap.get] at h, Ext.refl _ _ _ _, fun b hb => (himm b hb).1, fun n h _ => h⟩

theorem VRel.cell {w : World} {I : Nat → Prop} {ρ : Rho} {x : AV} {c : Value} (h : CRel w I ρ x c) (h1 : ∀ vs, x ≠ .tuple vs) (h2 : ∀ vs, x ≠ .agg vs) : VRel w I ρ x c := by
  by_cases hu : x = .undef
  · subst hu; trivial
  · rw [VRel_eq x h1, XRel_eq x h1 h2 hu]; exact h

theorem ls_move {x : Operand} (ho : o.op = .move x ∨ o.op = .assign x) (hx : ev x = some v) : LS P o ev H ⟨v, [], [], []⟩ := by
  refine LS.value fun a w I ρ hev _ => ⟨a.eval x, hev x (by rcases ho with h | h <;> simp [h, Op.operands]) v hx, ?_⟩
  rcases ho with h | h <;> simp [execOp, h]

theorem ls_pick {c x y : Operand} {b : Bool} (ho : o.op = .pick c x y) (hc : ev c = some (.bool b)) (hx : ev (if b then x else y) = some v) : LS P o ev H ⟨v, [], [], []⟩ := by
  refine LS.value fun a w I ρ hev _ => ?_
  have hb := (hev c (by simp [ho, Op.operands]) _ hc).bool_inv
  refine ⟨a.eval (if b then x else y), hev _ (by cases b <;> simp [ho, Op.operands]) v hx, ?_⟩
  simp only [execOp, ho, hb, asBool, Sem.run_bind, Sem.run_pure, Result.andThen_ok]
  cases b <;> rfl

/-! #### what a related value is -/
section
variable {w : World} {I : Nat → Prop} {ρ : Rho} {c : Value}
theorem inv_int {k : IntKind} {n : Int} (h : VRel w I ρ (.int k n) c) : c = .int k n := by
  change CRel w I ρ _ c at h; cases h; rfl
theorem inv_str {s : ByteArray} (h : VRel w I ρ (.str s) c) : c = .string s := by
  change CRel w I ρ _ c at h; cases h; rfl
theorem inv_ptr {n off : Nat} {p : List Nat} (h : VRel w I ρ (.ptr n off p) c) : ∃ b o r, ρ n = some (b, o, r) ∧ c = .pointer (some ⟨b, o + off, none⟩) := by
  change CRel w I ρ _ c at h; cases h; exact ⟨_, _, _, ‹_›, rfl⟩
theorem inv_vptr {root : AV} {off : Nat} {p : List Nat} (h : VRel w I ρ (.vptr root off p) c) : ∃ (b o : Nat) (f : Nat → Value), I b ∧ (∀ k, k < root.size → w.cell? ⟨b, o + k, none⟩ = some (f k)) ∧
    (∀ k, k < root.size → CRel w I ρ (root.flat.getD k .undef) (f k)) ∧ c = .pointer (some ⟨b, o + off, none⟩) := by
  change CRel w I ρ _ c at h; cases h; exact ⟨_, _, _, ‹_›, ‹_›, ‹_›, rfl⟩
theorem inv_nilsl (h : VRel w I ρ .nilsl c) : c = .slice none 0 0 := by
  change CRel w I ρ _ c at h; cases h; rfl
theorem inv_sl {n off : Nat} {p : List Nat} {i len cap wd : Nat} (h : VRel w I ρ (.sl n off p i len cap wd) c) : (len = 0 ∧ cap = 0 ∧ ∃ a, c = .slice (some a) 0 0) ∨
    ∃ b o r k, ρ n = some (b, o, r) ∧ len ≤ cap ∧ cap ≤ k ∧ off + k * wd ≤ r ∧ c = .slice (some ⟨b, o + off, none⟩) len k := by
  change CRel w I ρ _ c at h; cases h
  · exact .inr ⟨_, _, _, _, ‹_›, ‹_›, ‹_›, ‹_›, rfl⟩
  · exact .inl ⟨rfl, rfl, _, rfl⟩
theorem inv_vsl {es : List AV} {len : Nat} (h : VRel w I ρ (.vsl es len) c) : (es = [] ∧ len = 0 ∧ ∃ a k, c = .slice a 0 k) ∨
    ∃ (b o k : Nat) (f : Nat → Value), I b ∧ len ≤ es.length ∧ es.length ≤ k ∧ (∀ j, j < AV.sizeL es → w.cell? ⟨b, o + j, none⟩ = some (f j)) ∧ (∀ j, j < AV.sizeL es → CRel w I ρ ((AV.flatL es).getD j .undef) (f j)) ∧ c = .slice (some ⟨b, o, none⟩) len k := by
  change CRel w I ρ _ c at h; cases h
  · exact .inl ⟨rfl, rfl, _, _, rfl⟩
  · exact .inr ⟨_, _, _, _, ‹_›, ‹_›, ‹_›, ‹_›, ‹_›, rfl⟩
theorem inv_agg {vs : List AV} (h : VRel w I ρ (.agg vs) c) : ∃ cs : Array Value, c = .agg cs ∧ CsRel w I ρ (AV.flatL vs) cs.toList := h
theorem inv_tuple {vs : List AV} (h : VRel w I ρ (.tuple vs) c) : ∃ cs : Array Value, c = .tuple cs ∧ cs.size = vs.length ∧ ∀ k, k < vs.length → XRel w I ρ (vs.getD k .undef) (cs.getD k Go.undef) := h
theorem inv_func {f : Nat} {caps : List AV} (h : VRel w I ρ (.func f caps) c) : ∃ cs : Array Value, c = .func (.func f) #[] cs ∧ cs.size = caps.length ∧ ∀ k, k < caps.length → CRel w I ρ (caps.getD k .undef) (cs.getD k Go.undef) := by
  change CRel w I ρ _ c at h; cases h; exact ⟨_, rfl, ‹_›, ‹_›⟩
end

/-- A scalar: a value of one cell that is no tuple and not unknown. -/
def AV.cell1 : AV → Bool
  | .agg _ | .tuple _ | .undef => false
  | _ => true

/-- May a value be read as one of a type? -/
def LoadOk (P : Program) (T : TypeId) (u : AV) : Prop :=
  match u with
  | .agg vs => (∃ d, P.underlying T = some d ∧ isAggD d = true) ∧ szOf P T = some (AV.sizeL vs)
  | .tuple _ => False
  | _ => ∃ d, P.underlying T = some d ∧ isAggD d = false

/-- Cells in memory that are related to a value's. -/
theorem run_loadVar' {w : World} {I : Nat → Prop} {ρ : Rho} {T : TypeId} {u : AV} {b off : Nat} {f : Nat → Value} (hl : LoadOk P T u) (hc : ∀ k, k < u.size → w.cell? ⟨b, off + k, none⟩ = some (f k))
    (hr : ∀ k, k < u.size → CRel w I ρ (u.flat.getD k .undef) (f k)) : ∃ c, VRel w I ρ u c ∧ (loadVar T ⟨b, off, none⟩).run P w = .ok c w := by
  by_cases hagg : ∃ vs, u = .agg vs
  · obtain ⟨vs, rfl⟩ := hagg
    obtain ⟨⟨d, hd, hda⟩, hs⟩ := hl
    refine ⟨.agg ((List.range (AV.sizeL vs)).map f).toArray, ⟨_, rfl, ?_, ?_⟩, ?_⟩
    · simp [AV.flatL_length]
    · intro k hk
      rw [AV.flatL_length] at hk
      have := hr k hk
      simpa [List.getD_eq_getElem?_getD, hk, AV.flat] using this
    · unfold loadVar
      simp only [Sem.run_bind, run_isAgg' hd, hda, Result.andThen_ok, if_true, run_sizeOf' hs]
      rw [run_loadCells w ⟨b, off, none⟩ (AV.sizeL vs) f (fun j hj => by rw [add_mk]; exact hc j hj)]
      simp
  · have h1 : ∀ vs, u ≠ .agg vs := fun vs h => hagg ⟨vs, h⟩
    have h2 : ∀ vs, u ≠ .tuple vs := fun vs h => by subst h; exact hl
    have hsz : u.size = 1 := by cases u <;> first | rfl | exact absurd rfl (h1 _)
    have hfl : u.flat = [u] := by cases u <;> first | rfl | exact absurd rfl (h1 _)
    have hd : ∃ d, P.underlying T = some d ∧ isAggD d = false := by
      cases u <;> first | exact hl | exact absurd rfl (h1 _) | exact absurd rfl (h2 _)
    obtain ⟨d, hd, hda⟩ := hd
    have h0 := hc 0 (by omega)
    have hr0 := hr 0 (by omega)
    rw [hfl] at hr0
    refine ⟨f 0, VRel.cell hr0 h2 h1, ?_⟩
    unfold loadVar
    simp only [Sem.run_bind, run_isAgg' hd, hda, Result.andThen_ok, if_false, Bool.false_eq_true, Sem.run_ite, run_load, Nat.add_zero] at h0 ⊢
    rw [h0]

theorem getD_mid {α : Type} (pre x post : List α) (d : α) (k : Nat) (hk : k < x.length) : (pre ++ x ++ post).getD (pre.length + k) d = x.getD k d := by
  rw [List.getD_eq_getElem?_getD, List.getD_eq_getElem?_getD, List.append_assoc, List.getElem?_append_right (Nat.le_add_right _ _), Nat.add_sub_cancel_left, List.getElem?_append_left hk]

theorem ls_load {T : TypeId} {x : Operand} {n off : Nat} {p : List Nat} {root u : AV} (ho : o.op = .load T x) (hx : ev x = some (.ptr n off p)) (hH : H n = some (.cells root)) (hp : root.proj p = some u)
    (hf : root.offOf p = off) (hl : LoadOk P T u) : LS P o ev H ⟨u, [n], [], []⟩ := by
  refine LS.value fun a w I ρ hev hrd => ?_
  obtain ⟨b, base, r, hr, hc⟩ := inv_ptr (hev x (by simp [ho, Op.operands]) _ hx)
  obtain ⟨b', o', r', hr', hI, hlies⟩ := hrd n (by simp) _ hH
  rw [hr] at hr'; cases hr'
  obtain ⟨arr, E, fz, h1, h2, h3, h4, h5⟩ := hlies.ex
  obtain ⟨pre, post, g1, g2, _⟩ := AV.flat_at p root u hp
  have hlen : root.flat.length = pre.length + u.size + post.length := by rw [g2]; simp [AV.flat_length]; omega
  obtain ⟨c, k1, k2⟩ := run_loadVar' (P := P) (w := w) (I := I) (ρ := ρ) (T := T) (u := u) (b := b) (off := base + off) (f := fun k => arr.getD (base + off + k) Go.undef) hl
    (fun k hk => by
      have hlt : base + off + k < arr.size := by rw [h2]; have := h4; rw [hlen] at this; rw [← hf, ← g1]; omega
      simp [World.cell?, h1, Array.getD_eq_getD_getElem?, Array.getElem?_eq_getElem hlt])
    (fun k hk => by
      have := h5 (pre.length + k) (by rw [hlen]; omega)
      rw [g2, getD_mid _ _ _ _ _ (by rw [AV.flat_length]; exact hk), g1, hf] at this
      rwa [Nat.add_assoc])
  refine ⟨c, k1, ?_⟩
  simp only [execOp, ho, hc, Instr.loadAt, Instr.sureAddr, pure_bind, Sem.run_bind, k2, Result.andThen_ok, Sem.run_pure]

theorem ls_loadv {T : TypeId} {x : Operand} {off : Nat} {p : List Nat} {root u : AV} (ho : o.op = .load T x) (hx : ev x = some (.vptr root off p)) (hp : root.proj p = some u)
    (hf : root.offOf p = off) (hl : LoadOk P T u) : LS P o ev H ⟨u, [], [], []⟩ := by
  refine LS.value fun a w I ρ hev hrd => ?_
  obtain ⟨b, base, f, hI, hcell, hrel, hc⟩ := inv_vptr (hev x (by simp [ho, Op.operands]) _ hx)
  obtain ⟨pre, post, g1, g2, _⟩ := AV.flat_at p root u hp
  have hlen : root.size = pre.length + u.size + post.length := by rw [← AV.flat_length, g2]; simp [AV.flat_length]; omega
  obtain ⟨c, k1, k2⟩ := run_loadVar' (P := P) (w := w) (I := I) (ρ := ρ) (T := T) (u := u) (b := b) (off := base + off) (f := fun k => f (off + k)) hl
    (fun k hk => by
      have := hcell (off + k) (by rw [hlen, ← hf, ← g1]; omega)
      rwa [← Nat.add_assoc] at this)
    (fun k hk => by
      have := hrel (pre.length + k) (by rw [hlen]; omega)
      rw [g2, getD_mid _ _ _ _ _ (by rw [AV.flat_length]; exact hk), g1, hf] at this
      exact this)
  refine ⟨c, k1, ?_⟩
  simp only [execOp, ho, hc, Instr.loadAt, Instr.sureAddr, pure_bind, Sem.run_bind, k2, Result.andThen_ok, Sem.run_pure]

/-! #### addresses -/
theorem run_fieldPlace {w : World} {b off : Nat} {f : Field} {n : Nat} (hs : szOf P f.type = some n) (hn : n ≠ 0) : (fieldPlace ⟨b, off, none⟩ f).run P w = .ok ⟨b, off + f.offset, none⟩ w := by
  simp [fieldPlace, run_sizeOf' hs, hn, add_mk]

theorem ls_fieldAddr {S : TypeId} {x : Operand} {j n off : Nat} {p : List Nat} {fs : Array Field} {f : Field} {k : Nat} (ho : o.op = .fieldAddr S x j) (hx : ev x = some (.ptr n off p))
    (hS : P.underlying S = some (.struct fs)) (hf : fs[j]? = some f) (hs : szOf P f.type = some k) (hk : k ≠ 0) : LS P o ev H ⟨.ptr n (off + f.offset) (p ++ [j]), [], [], []⟩ := by
  refine LS.value fun a w I ρ hev hrd => ?_
  obtain ⟨b, base, r, hr, hc⟩ := inv_ptr (hev x (by simp [ho, Op.operands]) _ hx)
  refine ⟨.pointer (some ⟨b, base + (off + f.offset), none⟩), VRel.cell (CRel.ptr _ _ _ _ _ _ hr) (by simp) (by simp), ?_⟩
  simp only [execOp, ho, hc, Instr.fieldAt, Instr.sureAddr, Sem.run_bind, run_underlying' hS, Result.andThen_ok, hf, pure_bind, run_fieldPlace hs hk, Sem.run_pure, Nat.add_assoc]

theorem ls_fieldAddrv {S : TypeId} {x : Operand} {j off : Nat} {root : AV} {p : List Nat} {fs : Array Field} {f : Field} {k : Nat} (ho : o.op = .fieldAddr S x j) (hx : ev x = some (.vptr root off p))
    (hS : P.underlying S = some (.struct fs)) (hf : fs[j]? = some f) (hs : szOf P f.type = some k) (hk : k ≠ 0) : LS P o ev H ⟨.vptr root (off + f.offset) (p ++ [j]), [], [], []⟩ := by
  refine LS.value fun a w I ρ hev hrd => ?_
  obtain ⟨b, base, g, hI, h1, h2, hc⟩ := inv_vptr (hev x (by simp [ho, Op.operands]) _ hx)
  refine ⟨.pointer (some ⟨b, base + (off + f.offset), none⟩), VRel.cell (CRel.vptr _ _ _ _ _ g hI h1 h2) (by simp) (by simp), ?_⟩
  simp only [execOp, ho, hc, Instr.fieldAt, Instr.sureAddr, Sem.run_bind, run_underlying' hS, Result.andThen_ok, hf, pure_bind, run_fieldPlace hs hk, Sem.run_pure, Nat.add_assoc]

theorem ls_indexAddr_sl {T E : TypeId} {x y : Operand} {n off : Nat} {p : List Nat} {i len cap wd : Nat} {k : IntKind} {q : Int} (ho : o.op = .indexAddr T x y) (hx : ev x = some (.sl n off p i len cap wd)) (hy : ev y = some (.int k q))
    (hT : P.underlying T = some (.slice E)) (hE : szOf P E = some wd) (h0 : 0 ≤ q) (h1 : q < len) : LS P o ev H ⟨.ptr n (off + q.toNat * wd) (p ++ [i + q.toNat]), [], [], []⟩ := by
  refine LS.value fun a w I ρ hev hrd => ?_
  have hq := inv_int (hev y (by simp [ho, Op.operands]) _ hy)
  rcases inv_sl (hev x (by simp [ho, Op.operands]) _ hx) with ⟨h2, _⟩ | ⟨b, base, r, c, hr, _, _, _, hc⟩
  · subst h2; simp at h1; omega
  refine ⟨.pointer (some ⟨b, base + (off + q.toNat * wd), none⟩), VRel.cell (CRel.ptr _ _ _ _ _ _ hr) (by simp) (by simp), ?_⟩
  simp only [execOp, ho, hc, hq, Instr.indexAt, asIntOf, pure_bind, Sem.run_bind, run_underlying' hT, Result.andThen_ok, Sem.run_pure, h0, h1, and_self, if_true, Sem.run_ite, run_sizeOf' hE, add_mk, Nat.add_assoc]

theorem ls_indexAddr_vsl {T E : TypeId} {x y : Operand} {es : List AV} {len wd : Nat} {k : IntKind} {q : Int} (ho : o.op = .indexAddr T x y) (hx : ev x = some (.vsl es len)) (hy : ev y = some (.int k q))
    (hT : P.underlying T = some (.slice E)) (hE : szOf P E = some wd) (h0 : 0 ≤ q) (h1 : q < len) : LS P o ev H ⟨.vptr (.agg es) (q.toNat * wd) [q.toNat], [], [], []⟩ := by
  refine LS.value fun a w I ρ hev hrd => ?_
  have hq := inv_int (hev y (by simp [ho, Op.operands]) _ hy)
  rcases inv_vsl (hev x (by simp [ho, Op.operands]) _ hx) with ⟨_, hl, _⟩ | ⟨b, base, c, f, hI, hl1, hl2, hc1, hc2, hc⟩
  · subst hl; simp at h1; omega
  · refine ⟨.pointer (some ⟨b, base + q.toNat * wd, none⟩), VRel.cell (CRel.vptr _ _ _ _ _ f hI (by simpa [AV.size] using hc1) (by simpa [AV.size, AV.flat] using hc2)) (by simp) (by simp), ?_⟩
    simp only [execOp, ho, hc, hq, Instr.indexAt, asIntOf, pure_bind, Sem.run_bind, run_underlying' hT, Result.andThen_ok, Sem.run_pure, h0, h1, and_self, if_true, Sem.run_ite, run_sizeOf' hE, add_mk]

theorem ls_indexAddr_arr {T E : TypeId} {x y : Operand} {n off : Nat} {p : List Nat} {len wd : Nat} {k : IntKind} {q : Int} (ho : o.op = .indexAddr T x y) (hx : ev x = some (.ptr n off p)) (hy : ev y = some (.int k q))
    (hT : P.underlying T = some (.array len E)) (hE : szOf P E = some wd) (h0 : 0 ≤ q) (h1 : q < len) : LS P o ev H ⟨.ptr n (off + q.toNat * wd) (p ++ [q.toNat]), [], [], []⟩ := by
  refine LS.value fun a w I ρ hev hrd => ?_
  obtain ⟨b, base, r, hr, hc⟩ := inv_ptr (hev x (by simp [ho, Op.operands]) _ hx)
  have hq := inv_int (hev y (by simp [ho, Op.operands]) _ hy)
  refine ⟨.pointer (some ⟨b, base + (off + q.toNat * wd), none⟩), VRel.cell (CRel.ptr _ _ _ _ _ _ hr) (by simp) (by simp), ?_⟩
  simp only [execOp, ho, hc, hq, Instr.indexAt, Instr.sureAddr, asIntOf, pure_bind, Sem.run_bind, run_underlying' hT, Result.andThen_ok, Sem.run_pure, h0, h1, and_self, if_true, Sem.run_ite, run_sizeOf' hE, add_mk, Nat.add_assoc]

theorem ls_nilCheck {x : Operand} {n off : Nat} {p : List Nat} (ho : o.op = .nilCheck x) (hx : ev x = some (.ptr n off p)) : LS P o ev H ⟨.ptr n off p, [], [], []⟩ := by
  refine LS.value fun a w I ρ hev hrd => ?_
  have h := hev x (by simp [ho, Op.operands]) _ hx
  obtain ⟨b, base, r, hr, hc⟩ := inv_ptr h
  exact ⟨_, h, by simp only [execOp, ho, hc, Sem.run_bind, Sem.run_pure, Result.andThen_ok]⟩

theorem ls_extract {x : Operand} {j : Nat} {vs : List AV} {u : AV} (ho : o.op = .extract x j) (hx : ev x = some (.tuple vs)) (hu : vs[j]? = some u) (ht : ∀ us, u ≠ .tuple us) : LS P o ev H ⟨u, [], [], []⟩ := by
  refine LS.value fun a w I ρ hev hrd => ?_
  obtain ⟨cs, hc, hs, hcs⟩ := inv_tuple (hev x (by simp [ho, Op.operands]) _ hx)
  have hj : j < vs.length := by
    rcases Nat.lt_or_ge j vs.length with h | h
    · exact h
    · simp [List.getElem?_eq_none h] at hu
  have := hcs j hj
  rw [List.getD_eq_getElem?_getD, hu, Option.getD_some] at this
  refine ⟨cs.getD j Go.undef, by rw [VRel_eq _ ht]; exact this, ?_⟩
  have hj' : cs[j]? = some (cs.getD j Go.undef) := by simp [Array.getD_eq_getD_getElem?, hs, hj]
  simp only [execOp, ho, hc, Instr.extract, hj', Sem.run_bind, Sem.run_pure, Result.andThen_ok]

end
end Go.Proofs.Ytbhhbadeabhfcaa
