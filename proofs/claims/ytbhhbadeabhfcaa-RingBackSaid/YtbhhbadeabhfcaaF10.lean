/- Operations that make memory or write it. -/
import Derived.Test.YtbhhbadeabhfcaaF9
set_option linter.unusedVariables false
set_option linter.unusedSimpArgs false
namespace Go.Proofs.Ytbhhbadeabhfcaa
open Go Go.RowKit

section
variable {P : Program} {w w' : World} {I : Nat → Prop} {ρ : Rho}

theorem CRel.one {x : AV} {c : Value} (h : CRel w I ρ x c) : c.oneCell' = true := by
  cases h <;> first | rfl | assumption

/-- A value's cells. -/
theorem cells_rel {u : AV} {c : Value} (h : XRel w I ρ u c) (hu : u ≠ .undef) : c.cells.size = u.size ∧ (∀ k, k < u.size → CRel w I ρ (u.flat.getD k .undef) (c.cells.getD k Go.undef)) ∧ ∀ v, v ∈ c.cells.toList → v.oneCell' = true := by
  by_cases hagg : ∃ vs, u = .agg vs
  · obtain ⟨vs, rfl⟩ := hagg
    obtain ⟨cs, rfl, h1, h2⟩ := h
    rw [AV.flatL_length] at h1 h2
    refine ⟨by simpa [Value.cells, AV.size] using h1, fun k hk => ?_, fun v hv => ?_⟩
    · have := h2 k hk
      simpa [Value.cells, AV.flat, Array.getD_eq_getD_getElem?, List.getD_eq_getElem?_getD] using this
    · simp only [Value.cells] at hv
      obtain ⟨k, hk, rfl⟩ := List.getElem_of_mem hv
      have := (h2 k (by omega)).one
      rwa [List.getD_eq_getElem?_getD, List.getElem?_eq_getElem hk] at this
  · have h1 : ∀ vs, u ≠ .agg vs := fun vs h => hagg ⟨vs, h⟩
    have h2 : ∀ vs, u ≠ .tuple vs := fun vs h' => by subst h'; exact h
    rw [XRel_eq u h2 h1 hu] at h
    have hsz : u.size = 1 := by cases u <;> first | rfl | exact absurd rfl (h1 _)
    have hfl : u.flat = [u] := by cases u <;> first | rfl | exact absurd rfl (h1 _)
    have hc : c.cells = #[c] := by have := h.one; cases c <;> first | rfl | simp [Value.oneCell'] at this
    rw [hc, hsz, hfl]
    refine ⟨rfl, fun k hk => ?_, fun v hv => ?_⟩
    · have : k = 0 := by omega
      subst this; simpa using h
    · simp at hv; subst hv; exact h.one

/-- A step that lays one new block. -/
theorem post_new {e : Eff} {c : Value} {obj : Obj} {r m : Nat} {blk : ABlk} (hput : e.put = [(m, blk)]) (hρ : ρ m = none) (himm : Imm (OwnW ρ e.wr) w I)
    (hh : w'.heap = w.heap.push obj) (h1 : w'.os = w.os) (h2 : w'.tape = w.tape) (h3 : w'.output = w.output)
    (h : ∀ ρ', Ext (OwnW ρ e.wr) w w' I I ρ ρ' → w'.heap[w.heap.size]? = some obj → ρ' m = some (w.heap.size, 0, r) → ¬ I w.heap.size → VRel w' I ρ' e.v c ∧ BRel w' I ρ' m blk) : ∃ ρ', LSPost w I ρ e c w' I ρ' := by
  let ρ' : Rho := fun n => if n = m then some (w.heap.size, 0, r) else ρ n
  have hx : Ext (OwnW ρ e.wr) w w' I I ρ ρ' := by
    refine ⟨h1, h2, h3, by rw [hh]; simp, fun b hb _ => ?_, fun _ h => h, fun _ h => .inl h, fun n x hn => ?_⟩
    · rw [hh, Array.getElem?_push, if_neg (by omega)]
    · simp only [ρ']
      by_cases hnm : n = m
      · subst hnm; rw [hρ] at hn; cases hn
      · simp [hnm, hn]
  have hm : ρ' m = some (w.heap.size, 0, r) := by simp [ρ']
  have hI : ¬ I w.heap.size := fun hI => by have := (himm _ hI).1; omega
  obtain ⟨g1, g2⟩ := h ρ' hx (by rw [hh]; simp) hm hI
  refine ⟨ρ', g1, fun n b hb => ?_, fun n k x y hnk hn hk => ?_, fun n x hn b o r' hr => ?_, hx, fun b hb => ?_, fun n hn hg => ?_⟩
  · rw [hput] at hb
    simp only [Heap.get] at hb
    by_cases hnm : n = m
    · subst hnm; simp at hb; subst hb; exact g2
    · simp [hnm] at hb
  · rw [hput] at hn hk
    simp only [Heap.get] at hn hk
    by_cases ha : n = m <;> by_cases hb : k = m <;> simp [ha, hb] at hn hk
    exact absurd (ha.trans hb.symm) hnk
  · rw [hput] at hn
    simp only [Heap.get] at hn
    by_cases hnm : n = m
    · subst hnm; rw [hm] at hr; cases hr; exact .inr (Nat.le_refl _)
    · simp [hnm] at hn
  · rw [hh]; have := (himm b hb).1; simp; omega
  · rw [hput] at hg
    simp only [Heap.get] at hg
    by_cases hnm : n = m
    · simp [hnm] at hg
    · simp [ρ', hnm, hn]

/-- A step that writes one block; its name may turn to another one. -/
theorem post_write {e : Eff} {c : Value} {n m b o r o' r' : Nat} {blk : ABlk} (hwr : e.wr = [n]) (hput : e.put = [(m, blk)]) (hn : ρ n = some (b, o, r))
    (hm : (m = n ∧ o' = o ∧ r' = r) ∨ (m ≠ n ∧ ρ m = none)) (himm : Imm (OwnW ρ e.wr) w I)
    (hs : w'.heap.size = w.heap.size) (hk : ∀ k, k ≠ b → w'.heap[k]? = w.heap[k]?) (h1 : w'.os = w.os) (h2 : w'.tape = w.tape) (h3 : w'.output = w.output)
    (h : ∀ ρ', Ext (OwnW ρ e.wr) w w' I I ρ ρ' → ρ' m = some (b, o', r') → ¬ I b → VRel w' I ρ' e.v c ∧ BRel w' I ρ' m blk) : ∃ ρ', LSPost w I ρ e c w' I ρ' := by
  have hown : OwnW ρ e.wr b := ⟨n, by simp [hwr], o, r, hn⟩
  let ρ' : Rho := fun k => if k = m then some (b, o', r') else ρ k
  have hx : Ext (OwnW ρ e.wr) w w' I I ρ ρ' := by
    refine ⟨h1, h2, h3, by rw [hs]; exact Nat.le_refl _, fun k hk' ho => hk k fun hb => ho (hb ▸ hown), fun _ h => h, fun _ h => .inl h, fun k x hx => ?_⟩
    simp only [ρ']
    by_cases hkm : k = m
    · subst hkm
      rcases hm with ⟨rfl, rfl, rfl⟩ | ⟨_, hm⟩
      · rw [hn] at hx; simp [hx]
      · rw [hm] at hx; cases hx
    · simp [hkm, hx]
  have hm' : ρ' m = some (b, o', r') := by simp [ρ']
  have hI : ¬ I b := fun hI => (himm _ hI).2 hown
  obtain ⟨g1, g2⟩ := h ρ' hx hm' hI
  refine ⟨ρ', g1, fun k x hb => ?_, fun k l x y hnk hk hl => ?_, fun k x hk b' o1 r1 hr => ?_, hx, fun b hb => ?_, fun k hn hg => ?_⟩
  · rw [hput] at hb
    simp only [Heap.get] at hb
    by_cases hnm : k = m
    · subst hnm; simp at hb; subst hb; exact g2
    · simp [hnm] at hb
  · rw [hput] at hk hl
    simp only [Heap.get] at hk hl
    by_cases ha : k = m <;> by_cases hb : l = m <;> simp [ha, hb] at hk hl
    exact absurd (ha.trans hb.symm) hnk
  · rw [hput] at hk
    simp only [Heap.get] at hk
    by_cases hnm : k = m
    · subst hnm; rw [hm'] at hr; cases hr; exact .inl hown
    · simp [hnm] at hk
  · rw [hs]; exact (himm b hb).1
  · rw [hput] at hg
    simp only [Heap.get] at hg
    by_cases hnm : k = m
    · simp [hnm] at hg
    · simp [ρ', hnm, hn]

/-- Cells that are stored one behind the other. -/
theorem run_storeCells' {b off : Nat} {T : TypeId} {fz : Nat × Nat} : ∀ (vs : List Value) (i : Nat) (w : World) (arr : Array Value), w.heap[b]? = some (.cells arr T fz) → off + i + vs.length ≤ arr.size →
    (∀ k, k < arr.size → ¬ (fz.1 ≤ k ∧ k < fz.2)) → (∀ v, v ∈ vs → v.oneCell' = true) →
    ∃ (arr' : Array Value) (w' : World), (storeCells ⟨b, off, none⟩ vs i).run P w = .ok () w' ∧ w'.heap[b]? = some (.cells arr' T fz) ∧ arr'.size = arr.size ∧
      (∀ k, arr'.getD k Go.undef = if off + i ≤ k ∧ k < off + i + vs.length then vs.getD (k - (off + i)) Go.undef else arr.getD k Go.undef) ∧
      w'.heap.size = w.heap.size ∧ (∀ k, k ≠ b → w'.heap[k]? = w.heap[k]?) ∧ w'.os = w.os ∧ w'.tape = w.tape ∧ w'.output = w.output
  | [], i, w, arr, hb, _, _, _ => ⟨arr, w, rfl, hb, rfl, fun k => by rw [if_neg (by intro h; have h1 := h.1; have h2 := h.2; simp only [List.length_nil] at h2; omega)], rfl, fun _ _ => rfl, rfl, rfl, rfl⟩
  | v :: vs, i, w, arr, hb, hl, hf, hv => by
    simp only [List.length_cons] at hl
    have hlt : off + i < arr.size := by omega
    have hc : w.cell? ⟨b, off + i, none⟩ = some arr[off + i] := by simp [World.cell?, hb, hlt]
    have hfz : w.frozen? ⟨b, off + i, none⟩ = false := by
      simp only [World.frozen?, hb]
      have := hf (off + i) hlt
      simp only [Bool.and_eq_false_iff, decide_eq_false_iff_not]
      by_cases h1 : fz.1 ≤ off + i
      · exact .inr fun h2 => this ⟨h1, h2⟩
      · exact .inl h1
    have hb1 : (w.setCell ⟨b, off + i, none⟩ v).heap[b]? = some (.cells (arr.setIfInBounds (off + i) v) T fz) := by
      simp [World.setCell, Array.getElem?_modify, hb]
    obtain ⟨arr', w', g1, g2, g3, g4, g5, g6, g7, g8, g9⟩ := run_storeCells' (off := off) vs (i + 1) (w.setCell ⟨b, off + i, none⟩ v) (arr.setIfInBounds (off + i) v) hb1 (by rw [Array.size_setIfInBounds]; omega) (by simpa using hf) (fun x hx => hv x (by simp [hx]))
    refine ⟨arr', w', ?_, g2, by simpa using g3, fun k => ?_, by simpa using g5, fun k hk => ?_, g7, g8, g9⟩
    · simp only [storeCells, Sem.run_bind, add_mk]
      rw [run_store P w _ v .plain (hv v (by simp)), hc]
      simp only [hfz, Bool.false_eq_true, if_false, Result.andThen_ok]
      exact g1
    · rw [g4]
      by_cases h1 : off + (i + 1) ≤ k ∧ k < off + (i + 1) + vs.length
      · rw [if_pos h1, if_pos ⟨by omega, by simp; omega⟩]
        have : k - (off + i) = (k - (off + (i + 1))) + 1 := by omega
        rw [this]; simp
      · rw [if_neg h1]
        by_cases h2 : k = off + i
        · subst h2
          rw [if_pos ⟨Nat.le_refl _, by simp⟩]
          simp [Array.getD_eq_getD_getElem?, hlt]
        · rw [if_neg (by simp; omega)]
          simp [Array.getD_eq_getD_getElem?, Array.getElem?_setIfInBounds, Ne.symm h2]
    · rw [g6 k hk]
      simp [World.setCell, Array.getElem?_modify, Ne.symm hk]
end

section
variable {P : Program} {o : Oper} {ev : Operand → Option AV} {H : Nat → Option ABlk} {v : AV} {rd : List Nat}

theorem XRel.of_V {w : World} {I : Nat → Prop} {ρ : Rho} {x : AV} {c : Value} (h : VRel w I ρ x c) (ht : ∀ vs, x ≠ .tuple vs) : XRel w I ρ x c := by
  rw [VRel_eq x ht] at h; exact h

/-- Is a value one that can be laid in memory: an aggregate, or one cell? -/
def AV.layable : AV → Bool
  | .tuple _ | .undef => false
  | _ => true

theorem layable_ne {u : AV} (h : u.layable = true) : u ≠ .undef ∧ ∀ vs, u ≠ .tuple vs := by
  constructor
  · rintro rfl; simp [AV.layable] at h
  · rintro vs rfl; simp [AV.layable] at h

theorem new_lies {w w' : World} {I : Nat → Prop} {ρ ρ' : Rho} {own : Nat → Prop} {u : AV} {arr : Array Value} {b T : Nat} (hx : Ext own w w' I I ρ ρ') (hi : Imm own w I) (hs : arr.size = u.size)
    (hr : ∀ k, k < u.size → CRel w I ρ (u.flat.getD k .undef) (arr.getD k Go.undef)) (hb : w'.heap[b]? = some (.cells arr T (0, 0))) : Lies w' I ρ' b 0 arr.size u.flat :=
  ⟨arr, T, (0, 0), hb, by simp, fun k _ h => by omega, by rw [AV.flat_length]; omega, fun k hk => by
    rw [AV.flat_length] at hk
    rw [Nat.zero_add]; exact (hr k hk).mono hx hi⟩

theorem ls_box {T : TypeId} {x : Operand} {u : AV} (m : Nat) (ho : o.op = .box T x) (hx : ev x = some u) (hu : u.layable = true) : LS P o ev H ⟨.ptr m 0 [], [], [], [(m, .cells u)]⟩ := by
  intro a w I ρ hd hev hrd hinj himm hfr K Q hK
  have hc := XRel.of_V (hev x (by simp [ho, Op.operands]) _ hx) (layable_ne hu).2
  obtain ⟨h1, h2, _⟩ := cells_rel hc (layable_ne hu).1
  unfold Oper.wp
  have hrun : (execOp a.eval o).run P w = .ok (.value (.pointer (some ⟨w.heap.size, 0, none⟩))) { w with heap := w.heap.push (.cells (a.eval x).cells T) } := by
    simp [execOp, ho, Instr.box, newVar, newRow]
  rw [hrun]
  obtain ⟨ρ', hp⟩ := post_new (w := w) (w' := { w with heap := w.heap.push (.cells (a.eval x).cells T) }) (I := I) (ρ := ρ) (e := ⟨.ptr m 0 [], [], [], [(m, .cells u)]⟩) (c := .pointer (some ⟨w.heap.size, 0, none⟩))
    (r := (a.eval x).cells.size) (m := m) (blk := .cells u) rfl (hfr m (.cells u) (by simp [Heap.get]) (by simp)) himm rfl rfl rfl rfl fun ρ' hx hb hm hI =>
      ⟨CRel.ptr _ _ _ _ _ _ hm, ⟨_, _, _, hm, hI, new_lies hx himm h1 h2 hb⟩⟩
  exact hK _ _ _ _ hp

/-- A type's zero value. -/
def ZeroIs (P : Program) (T : TypeId) (z : AV) : Prop :=
  z.layable = true ∧ ∃ c, (∀ w, (zeroValue T).run P w = .ok c w) ∧ ∀ w I ρ, XRel w I ρ z c

theorem ZeroIs.mk_agg {P : Program} {T : TypeId} {vs : List AV} {cs : Array Value} (h : (P.info? T).bind (·.zero) = some (.agg cs)) (hv : (AV.flatL vs).map some = cs.toList.map constAV) : ZeroIs P T (.agg vs) := by
  refine ⟨rfl, .agg cs, fun w => ?_, fun w I ρ => ⟨cs, rfl, ?_, fun k hk => ?_⟩⟩
  · cases hi : P.info? T with
    | none => simp [hi] at h
    | some i => simp [hi] at h; simp [zeroValue, typeInfo, hi, h]
  · have := congrArg List.length hv
    simpa using this.symm
  · have hl := congrArg List.length hv
    simp only [List.length_map] at hl
    have h1 : ((AV.flatL vs).map some)[k]? = (cs.toList.map constAV)[k]? := by rw [hv]
    have hk' : k < cs.toList.length := by omega
    simp only [List.getElem?_map, List.getElem?_eq_getElem hk, List.getElem?_eq_getElem hk', Option.map_some, Option.some.injEq] at h1
    rw [List.getD_eq_getElem?_getD, List.getD_eq_getElem?_getD, List.getElem?_eq_getElem hk, List.getElem?_eq_getElem hk', Option.getD_some, Option.getD_some]
    have h2 := constAV_rel (w := w) (I := I) (ρ := ρ) h1.symm
    revert h2 h1
    generalize (AV.flatL vs)[k] = x
    generalize cs.toList[k] = y
    intro h1 h2
    unfold constAV at h1
    split at h1 <;> simp only [Option.some.injEq, reduceCtorEq] at h1 <;> subst h1 <;> exact h2

theorem ZeroIs.mk_one {P : Program} {T : TypeId} {z : AV} {c : Value} (h : (P.info? T).bind (·.zero) = some c) (hz : constAV c = some z) : ZeroIs P T z := by
  refine ⟨?_, c, fun w => ?_, fun w I ρ => ?_⟩
  · unfold constAV at hz
    split at hz <;> simp only [Option.some.injEq, reduceCtorEq] at hz <;> subst hz <;> rfl
  · cases hi : P.info? T with
    | none => simp [hi] at h
    | some i => simp [hi] at h; simp [zeroValue, typeInfo, hi, h]
  · have h2 := constAV_rel (w := w) (I := I) (ρ := ρ) hz
    unfold constAV at hz
    split at hz <;> simp only [Option.some.injEq, reduceCtorEq] at hz <;> subst hz <;> exact h2

theorem ls_alloc {T : TypeId} {z : AV} (m : Nat) (ho : o.op = .alloc T) (hz : ZeroIs P T z) : LS P o ev H ⟨.ptr m 0 [], [], [], [(m, .cells z)]⟩ := by
  intro a w I ρ hd hev hrd hinj himm hfr K Q hK
  obtain ⟨hu, c, hzr, hzx⟩ := hz
  obtain ⟨h1, h2, _⟩ := cells_rel (hzx w I ρ) (layable_ne hu).1
  unfold Oper.wp
  have hrun : (execOp a.eval o).run P w = .ok (.value (.pointer (some ⟨w.heap.size, 0, none⟩))) { w with heap := w.heap.push (.cells c.cells T) } := by
    simp [execOp, ho, Instr.alloc, newVar, newRow, hzr]
  rw [hrun]
  obtain ⟨ρ', hp⟩ := post_new (w := w) (w' := { w with heap := w.heap.push (.cells c.cells T) }) (I := I) (ρ := ρ) (e := ⟨.ptr m 0 [], [], [], [(m, .cells z)]⟩) (c := .pointer (some ⟨w.heap.size, 0, none⟩))
    (r := c.cells.size) (m := m) (blk := .cells z) rfl (hfr m (.cells z) (by simp [Heap.get]) (by simp)) himm rfl rfl rfl rfl fun ρ' hx hb hm hI =>
      ⟨CRel.ptr _ _ _ _ _ _ hm, ⟨_, _, _, hm, hI, new_lies hx himm h1 h2 hb⟩⟩
  exact hK _ _ _ _ hp

theorem ls_store {T : TypeId} {x y : Operand} {n off : Nat} {p : List Nat} {root old u : AV} (ho : o.op = .store T x y) (hx : ev x = some (.ptr n off p)) (hy : ev y = some u) (hH : H n = some (.cells root))
    (hp : root.proj p = some old) (hf : root.offOf p = off) (hu : u.layable = true) (hs : u.size = old.size) (hT : szOf P T = some u.size) : LS P o ev H ⟨.undef, [], [n], [(n, .cells (root.upd p u))]⟩ := by
  intro a w I ρ hd hev hrd hinj himm hfr K Q hK
  obtain ⟨b, base, r, hr, hc⟩ := inv_ptr (hev x (by simp [ho, Op.operands]) _ hx)
  have hcu := XRel.of_V (hev y (by simp [ho, Op.operands]) _ hy) (layable_ne hu).2
  obtain ⟨q1, q2, q3⟩ := cells_rel hcu (layable_ne hu).1
  obtain ⟨b', o', r', hr', hI, hlies⟩ := hrd n (by simp) _ hH
  rw [hr] at hr'; cases hr'
  obtain ⟨arr, E, fz, h1, h2, h3, h4, h5⟩ := hlies.ex
  obtain ⟨pre, post, g1, g2, g3⟩ := AV.flat_at p root old hp
  have hlen : root.flat.length = pre.length + old.size + post.length := by rw [g2]; simp [AV.flat_length]; omega
  obtain ⟨arr', w', k1, k2, k3, k4, k5, k6, k7, k8, k9⟩ := run_storeCells' (P := P) (b := b) (off := base + off) (a.eval y).cells.toList 0 w arr h1 (by
    simp only [Array.length_toList, q1, hs]; rw [h2]; rw [hlen] at h4; rw [← hf, ← g1]; omega) h3 q3
  unfold Oper.wp
  have hrun : (execOp a.eval o).run P w = .ok .skip w' := by
    simp only [execOp, ho, hc, Instr.storeAt, Instr.sureAddr, pure_bind, storeVar, Sem.run_bind, run_sizeOf' hT, Result.andThen_ok, q1, ne_eq, not_true_eq_false, if_false, Sem.run_pure, k1]
  rw [hrun]
  simp only [Array.length_toList, q1, Nat.add_zero] at k4
  obtain ⟨ρ', hp'⟩ := post_write (w := w) (w' := w') (I := I) (ρ := ρ) (e := ⟨.undef, [], [n], [(n, .cells (root.upd p u))]⟩) (c := Go.undef) (blk := .cells (root.upd p u)) rfl rfl hr (.inl ⟨rfl, rfl, rfl⟩) himm k5 k6 k7 k8 k9 fun ρ' hx hm hI => by
    refine ⟨trivial, b, base, r, hm, hI, arr', E, fz, k2, k3.trans h2, fun k hk => h3 k (by omega), ?_, ?_⟩
    · rw [g3]; simp only [List.length_append, AV.flat_length, hs]; rw [← hlen]; exact h4
    · intro k hk
      rw [g3] at hk ⊢
      simp only [List.length_append, AV.flat_length] at hk
      rw [k4]
      by_cases hin : base + off ≤ base + k ∧ base + k < base + off + u.size
      · rw [if_pos hin]
        have : k = pre.length + (k - off) := by rw [g1, hf]; omega
        rw [this, getD_mid _ _ _ _ _ (by rw [AV.flat_length]; omega)]
        have e1 : base + (pre.length + (k - off)) - (base + off) = k - off := by rw [g1, hf]; omega
        rw [e1]
        have := (q2 (k - off) (by omega)).mono hx himm
        simpa [Array.getD_eq_getD_getElem?, List.getD_eq_getElem?_getD] using this
      · rw [if_neg hin]
        have h6 := (h5 k (by rw [hlen]; omega)).mono hx himm
        rw [g2] at h6
        have e2 : (pre ++ u.flat ++ post).getD k AV.undef = (pre ++ old.flat ++ post).getD k AV.undef := by
          rw [List.getD_eq_getElem?_getD, List.getD_eq_getElem?_getD]
          rcases Nat.lt_or_ge k pre.length with hlt | hge
          · simp [List.getElem?_append, hlt]
          · have hge2 : pre.length + u.size ≤ k := by rw [g1, hf] at hge ⊢; omega
            rw [List.getElem?_append_right (by simp [AV.flat_length]; omega), List.getElem?_append_right (by simp [AV.flat_length]; omega)]
            simp [AV.flat_length, hs]
        rw [e2]; exact h6
  exact hK _ _ _ _ hp'
end
end Go.Proofs.Ytbhhbadeabhfcaa
