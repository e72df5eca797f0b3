/- Parts of values, values put together, slices. -/
import Derived.Test.YtbhhbadeabhfcaaF10
set_option linter.unusedVariables false
set_option linter.unusedSimpArgs false
namespace Go.Proofs.Ytbhhbadeabhfcaa
open Go Go.RowKit

section
variable {P : Program} {o : Oper} {ev : Operand → Option AV} {H : Nat → Option ABlk} {v : AV} {rd : List Nat}

theorem getD_toList (cs : Array Value) (k : Nat) (d : Value) : cs.toList.getD k d = cs.getD k d := by
  simp [Array.getD_eq_getD_getElem?, List.getD_eq_getElem?_getD]

theorem flatL_at {vs : List AV} {j : Nat} {u : AV} (h : vs[j]? = some u) : AV.flatL vs = AV.flatL (vs.take j) ++ u.flat ++ AV.flatL (vs.drop (j + 1)) := by
  conv => lhs; rw [split_at h]
  simp [AV.flatL_append, AV.flatL]

theorem part_rel {w : World} {I : Nat → Prop} {ρ : Rho} {T off : Nat} {xs pre post : List AV} {u : AV} {cs : Array Value} (hl : LoadOk P T u) (hc : CsRel w I ρ xs cs.toList) (hx : xs = pre ++ u.flat ++ post) (ho : pre.length = off) :
    ∃ c, VRel w I ρ u c ∧ (part T cs off).run P w = .ok c w := by
  obtain ⟨h1, h2⟩ := hc
  have hlen : xs.length = pre.length + u.size + post.length := by rw [hx]; simp [AV.flat_length]; omega
  have hr : ∀ k, k < u.size → CRel w I ρ (u.flat.getD k .undef) (cs.getD (off + k) Go.undef) := by
    intro k hk
    have := h2 (pre.length + k) (by omega)
    rw [hx, getD_mid _ _ _ _ _ (by rw [AV.flat_length]; exact hk), ho] at this
    simpa [Array.getD_eq_getD_getElem?, List.getD_eq_getElem?_getD] using this
  simp only [Array.length_toList] at h1
  by_cases hagg : ∃ vs, u = .agg vs
  · obtain ⟨vs, rfl⟩ := hagg
    obtain ⟨⟨d, hd, hda⟩, hs⟩ := hl
    simp only [AV.size] at hlen hr
    refine ⟨.agg (cs.extract off (off + AV.sizeL vs)), ⟨_, rfl, ?_, ?_⟩, ?_⟩
    · simp [AV.flatL_length]; omega
    · intro k hk
      rw [AV.flatL_length] at hk
      have := hr k hk
      simp only [AV.flat, Array.getD_eq_getD_getElem?] at this
      rw [getD_toList, Array.getD_eq_getD_getElem?, Array.getElem?_extract, if_pos (by omega)]
      exact this
    · unfold part
      simp only [Sem.run_bind, run_isAgg' hd, hda, Result.andThen_ok, if_true, run_sizeOf' hs, Sem.run_pure]
  · have g1 : ∀ vs, u ≠ .agg vs := fun vs h => hagg ⟨vs, h⟩
    have g2 : ∀ vs, u ≠ .tuple vs := fun vs h => by subst h; exact hl
    have hsz : u.size = 1 := by cases u <;> first | rfl | exact absurd rfl (g1 _)
    have hfl : u.flat = [u] := by cases u <;> first | rfl | exact absurd rfl (g1 _)
    have hd : ∃ d, P.underlying T = some d ∧ isAggD d = false := by
      cases u <;> first | exact hl | exact absurd rfl (g1 _) | exact absurd rfl (g2 _)
    obtain ⟨d, hd, hda⟩ := hd
    have hr0 := hr 0 (by omega)
    rw [hfl] at hr0
    refine ⟨cs.getD off Go.undef, VRel.cell (by simpa using hr0) g2 g1, ?_⟩
    have hlt : off < cs.size := by omega
    unfold part
    simp only [Sem.run_bind, run_isAgg' hd, hda, Result.andThen_ok, if_false, Bool.false_eq_true, Array.getElem?_eq_getElem hlt, Sem.run_pure]
    simp [Array.getD_eq_getD_getElem?, hlt]

theorem ls_field {T : TypeId} {x : Operand} {j : Nat} {vs : List AV} {u : AV} {fs : Array Field} {f : Field} (ho : o.op = .field T x j) (hx : ev x = some (.agg vs)) (hT : P.underlying T = some (.struct fs)) (hf : fs[j]? = some f)
    (hu : vs[j]? = some u) (hoff : f.offset = AV.sizeL (vs.take j)) (hl : LoadOk P f.type u) : LS P o ev H ⟨u, [], [], []⟩ := by
  refine LS.value fun a w I ρ hev hrd => ?_
  obtain ⟨cs, hc, hcs⟩ := inv_agg (hev x (by simp [ho, Op.operands]) _ hx)
  obtain ⟨c, h1, h2⟩ := part_rel (P := P) (T := f.type) (off := f.offset) hl hcs (flatL_at hu) (by rw [AV.flatL_length]; exact hoff.symm)
  exact ⟨c, h1, by simp only [execOp, ho, hc, Instr.field, asAgg, Sem.run_bind, run_underlying' hT, Result.andThen_ok, hf, pure_bind, h2, Sem.run_pure]⟩

theorem ls_index_arr {T E : TypeId} {x y : Operand} {vs : List AV} {u : AV} {n wd : Nat} {k : IntKind} {q : Int} (ho : o.op = .index T x y) (hx : ev x = some (.agg vs)) (hy : ev y = some (.int k q)) (hT : P.underlying T = some (.array n E))
    (hE : szOf P E = some wd) (h0 : 0 ≤ q) (h1 : q < n) (hu : vs[q.toNat]? = some u) (hoff : q.toNat * wd = AV.sizeL (vs.take q.toNat)) (hl : LoadOk P E u) : LS P o ev H ⟨u, [], [], []⟩ := by
  refine LS.value fun a w I ρ hev hrd => ?_
  obtain ⟨cs, hc, hcs⟩ := inv_agg (hev x (by simp [ho, Op.operands]) _ hx)
  have hq := inv_int (hev y (by simp [ho, Op.operands]) _ hy)
  obtain ⟨c, g1, g2⟩ := part_rel (P := P) (T := E) (off := q.toNat * wd) hl hcs (flatL_at hu) (by rw [AV.flatL_length]; exact hoff.symm)
  exact ⟨c, g1, by simp only [execOp, ho, hc, hq, Instr.index, asIntOf, pure_bind, Sem.run_bind, run_underlying' hT, Result.andThen_ok, h0, h1, and_self, if_true, run_sizeOf' hE, g2, Sem.run_pure]⟩

/-! #### values put together -/
/-- Fields set one behind the other. -/
def setParts (vs : List AV) : List (Nat × AV) → List AV
  | [] => vs
  | (i, u) :: r => setParts (vs.set i u) r

theorem foldl_set {cs : Array Value} {off : Nat} : ∀ (l : List Value) (k : Nat) (cells : Array Value), (l.zipIdx k).foldl (fun cs (x : Value × Nat) => cs.setIfInBounds (off + x.2) x.1) cells =
    (List.range l.length).foldl (fun cs j => cs.setIfInBounds (off + (k + j)) (l.getD j Go.undef)) cells := by
  intro l
  induction l with
  | nil => intro k cells; rfl
  | cons x r ih =>
    intro k cells
    simp only [List.zipIdx_cons, List.foldl_cons, List.length_cons, List.range_succ_eq_map, List.foldl_map, ih]
    simp [Nat.add_assoc, Nat.add_comm 1]

theorem foldl_range_get {off k : Nat} {f : Nat → Value} : ∀ (n : Nat) (cells : Array Value), off + n ≤ cells.size →
    ((List.range n).foldl (fun cs j => cs.setIfInBounds (off + j) (f j)) cells).size = cells.size ∧
    ((List.range n).foldl (fun cs j => cs.setIfInBounds (off + j) (f j)) cells).getD k Go.undef = if off ≤ k ∧ k < off + n then f (k - off) else cells.getD k Go.undef := by
  intro n
  induction n with
  | zero => intro cells _; simp; intro h1 h2; omega
  | succ n ih =>
    intro cells h
    rw [List.range_succ, List.foldl_append]
    obtain ⟨h1, h2⟩ := ih cells (by omega)
    simp only [List.foldl_cons, List.foldl_nil, Array.size_setIfInBounds, h1, true_and]
    rw [Array.getD_eq_getD_getElem?, Array.getElem?_setIfInBounds]
    by_cases hk : off + n = k
    · subst hk
      rw [if_pos rfl, if_pos (by rw [h1]; omega), if_pos ⟨by omega, by omega⟩]
      simp
    · rw [if_neg hk, ← Array.getD_eq_getD_getElem?, h2]
      by_cases hc : off ≤ k ∧ k < off + n
      · rw [if_pos hc, if_pos ⟨hc.1, by omega⟩]
      · rw [if_neg hc, if_neg (by omega)]

theorem fill_step {w : World} {I : Nat → Prop} {ρ : Rho} {vs : List AV} {cells : Array Value} {i off : Nat} {old u : AV} {c : Value} (hc : CsRel w I ρ (AV.flatL vs) cells.toList) (hu : vs[i]? = some old) (hoff : off = AV.sizeL (vs.take i))
    (hs : u.size = old.size) (hxu : XRel w I ρ u c) (hlay : u.layable = true) :
    c.cells.size = u.size ∧ off + u.size ≤ cells.size ∧ CsRel w I ρ (AV.flatL (vs.set i u)) (c.cells.zipIdx.foldl (fun cs (x, j) => cs.setIfInBounds (off + j) x) cells).toList := by
  obtain ⟨q1, q2, q3⟩ := cells_rel hxu (layable_ne hlay).1
  obtain ⟨h1, h2⟩ := hc
  have e1 := flatL_at hu
  have hi : i < vs.length := by
    rcases Nat.lt_or_ge i vs.length with h | h
    · exact h
    · simp [List.getElem?_eq_none h] at hu
  have e2 : AV.flatL (vs.set i u) = AV.flatL (vs.take i) ++ u.flat ++ AV.flatL (vs.drop (i + 1)) := by
    rw [set_split hu]; simp [AV.flatL_append, AV.flatL]
  have hlen : (AV.flatL vs).length = off + old.size + AV.sizeL (vs.drop (i + 1)) := by
    rw [e1]; simp [AV.flatL_length, AV.flat_length, hoff]; omega
  simp only [Array.length_toList] at h1
  have hfit : off + u.size ≤ cells.size := by omega
  have hfold : c.cells.zipIdx.foldl (fun cs (x, j) => cs.setIfInBounds (off + j) x) cells = (List.range u.size).foldl (fun cs j => cs.setIfInBounds (off + j) (c.cells.getD j Go.undef)) cells := by
    rw [← Array.foldl_toList, Array.toList_zipIdx]
    have := foldl_set (cs := cells) (off := off) c.cells.toList 0 cells
    simp only [Nat.zero_add, Array.length_toList, q1] at this
    rw [this]
    congr 1
    funext cs j
    simp [Array.getD_eq_getD_getElem?, List.getD_eq_getElem?_getD]
  refine ⟨q1, hfit, ?_, fun k hk => ?_⟩
  · rw [hfold, Array.length_toList, (foldl_range_get (k := 0) u.size cells hfit).1, e2]
    simp [AV.flatL_length, AV.flat_length, hs]; omega
  · have hget := (foldl_range_get (off := off) (k := k) (f := fun j => c.cells.getD j Go.undef) u.size cells hfit).2
    rw [hfold, getD_toList, hget]
    rw [e2] at hk ⊢
    have hpre : (AV.flatL (vs.take i)).length = off := by rw [AV.flatL_length]; exact hoff.symm
    by_cases hin : off ≤ k ∧ k < off + u.size
    · rw [if_pos hin]
      have : k = (AV.flatL (vs.take i)).length + (k - off) := by omega
      rw [this, getD_mid _ _ _ _ _ (by rw [AV.flat_length]; omega)]
      have e3 : (AV.flatL (vs.take i)).length + (k - off) - off = k - off := by omega
      rw [e3]
      exact q2 (k - off) (by omega)
    · rw [if_neg hin]
      simp only [List.length_append, AV.flat_length, AV.flatL_length] at hk
      have h6 := h2 k (by rw [hlen]; omega)
      rw [e1] at h6
      have e4 : (AV.flatL (vs.take i) ++ u.flat ++ AV.flatL (vs.drop (i + 1))).getD k AV.undef = (AV.flatL (vs.take i) ++ old.flat ++ AV.flatL (vs.drop (i + 1))).getD k AV.undef := by
        rw [List.getD_eq_getElem?_getD, List.getD_eq_getElem?_getD]
        rcases Nat.lt_or_ge k off with hlt | hge
        · simp [List.getElem?_append, hpre, hlt]
        · have hge2 : off + u.size ≤ k := by omega
          rw [List.getElem?_append_right (by simp [AV.flat_length, hpre]; omega), List.getElem?_append_right (by simp [AV.flat_length, hpre]; omega)]
          simp [AV.flat_length, hs]
      rw [e4]
      simpa [Array.getD_eq_getD_getElem?, List.getD_eq_getElem?_getD] using h6

/-- The parts fit their places. -/
def PartsOk (place : Nat → Option (Nat × Nat)) : List AV → List (Nat × AV) → Prop
  | _, [] => True
  | vs, (i, u) :: r => u.layable = true ∧ (∃ old, vs[i]? = some old ∧ u.size = old.size ∧ place i = some (AV.sizeL (vs.take i), u.size)) ∧ PartsOk place (vs.set i u) r

theorem fill_rel {w : World} {I : Nat → Prop} {ρ : Rho} {place : Nat → Option (Nat × Nat)} : ∀ (us : List (Nat × AV)) (ps : List (Nat × Value)) (vs : List AV) (cells : Array Value), us.map (·.1) = ps.map (·.1) →
    (∀ k, k < us.length → XRel w I ρ (us.getD k (0, .undef)).2 (ps.getD k (0, Go.undef)).2) → PartsOk place vs us → CsRel w I ρ (AV.flatL vs) cells.toList →
    ∃ cells', Instr.fill place cells ps = some cells' ∧ CsRel w I ρ (AV.flatL (setParts vs us)) cells'.toList
  | [], [], vs, cells, _, _, _, hc => ⟨cells, rfl, hc⟩
  | [], _ :: _, vs, cells, h, _, _, _ => by simp at h
  | _ :: _, [], vs, cells, h, _, _, _ => by simp at h
  | (i, u) :: us, (i', c) :: ps, vs, cells, h, hx, hp, hc => by
    simp only [List.map_cons, List.cons.injEq] at h
    obtain ⟨rfl, h⟩ := h
    obtain ⟨h1, ⟨old, h2, h3, h4⟩, h5⟩ := hp
    obtain ⟨g1, g2, g3⟩ := fill_step hc h2 rfl h3 (by simpa using hx 0 (by simp)) h1
    obtain ⟨cells', k1, k2⟩ := fill_rel us ps (vs.set i u) _ h (fun k hk => by simpa using hx (k + 1) (by simpa using hk)) h5 g3
    refine ⟨cells', ?_, k2⟩
    simp only [Instr.fill, h4]
    rw [if_neg (by simp; exact ⟨g1, by omega⟩)]
    exact k1

theorem parts_rel {w : World} {I : Nat → Prop} {ρ : Rho} {a : Act} {ps : List (Nat × Operand)} {us : List (Nat × AV)} (hps : ps.map (fun x => (x.1, ev x.2)) = us.map (fun x => (x.1, some x.2))) (hlay : ∀ x, x ∈ us → x.2.layable = true)
    (hev : ∀ x, x ∈ ps → ∀ v, ev x.2 = some v → VRel w I ρ v (a.eval x.2)) :
    us.map (·.1) = (ps.map fun x => (x.1, a.eval x.2)).map (·.1) ∧ ∀ k, k < us.length → XRel w I ρ (us.getD k (0, .undef)).2 ((ps.map fun x => (x.1, a.eval x.2)).getD k (0, Go.undef)).2 := by
  induction ps generalizing us with
  | nil => cases us <;> simp at hps ⊢
  | cons p ps ih =>
    cases us with
    | nil => simp at hps
    | cons u us =>
      simp only [List.map_cons, List.cons.injEq, Prod.mk.injEq] at hps
      obtain ⟨⟨h1, h2⟩, h3⟩ := hps
      obtain ⟨g1, g2⟩ := ih h3 (fun x hx => hlay x (by simp [hx])) (fun x hx => hev x (by simp [hx]))
      refine ⟨by simp only [List.map_cons, List.cons.injEq]; exact ⟨h1.symm, g1⟩, fun k hk => ?_⟩
      cases k with
      | zero =>
        simp only [List.getD_cons_zero, List.map_cons]
        exact XRel.of_V (hev p (by simp) _ h2) (layable_ne (hlay u (by simp))).2
      | succ k => simpa using g2 k (by simpa using hk)

/-- Where a struct's fields lie. -/
def fieldPlaces (P : Program) (fs : Array Field) (i : Nat) : Option (Nat × Nat) := (fs[i]?).bind fun f => (szOf P f.type).map fun n => (f.offset, n)

theorem run_places {fs : Array Field} (h : ∀ f, f ∈ fs → (szOf P f.type).isSome = true) (w : World) : ∃ places : Array (Nat × Nat), (fs.mapM fun f => do pure (f.offset, ← sizeOf f.type) : Sem _).run P w = .ok places w ∧ ∀ i : Nat, places[i]? = fieldPlaces P fs i := by
  obtain ⟨l⟩ := fs
  have key : ∀ l : List Field, (∀ f, f ∈ l → (szOf P f.type).isSome = true) → ∃ places : List (Nat × Nat), (l.mapM fun f => do pure (f.offset, ← sizeOf f.type) : Sem _).run P w = .ok places w ∧ ∀ i : Nat, places[i]? = (l[i]?).bind fun f => (szOf P f.type).map fun n => (f.offset, n) := by
    intro l
    induction l with
    | nil => intro _; exact ⟨[], rfl, by simp⟩
    | cons f l ih =>
      intro h
      obtain ⟨places, h1, h2⟩ := ih fun g hg => h g (by simp [hg])
      have hf := h f (by simp)
      cases hs : szOf P f.type with
      | none => rw [hs] at hf; cases hf
      | some n =>
        refine ⟨(f.offset, n) :: places, ?_, fun i => ?_⟩
        · simp only [List.mapM_cons, Sem.run_bind, run_sizeOf' hs, Result.andThen_ok, Sem.run_pure, h1]
        · cases i with
          | zero => simp [hs]
          | succ i => simpa using h2 i
  obtain ⟨places, h1, h2⟩ := key l (by simpa using h)
  refine ⟨places.toArray, ?_, fun i => by simpa [fieldPlaces] using h2 i⟩
  rw [List.mapM_toArray]
  simp only [Sem.run_map, h1, Result.andThen_ok]

theorem ls_build_struct {T : TypeId} {ps : Array (Nat × Operand)} {us : List (Nat × AV)} {zs : List AV} {fs : Array Field} (ho : o.op = .build T ps) (hT : P.underlying T = some (.struct fs)) (hz : ZeroIs P T (.agg zs))
    (hps : ps.toList.map (fun x => (x.1, ev x.2)) = us.map (fun x => (x.1, some x.2))) (hfs : ∀ f, f ∈ fs → (szOf P f.type).isSome = true) (hp : PartsOk (fieldPlaces P fs) zs us) (hlay : ∀ x, x ∈ us → x.2.layable = true) :
    LS P o ev H ⟨.agg (setParts zs us), [], [], []⟩ := by
  refine LS.value fun a w I ρ hev hrd => ?_
  obtain ⟨_, c, hzr, hzx⟩ := hz
  obtain ⟨cs, rfl, hcs⟩ := hzx w I ρ
  obtain ⟨g1, g2⟩ := parts_rel (w := w) (I := I) (ρ := ρ) (a := a) hps hlay (fun x hx v hv => hev x.2 (by rw [ho]; simp [Op.operands]; exact ⟨x.1, by simpa using hx⟩) v hv)
  obtain ⟨places, p1, p2⟩ := run_places (P := P) hfs w
  obtain ⟨cells', k1, k2⟩ := fill_rel us _ zs cs g1 g2 hp hcs
  refine ⟨.agg cells', ⟨cells', rfl, k2⟩, ?_⟩
  have hpl : (fun i => places[i]?) = fieldPlaces P fs := funext p2
  simp only [execOp, ho, Instr.build, Sem.run_bind, hzr, Result.andThen_ok, run_underlying' hT, p1, Value.cells, hpl, Array.toList_map, k1, Sem.run_pure]

theorem ls_build_array {T E : TypeId} {n sz : Nat} {ps : Array (Nat × Operand)} {us : List (Nat × AV)} {zs : List AV} (ho : o.op = .build T ps) (hT : P.underlying T = some (.array n E)) (hz : ZeroIs P T (.agg zs)) (hE : szOf P E = some sz)
    (hps : ps.toList.map (fun x => (x.1, ev x.2)) = us.map (fun x => (x.1, some x.2))) (hp : PartsOk (fun i => some (i * sz, sz)) zs us) (hlay : ∀ x, x ∈ us → x.2.layable = true) :
    LS P o ev H ⟨.agg (setParts zs us), [], [], []⟩ := by
  refine LS.value fun a w I ρ hev hrd => ?_
  obtain ⟨_, c, hzr, hzx⟩ := hz
  obtain ⟨cs, rfl, hcs⟩ := hzx w I ρ
  obtain ⟨g1, g2⟩ := parts_rel (w := w) (I := I) (ρ := ρ) (a := a) hps hlay (fun x hx v hv => hev x.2 (by rw [ho]; simp [Op.operands]; exact ⟨x.1, by simpa using hx⟩) v hv)
  obtain ⟨cells', k1, k2⟩ := fill_rel us _ zs cs g1 g2 hp hcs
  refine ⟨.agg cells', ⟨cells', rfl, k2⟩, ?_⟩
  simp only [execOp, ho, Instr.build, Sem.run_bind, hzr, Result.andThen_ok, run_underlying' hT, run_sizeOf' hE, Value.cells, Array.toList_map, k1, Sem.run_pure]

end
end Go.Proofs.Ytbhhbadeabhfcaa
