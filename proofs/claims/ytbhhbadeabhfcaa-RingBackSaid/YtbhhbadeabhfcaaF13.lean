/- Rows made, appended to, copied; bytes to a text. -/
import Derived.Test.YtbhhbadeabhfcaaF12
set_option linter.unusedVariables false
set_option linter.unusedSimpArgs false
namespace Go.Proofs.Ytbhhbadeabhfcaa
open Go Go.RowKit

theorem wrap_id {k : IntKind} {n : Int} (h1 : k.min ≤ n) (h2 : n ≤ k.max) : k.wrap n = n := by
  cases k <;> simp [IntKind.min, IntKind.max, IntKind.bits, IntKind.signed, IntKind.wrap] at * <;> (try split) <;> omega
theorem wrap_i64 {n : Int} (h1 : -9223372036854775808 ≤ n) (h2 : n ≤ 9223372036854775807) : IntKind.i64.wrap n = n :=
  wrap_id (by simpa [IntKind.min, IntKind.bits, IntKind.signed] using h1) (by simpa [IntKind.max, IntKind.bits, IntKind.signed] using h2)

theorem flatL_replicate_get (z : AV) (d : AV) : ∀ (n k : Nat), k < n * z.size → (AV.flatL (List.replicate n z)).getD k d = z.flat.getD (k % z.size) d
  | 0, k, h => by simp at h
  | n + 1, k, h => by
    have hz : 0 < z.size := by
      rcases Nat.eq_zero_or_pos z.size with h0 | h0
      · rw [h0] at h; simp at h
      · exact h0
    simp only [List.replicate_succ, AV.flatL]
    by_cases hk : k < z.size
    · rw [Nat.mod_eq_of_lt hk, List.getD_eq_getElem?_getD, List.getD_eq_getElem?_getD, List.getElem?_append_left (by rw [AV.flat_length]; exact hk)]
    · have : k = z.size + (k - z.size) := by omega
      rw [List.getD_eq_getElem?_getD, List.getElem?_append_right (by rw [AV.flat_length]; omega), AV.flat_length, ← List.getD_eq_getElem?_getD, flatL_replicate_get z d n (k - z.size) (by rw [Nat.succ_mul] at h; omega)]
      congr 1
      conv => rhs; rw [this, Nat.add_mod_left]

theorem sizeL_replicate (z : AV) (n : Nat) : AV.sizeL (List.replicate n z) = n * z.size := by
  induction n with
  | zero => simp [AV.sizeL]
  | succ n ih => simp only [List.replicate_succ, AV.sizeL, ih, Nat.succ_mul]; omega

theorem zeros_rel {w : World} {I : Nat → Prop} {ρ : Rho} {z : AV} {c : Value} (n : Nat) (hz : z.layable = true) (hx : XRel w I ρ z c) :
    CsRel w I ρ (AV.flatL (List.replicate n z)) ((Array.range (n * z.size)).map (fun i => c.cells[i % c.cells.size]!)).toList := by
  obtain ⟨h1, h2, _⟩ := cells_rel hx (layable_ne hz).1
  refine ⟨by rw [AV.flatL_length, sizeL_replicate]; simp, fun k hk => ?_⟩
  rw [AV.flatL_length, sizeL_replicate] at hk
  rw [flatL_replicate_get z _ n k hk, getD_toList, Array.getD_eq_getD_getElem?, Array.getElem?_map, Array.getElem?_range, if_pos hk]
  have hz : 0 < z.size := by
    rcases Nat.eq_zero_or_pos z.size with h0 | h0
    · rw [h0] at hk; simp at hk
    · exact h0
  have hlt : k % z.size < z.size := Nat.mod_lt _ hz
  have := h2 (k % z.size) hlt
  rw [h1]
  simp only [Option.map_some, Option.getD_some]
  have e1 : c.cells[k % z.size]! = c.cells.getD (k % z.size) Go.undef := by
    have hlt' : k % z.size < c.cells.size := by omega
    simp [Array.getD_eq_getD_getElem?, hlt']
  rw [e1]; exact this

section
variable {P : Program} {o : Oper} {ev : Operand → Option AV} {H : Nat → Option ABlk} {v : AV} {rd : List Nat}

/-- A row of the call's own that begins its block. -/
theorem lies_row {w w' : World} {I : Nat → Prop} {ρ ρ' : Rho} {own : Nat → Prop} {xs : List AV} {arr : Array Value} {b T : Nat} (hx : Ext own w w' I I ρ ρ') (hi : Imm own w I) {cs : List Value} {rest : Array Value} (ha : arr = cs.toArray ++ rest) (hr : CsRel w I ρ xs cs)
    (hb : w'.heap[b]? = some (.cells arr T (0, 0))) : Lies w' I ρ' b 0 arr.size xs := by
  refine ⟨arr, T, (0, 0), hb, by simp, fun k _ h => by omega, by rw [ha, ← hr.1]; simp, fun k hk => ?_⟩
  have := (hr.2 k hk).mono hx hi
  have hk' : k < cs.length := by rw [hr.1]; exact hk
  rw [Nat.zero_add, ha]
  simpa [Array.getD_eq_getD_getElem?, List.getD_eq_getElem?_getD, Array.getElem?_append, hk'] using this

theorem run_zeroValue_some {T : TypeId} {z : AV} (hz : ZeroIs P T z) : ∃ c, (∀ w, (zeroValue T).run P w = .ok c w) ∧ ∀ w I ρ, XRel w I ρ z c := hz.2

theorem ls_makeSlice {T E : TypeId} {x y : Operand} {l c : Int} {k k' : IntKind} {z : AV} {wd : Nat} {i : TypeInfo} (m : Nat) (ho : o.op = .makeSlice T x y) (hx : ev x = some (.int k l)) (hy : ev y = some (.int k' c)) (hT : P.underlying T = some (.slice E)) (hz : ZeroIs P E z) (hzs : z.size = wd)
    (hi : P.info? E = some i) (hsz : i.size = wd) (h0 : 0 ≤ l) (h1 : l ≤ c) (h2 : (i.bytes : Int) * c ≤ 140737488355328) (h3 : c ≤ 9223372036854775807) : LS P o ev H ⟨.sl m 0 [] 0 l.toNat c.toNat wd, [], [], [(m, .cells (.agg (List.replicate c.toNat z)))]⟩ := by
  intro a w I ρ hd hev hrd hinj himm hfr K Q hK
  have g1 := inv_int (hev x (by simp [ho, Op.operands]) _ hx)
  have g2 := inv_int (hev y (by simp [ho, Op.operands]) _ hy)
  obtain ⟨hlay, zc, hzr, hzx⟩ := hz
  obtain ⟨q1, q2, _⟩ := cells_rel (hzx w I ρ) (layable_ne hlay).1
  have hwl : IntKind.i64.wrap l = l := wrap_i64 (by omega) (by omega)
  have hwc : IntKind.i64.wrap c = c := wrap_i64 (by omega) (by omega)
  have hsz' : szOf P E = some wd := by simp [szOf, hi, hsz]
  have t1 : ¬ (c < 0) := by omega
  have t2 : ¬ (l < 0) := by omega
  have t3 : ¬ (l > c) := by omega
  have t4 : ¬ ((i.bytes : Int) * c > 2 ^ 48) := by omega
  have hrow := zeros_rel (w := w) (I := I) (ρ := ρ) c.toNat hlay (hzx w I ρ)
  rw [hzs] at hrow
  have hti : (typeInfo E).run P w = .ok i w := by simp [typeInfo, hi]
  have hrun : (execOp a.eval o).run P w = .ok (.value (.slice (some ⟨w.heap.size, 0, none⟩) l.toNat c.toNat)) { w with heap := w.heap.push (.cells ((Array.range (c.toNat * wd)).map (fun i => zc.cells[i % zc.cells.size]!)) E) } := by
    simp only [execOp, ho, g1, g2, Instr.makeSlice, Sem.run_bind, run_underlying' hT, Result.andThen_ok, asInt, asIntOf, pure_bind, Sem.run_pure, hti, hwl, hwc, t1, t2, t3, t4, decide_false, Bool.or_false, Bool.false_eq_true, if_false, Sem.run_ite, run_askRoom, run_sizeOf' hsz']
    by_cases hn : c.toNat * wd = 0
    · have e0 : ∀ f : Nat → Value, (Array.range (c.toNat * wd)).map f = #[] := fun f => by rw [hn]; apply Array.ext'; simp
      have e1 : ∀ f : Nat → Value, (Array.range 0).map f = #[] := fun f => by apply Array.ext'; simp
      simp [e0, hn, newRow, e1]
    · simp [hn, hzr, newRow]
  unfold Oper.wp
  rw [hrun]
  obtain ⟨ρ', hp⟩ := post_new (w := w) (w' := { w with heap := w.heap.push (.cells ((Array.range (c.toNat * wd)).map (fun i => zc.cells[i % zc.cells.size]!)) E) }) (I := I) (ρ := ρ) (e := ⟨.sl m 0 [] 0 l.toNat c.toNat wd, [], [], [(m, .cells (.agg (List.replicate c.toNat z)))]⟩)
    (c := .slice (some ⟨w.heap.size, 0, none⟩) l.toNat c.toNat) (r := c.toNat * wd) (m := m) (blk := .cells (.agg (List.replicate c.toNat z))) rfl (hfr m (.cells (.agg (List.replicate c.toNat z))) (by simp [Heap.get]) (by simp)) himm rfl rfl rfl rfl fun ρ' hx hb hm hI =>
      ⟨CRel.sl _ _ _ _ _ _ _ _ _ _ _ hm (by omega) (Nat.le_refl _) (by omega), ⟨_, _, _, hm, hI, by
        have := lies_row (arr := (Array.range (c.toNat * wd)).map (fun i => zc.cells[i % zc.cells.size]!)) (rest := #[]) hx himm (by apply Array.ext'; simp) hrow hb
        simpa [AV.flat] using this⟩⟩
  exact hK _ _ _ _ hp

theorem ls_buildSlice {T E : TypeId} {n wd : Nat} {ps : Array (Nat × Operand)} {us : List (Nat × AV)} {z : AV} (m : Nat) (ho : o.op = .buildSlice T n ps) (hT : P.underlying T = some (.slice E)) (hz : ZeroIs P E z) (hzs : z.size = wd) (hE : szOf P E = some wd) (hb : n * wd ≤ 2 ^ 24)
    (hps : ps.toList.map (fun x => (x.1, ev x.2)) = us.map (fun x => (x.1, some x.2))) (hp : PartsOk (fun i => some (i * wd, wd)) (List.replicate n z) us) (hlay : ∀ x, x ∈ us → x.2.layable = true) :
    LS P o ev H ⟨.sl m 0 [] 0 n n wd, [], [], [(m, .cells (.agg (setParts (List.replicate n z) us)))]⟩ := by
  intro a w I ρ hd hev hrd hinj himm hfr K Q hK
  obtain ⟨hlz, zc, hzr, hzx⟩ := hz
  have hrow := zeros_rel (w := w) (I := I) (ρ := ρ) n hlz (hzx w I ρ)
  rw [hzs] at hrow
  obtain ⟨g1, g2⟩ := parts_rel (w := w) (I := I) (ρ := ρ) (a := a) hps hlay (fun x hx v hv => hev x.2 (by rw [ho]; simp [Op.operands]; exact ⟨x.1, by simpa using hx⟩) v hv)
  obtain ⟨cells', k1, k2⟩ := fill_rel us _ _ _ g1 g2 hp hrow
  have hlim : ¬ (n * wd > 2 ^ 24) := by omega
  have hrun : (execOp a.eval o).run P w = .ok (.value (.slice (some ⟨w.heap.size, 0, none⟩) n n)) { w with heap := w.heap.push (.cells cells' E) } := by
    simp only [execOp, ho, Instr.buildSlice, Sem.run_bind, run_underlying' hT, Result.andThen_ok, run_sizeOf' hE, Sem.run_ite, hlim, if_false, Sem.run_pure]
    by_cases hn : n * wd = 0
    · have e0 : ∀ f : Nat → Value, (Array.range (n * wd)).map f = #[] := fun f => by rw [hn]; apply Array.ext'; simp
      have e1 : ∀ f : Nat → Value, (Array.range 0).map f = #[] := fun f => by apply Array.ext'; simp
      rw [e0] at k1
      simp [e0, hn, e1, k1, newRow]
    · simp [hn, hzr, k1, newRow]
  unfold Oper.wp
  rw [hrun]
  have hsz : (AV.flatL (setParts (List.replicate n z) us)).length = n * wd := by
    have key : ∀ (us : List (Nat × AV)) (vs : List AV), PartsOk (fun i => some (i * wd, wd)) vs us → AV.sizeL (setParts vs us) = AV.sizeL vs := by
      intro us
      induction us with
      | nil => intro vs _; rfl
      | cons u us ih =>
        intro vs hp
        obtain ⟨i, u⟩ := u
        obtain ⟨_, ⟨old, h2, h3, _⟩, h5⟩ := hp
        simp only [setParts]
        rw [ih _ h5]
        have e1 := flatL_at h2
        rw [← AV.flatL_length, ← AV.flatL_length, set_split h2, e1]
        simp [AV.flatL_append, AV.flatL, AV.flat_length, AV.flatL_length, h3]
    rw [AV.flatL_length, key us _ hp, sizeL_replicate, hzs]
  have hcl : cells'.size = n * wd := by have := k2.1; rw [hsz] at this; simpa using this
  obtain ⟨ρ', hp'⟩ := post_new (w := w) (w' := { w with heap := w.heap.push (.cells cells' E) }) (I := I) (ρ := ρ) (e := ⟨.sl m 0 [] 0 n n wd, [], [], [(m, .cells (.agg (setParts (List.replicate n z) us)))]⟩)
    (c := .slice (some ⟨w.heap.size, 0, none⟩) n n) (r := n * wd) (m := m) (blk := .cells (.agg (setParts (List.replicate n z) us))) rfl (hfr m (.cells (.agg (setParts (List.replicate n z) us))) (by simp [Heap.get]) (by simp)) himm rfl rfl rfl rfl fun ρ' hx hb hm hI =>
      ⟨CRel.sl _ _ _ _ _ _ _ _ _ _ _ hm (Nat.le_refl _) (Nat.le_refl _) (by omega), ⟨_, _, _, hm, hI, by
        have := lies_row (arr := cells') (rest := #[]) hx himm (by simp) k2 hb
        rw [hcl] at this; exact this⟩⟩
  exact hK _ _ _ _ hp'

/-- What append does where it lays a new row. -/
theorem run_append_new {T1 T2 E ty : TypeId} {d2 : TypeDesc} {wd bytes k n : Nat} {base : Option Addr} {len : Nat} {zc x : Value} {old new : Array Value} {w : World} {i : TypeInfo} (hT : P.underlying T1 = some (.slice E)) (hT2 : P.underlying T2 = some d2) (hd2 : ∀ k, d2 ≠ .int k) (hi : P.info? E = some i) (hsz : i.size = wd) (hby : i.bytes = bytes)
    (hz : ∀ w, (zeroValue E).run P w = .ok zc w) (hlen : (Builtin.lenOf x).run P w = .ok n w) (hold : ∀ w', w'.heap = w.heap → (Builtin.firstCells wd len (.slice base len k)).run P w' = .ok old w') (hnew : ∀ w', w'.heap = w.heap → (Builtin.firstCells wd n x).run P w' = .ok new w')
    (hg : k < len + n) (hb : (len + n) * bytes ≤ 140737488355328) (hb2 : len + n ≤ 9223372036854775807) :
    ∃ c, len + n ≤ c ∧ (Builtin.append_ #[T1, T2] ty #[.slice base len k, x]).run P w = .ok (.slice (some ⟨w.heap.size, 0, none⟩) (len + n) c) ({ w with heap := w.heap.push (.cells (old ++ new ++ Builtin.zeroCells zc.cells (c - (len + n))) E), drawn := w.drawn + 1 }) := by
  refine ⟨(Question.appendCap (len + n) k E).cut (w.tape w.drawn (.appendCap (len + n) k E)), by simp [Question.cut], ?_⟩
  have hsz' : szOf P E = some wd := by simp [szOf, hi, hsz]
  have hti : ∀ w, (typeInfo E).run P w = .ok i w := fun w => by simp [typeInfo, hi]
  have hm : (match d2 with | .int _ => true | _ => false) = false := by cases d2 <;> first | rfl | exact absurd rfl (hd2 _)
  have hn : ¬ (len + n ≤ k) := by omega
  have h63 : ¬ (((len + n : Nat) : Int) > IntKind.i64.max) := by
    have : IntKind.i64.max = 9223372036854775807 := by decide
    rw [this]; omega
  have h48 : ¬ (Builtin.nextslicecap (len + n) k * i.bytes > 2 ^ 48) := by
    have := growslice_fits (old := k) (need := len + n) (bytes := bytes) hg hb
    rw [hby]; omega
  have ho1 := hold { w with drawn := w.drawn + 1 } rfl
  have ho2 := hnew { w with drawn := w.drawn + 1 } rfl
  simp only [World.drew_eq] at ho1 ho2
  simp only [Builtin.append_, List.getElem?_toArray, List.getElem?_cons_zero, List.getElem?_cons_succ, Sem.run_bind, run_underlying' hT, Result.andThen_ok, run_sizeOf' hsz', run_underlying' hT2, hm, Bool.false_eq_true, if_false, Sem.run_pure, hlen, Sem.run_ite, hn, h63, false_and, hti, h48, run_choose, Question.forced, run_askRoom, ho1, ho2, hz, newRow, run_newObj, Bool.not_false, if_true,
    World.drew_eq, World.size_drew, World.alloc_eq]
  rfl

end
end Go.Proofs.Ytbhhbadeabhfcaa
