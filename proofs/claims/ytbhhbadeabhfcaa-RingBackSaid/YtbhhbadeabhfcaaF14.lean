/- append, copy, bytes to a text. -/
import Derived.Test.YtbhhbadeabhfcaaF13
set_option linter.unusedVariables false
set_option linter.unusedSimpArgs false
namespace Go.Proofs.Ytbhhbadeabhfcaa
open Go Go.RowKit

theorem CsRel.append {w : World} {I : Nat → Prop} {ρ : Rho} {xs ys : List AV} {cs ds : List Value} (h : CsRel w I ρ xs cs) (k : CsRel w I ρ ys ds) : CsRel w I ρ (xs ++ ys) (cs ++ ds) := by
  refine ⟨by simp [h.1, k.1], fun j hj => ?_⟩
  by_cases hjx : j < xs.length
  · have := h.2 j hjx
    have hjc : j < cs.length := by rw [h.1]; exact hjx
    simpa [List.getD_eq_getElem?_getD, List.getElem?_append, hjx, hjc] using this
  · have := k.2 (j - xs.length) (by simp at hj; omega)
    have hjc : ¬ j < cs.length := by rw [h.1]; exact hjx
    simpa [List.getD_eq_getElem?_getD, List.getElem?_append, hjx, hjc, h.1] using this

section
variable {P : Program} {o : Oper} {ev : Operand → Option AV} {H : Nat → Option ABlk} {v : AV} {rd : List Nat}

/-- What an element type must be for a row of it to grow. -/
structure ElemOk (P : Program) (T1 T2 E : TypeId) (wd bytes : Nat) : Prop where
  t1 : P.underlying T1 = some (.slice E)
  t2 : ∃ d, P.underlying T2 = some d ∧ ∀ k, d ≠ .int k
  info : ∃ i, P.info? E = some i ∧ i.size = wd ∧ i.bytes = bytes
  zero : ∃ z, ZeroIs P E z ∧ z.size = wd

theorem run_append_exec {T1 T2 : TypeId} {x y : Operand} {a : Act} (ho : o.op = .call { callee := .builtin .append, args := #[x, y], argTypes := #[T1, T2] }) (w : World) :
    (execOp a.eval o).run P w = ((Builtin.append_ #[T1, T2] o.type #[a.eval x, a.eval y]).run P w).andThen fun v w' => .ok (.value v) w' := by
  simp [execOp, ho, resolve, invoke, builtin]

theorem post_grown {w w' : World} {I : Nat → Prop} {ρ : Rho} {wr : List Nat} {m E c wd : Nat} {olds news : List AV} {old new : Array Value} {zc : Value} (hz : zc.cells.size = wd) (hρ : ρ m = none) (himm : Imm (OwnW ρ wr) w I)
    (ho : CsRel w I ρ (AV.flatL olds) old.toList) (hn : CsRel w I ρ (AV.flatL news) new.toList) (huo : Unif wd olds) (hun : Unif wd news) (hc : olds.length + news.length ≤ c)
    (hw : w' = { w with heap := w.heap.push (.cells (old ++ new ++ Builtin.zeroCells zc.cells (c - (olds.length + news.length))) E), drawn := w.drawn + 1 }) :
    ∃ ρ', LSPost w I ρ ⟨.sl m 0 [] 0 (olds.length + news.length) (olds.length + news.length) wd, rd, wr, [(m, .cells (.agg (olds ++ news)))]⟩ (.slice (some ⟨w.heap.size, 0, none⟩) (olds.length + news.length) c) w' I ρ' := by
  have h1 : old.size = olds.length * wd := by have := ho.1; rw [AV.flatL_length, huo.sizeL] at this; simpa using this
  have h2 : new.size = news.length * wd := by have := hn.1; rw [AV.flatL_length, hun.sizeL] at this; simpa using this
  have h3 : (Builtin.zeroCells zc.cells (c - (olds.length + news.length))).size = (c - (olds.length + news.length)) * wd := by simp [Builtin.zeroCells, hz]
  have h4 : (old ++ new ++ Builtin.zeroCells zc.cells (c - (olds.length + news.length))).size = c * wd := by
    rw [Array.size_append, Array.size_append, h1, h2, h3, ← Nat.add_mul, ← Nat.add_mul]; congr 1; omega
  have hrel := ho.append hn
  rw [← AV.flatL_append] at hrel
  exact post_new (w := w) (w' := w') (I := I) (ρ := ρ) (m := m) (r := c * wd) (blk := .cells (.agg (olds ++ news))) rfl hρ himm (by rw [hw]) (by rw [hw]) (by rw [hw]) (by rw [hw]) fun ρ' hx hb hm hI =>
    ⟨CRel.sl _ _ _ _ _ _ _ _ _ _ _ hm (Nat.le_refl _) hc (by omega), _, _, _, hm, hI, by
      have := lies_row (rest := Builtin.zeroCells zc.cells (c - (olds.length + news.length))) hx himm (by apply Array.ext'; simp) hrel hb
      rw [h4] at this; exact this⟩

/-- Onto nil. -/
theorem ls_append_nil {T1 T2 E : TypeId} {x y : Operand} {wd bytes : Nat} {xs : List AV} {u : AV} (m : Nat) (ho : o.op = .call { callee := .builtin .append, args := #[x, y], argTypes := #[T1, T2] }) (he : ElemOk P T1 T2 E wd bytes)
    (hx : ev x = some .nilsl) (hy : ev y = some u) (hs : IsSrc H wd u rd xs) (hne : 0 < xs.length) (hb : xs.length * bytes ≤ 140737488355328) (hb2 : xs.length ≤ 9223372036854775807) :
    LS P o ev H ⟨.sl m 0 [] 0 xs.length xs.length wd, rd, [], [(m, .cells (.agg xs))]⟩ := by
  intro a w I ρ hd hev hrd hinj himm hfr K Q hK
  have hcx := inv_nilsl (hev x (by simp [ho, Op.operands, Call.operands]) _ hx)
  obtain ⟨hu, hlen, hcs⟩ := src_rel (P := P) hs (hev y (by simp [ho, Op.operands, Call.operands]) _ hy) (fun n hn b hb => hrd n (.inl hn) b hb)
  obtain ⟨cs, hf, hrel⟩ := hcs xs.length (Nat.le_refl _)
  rw [List.take_length] at hrel
  obtain ⟨d, hd1, hd2⟩ := he.t2
  obtain ⟨i, hi, hi1, hi2⟩ := he.info
  obtain ⟨z, ⟨hlay, zc, hzr, hzx⟩, hzs⟩ := he.zero
  obtain ⟨q1, _, _⟩ := cells_rel (hzx w I ρ) (layable_ne hlay).1
  obtain ⟨c, hc1, hc2⟩ := run_append_new (ty := o.type) (k := 0) (base := none) (len := 0) (old := #[]) he.t1 hd1 hd2 hi hi1 hi2 hzr hlen (fun _ _ => rfl) hf (by omega) (by rw [Nat.zero_add]; exact hb) (by omega)
  unfold Oper.wp
  rw [run_append_exec ho, hcx, hc2]
  have hp := post_grown (rd := rd) (wr := []) (m := m) (E := E) (olds := []) (news := xs) (old := #[]) (new := cs) (zc := zc) (c := c) (wd := wd) (q1.trans hzs) (hfr m (.cells (.agg xs)) (by simp [Heap.get]) (by simp)) himm
    ⟨rfl, fun k hk => by simp [AV.flatL] at hk⟩ hrel (fun x hx => by simp at hx) hu (by simpa using hc1) rfl
  simp only [List.length_nil, List.nil_append, Nat.zero_add] at hp ⊢
  obtain ⟨ρ', hp⟩ := hp
  exact hK _ _ _ _ hp

theorem ls_append_nil0 {T1 T2 E : TypeId} {x y : Operand} {wd bytes : Nat} {xs : List AV} {u : AV} (ho : o.op = .call { callee := .builtin .append, args := #[x, y], argTypes := #[T1, T2] }) (he : ElemOk P T1 T2 E wd bytes)
    (hx : ev x = some .nilsl) (hy : ev y = some u) (hs : IsSrc H wd u rd xs) (hne : xs.length = 0) :
    LS P o ev H ⟨.nilsl, rd, [], []⟩ := by
  refine LS.value fun a w I ρ hev hrd => ?_
  have hcx := inv_nilsl (hev x (by simp [ho, Op.operands, Call.operands]) _ hx)
  obtain ⟨hu, hlen, hcs⟩ := src_rel (P := P) hs (hev y (by simp [ho, Op.operands, Call.operands]) _ hy) hrd
  obtain ⟨cs, hf, hrel⟩ := hcs 0 (Nat.zero_le _)
  obtain ⟨d, hd1, hd2⟩ := he.t2
  obtain ⟨i, hi, hi1, hi2⟩ := he.info
  have hsz' : szOf P E = some wd := by simp [szOf, hi, hi1]
  have hm : (match d with | .int _ => true | _ => false) = false := by cases d <;> first | rfl | exact absurd rfl (hd2 _)
  rw [hne] at hlen
  refine ⟨.slice none 0 0, CRel.nilsl, ?_⟩
  rw [run_append_exec ho, hcx]
  simp only [Builtin.append_, List.getElem?_toArray, List.getElem?_cons_zero, List.getElem?_cons_succ, Sem.run_bind, run_underlying' he.t1, Result.andThen_ok, run_sizeOf' hsz', run_underlying' hd1, hm, Bool.false_eq_true, if_false, Sem.run_pure, hlen, Sem.run_ite, Nat.add_zero, Nat.le_refl, if_true, Bool.not_false, hf w rfl]

/-- Onto a row of the call's own. -/
theorem ls_append_own {T1 T2 E : TypeId} {x y : Operand} {wd bytes n off i len cap : Nat} {es xs : List AV} {u : AV} (m : Nat) (ho : o.op = .call { callee := .builtin .append, args := #[x, y], argTypes := #[T1, T2] }) (he : ElemOk P T1 T2 E wd bytes)
    (hx : ev x = some (.sl n off [] i len cap wd)) (hH : H n = some (.cells (.agg es))) (hoff : off = i * wd) (hil : i + len ≤ es.length) (hue : Unif wd es) (hy : ev y = some u) (hs : IsSrc H wd u rd xs) (hnrd : n ∉ rd) (hmn : m ≠ n)
    (hb : (len + xs.length) * bytes ≤ 140737488355328) (hb2 : len + xs.length ≤ 9223372036854775807) :
    LS P o ev H ⟨.sl m 0 [] 0 (len + xs.length) (len + xs.length) wd, rd, [n], [(m, .cells (.agg ((es.drop i).take len ++ xs)))]⟩ := by
  intro a w I ρ hd hev hrd hinj himm hfr K Q hK
  have hvx := hev x (by simp [ho, Op.operands, Call.operands]) _ hx
  have hmfr : ρ m = none := hfr m (.cells (.agg ((es.drop i).take len ++ xs))) (by simp [Heap.get]) (by simpa using hmn)
  have hsx : IsSrc H wd (.sl n off [] i len cap wd) [n] ((es.drop i).take len) := .sl n off [] i len cap (.agg es) es hH rfl (by simpa [AV.offOf] using hoff) hil hue
  obtain ⟨huo, hleno, hcso⟩ := src_rel (P := P) hsx hvx (fun k hk b hb => hrd k (.inr hk) b hb)
  have holen : ((es.drop i).take len).length = len := by rw [List.length_take, List.length_drop]; omega
  obtain ⟨old, hfo, hrelo⟩ := hcso len (by omega)
  rw [List.take_of_length_le (by omega)] at hrelo
  obtain ⟨hu, hlen, hcs⟩ := src_rel (P := P) hs (hev y (by simp [ho, Op.operands, Call.operands]) _ hy) (fun n hn b hb => hrd n (.inl hn) b hb)
  obtain ⟨new, hf, hrel⟩ := hcs xs.length (Nat.le_refl _)
  rw [List.take_length] at hrel
  obtain ⟨d, hd1, hd2⟩ := he.t2
  obtain ⟨ti, hi, hi1, hi2⟩ := he.info
  obtain ⟨z, ⟨hlay, zc, hzr, hzx⟩, hzs⟩ := he.zero
  obtain ⟨q1, _, _⟩ := cells_rel (hzx w I ρ) (layable_ne hlay).1
  have hsz' : szOf P E = some wd := by simp [szOf, hi, hi1]
  have hm : (match d with | .int _ => true | _ => false) = false := by cases d <;> first | rfl | exact absurd rfl (hd2 _)
  obtain ⟨b0, o0, r0, hr0, hI0, hlies0⟩ := hrd n (.inr (by simp)) _ hH
  have hnewsz : new.size = xs.length * wd := by have := hrel.1; rw [AV.flatL_length, hu.sizeL] at this; simpa using this
  -- a new row
  have grow : ∀ (base : Option Addr) (k : Nat), a.eval x = .slice base len k → k < len + xs.length → Oper.wp P o a w K Q := by
    intro base k hk hlt
    rw [hk] at hfo
    obtain ⟨c, hc1, hc2⟩ := run_append_new (ty := o.type) (k := k) (base := base) (len := len) he.t1 hd1 hd2 hi hi1 hi2 hzr hlen hfo hf hlt hb hb2
    have hp := post_grown (rd := rd) (wr := [n]) (m := m) (E := E) (olds := (es.drop i).take len) (news := xs) (old := old) (new := new) (zc := zc) (c := c) (wd := wd) (q1.trans hzs) hmfr himm hrelo hrel huo hu (by omega) rfl
    rw [holen] at hp
    obtain ⟨ρ', hp⟩ := hp
    unfold Oper.wp
    rw [run_append_exec ho, hk, hc2]
    exact hK _ _ _ _ hp
  have inplace : ∀ (ad : Addr) (k : Nat) (w' : World), a.eval x = .slice (some ad) len k → len + xs.length ≤ k → (storeCells (ad.add (len * wd)) new.toList).run P w = .ok () w' →
      (Builtin.append_ #[T1, T2] o.type #[a.eval x, a.eval y]).run P w = .ok (.slice (some ad) (len + xs.length) k) w' := by
    intro ad k w' hk hle hst
    have hf1 := hf w rfl
    rw [hk]
    simp only [Builtin.append_, List.getElem?_toArray, List.getElem?_cons_zero, List.getElem?_cons_succ, Sem.run_bind, run_underlying' he.t1, Result.andThen_ok, run_sizeOf' hsz', run_underlying' hd1, hm, Bool.false_eq_true, if_false, Sem.run_pure, hlen, Sem.run_ite, hle, if_true, Bool.not_false, hf1, hst]
  rcases inv_sl hvx with ⟨h1, h2, ad, hc⟩ | ⟨b, base, r, k, hr, g1, g2, g3, hc⟩
  · by_cases hx0 : xs.length = 0
    · -- nothing onto nothing
      have hst := inplace ad 0 w (by rw [hc, h1]) (by omega) (by
        have : new.toList = [] := by
          have : new.size = 0 := by rw [hnewsz, hx0, Nat.zero_mul]
          simpa using this
        rw [this]; rfl)
      obtain ⟨ρ', hp⟩ := post_write (w := w) (w' := w) (I := I) (ρ := ρ) (e := ⟨.sl m 0 [] 0 (len + xs.length) (len + xs.length) wd, rd, [n], [(m, .cells (.agg ((es.drop i).take len ++ xs)))]⟩) (c := .slice (some ad) (len + xs.length) 0)
        (m := m) (o' := o0) (r' := r0) (blk := .cells (.agg ((es.drop i).take len ++ xs))) rfl rfl hr0 (.inr ⟨hmn, hmfr⟩) himm rfl (fun _ _ => rfl) rfl rfl rfl fun ρ' hx hm hI => by
          have hl0 : xs = [] := List.length_eq_zero_iff.1 hx0
          subst h1; subst hl0
          refine ⟨CRel.sl0 _ _ _ _ _ ad, b0, o0, r0, hm, hI, ?_⟩
          obtain ⟨arr, T, fz, k1, k2, k3, k4, k5⟩ := hlies0.ex
          exact ⟨arr, T, fz, k1, k2, k3, by simp [AV.flat, AV.flatL], fun k hk => by simp [AV.flat, AV.flatL] at hk⟩
      unfold Oper.wp
      rw [run_append_exec ho, hst]
      exact hK _ _ _ _ hp
    · exact grow (some ad) 0 (by rw [hc, h1]) (by omega)
  · have e0 : some (b, base, r) = some (b0, o0, r0) := hr.symm.trans hr0
    injection e0 with e0; injection e0 with e1 e0; injection e0 with e2 e3
    subst e1; subst e2; subst e3
    by_cases hle : len + xs.length ≤ k
    · -- in place
      obtain ⟨arr, T, fz, k1, k2, k3, k4, k5⟩ := hlies0.ex
      have hlw : len * wd + xs.length * wd ≤ k * wd := by rw [← Nat.add_mul]; exact Nat.mul_le_mul_right _ hle
      have hone : ∀ v, v ∈ new.toList → v.oneCell' = true := by
        intro v hv
        obtain ⟨j, hj, rfl⟩ := List.getElem_of_mem hv
        have := (hrel.2 j (by rw [← hrel.1]; exact hj)).one
        rwa [List.getD_eq_getElem?_getD, List.getElem?_eq_getElem hj] at this
      obtain ⟨arr', w', s1, s2, s3, s4, s5, s6, s7, s8, s9⟩ := run_storeCells' (P := P) (b := b) (off := base + off + len * wd) new.toList 0 w arr k1 (by simp only [Array.length_toList, hnewsz]; omega) k3 hone
      have hst := inplace ⟨b, base + off, none⟩ k w' hc hle (by simp only [add_mk]; exact s1)
      simp only [Array.length_toList, hnewsz, Nat.add_zero] at s4
      have hflat : (AV.flatL es).length = es.length * wd := by rw [AV.flatL_length, hue.sizeL]
      have hilw : i * wd + len * wd ≤ es.length * wd := by rw [← Nat.add_mul]; exact Nat.mul_le_mul_right _ hil
      obtain ⟨ρ', hp⟩ := post_write (w := w) (w' := w') (I := I) (ρ := ρ) (e := ⟨.sl m 0 [] 0 (len + xs.length) (len + xs.length) wd, rd, [n], [(m, .cells (.agg ((es.drop i).take len ++ xs)))]⟩) (c := .slice (some ⟨b, base + off, none⟩) (len + xs.length) k)
        (m := m) (o' := base + off) (r' := r - off) (blk := .cells (.agg ((es.drop i).take len ++ xs))) rfl rfl hr (.inr ⟨hmn, hmfr⟩) himm s5 s6 s7 s8 s9 fun ρ' hx hm hI => by
          refine ⟨CRel.sl _ 0 _ _ _ _ _ _ _ _ _ hm (Nat.le_refl _) hle (by omega), b, base + off, r - off, hm, hI, arr', T, fz, s2, by omega, fun j hj => k3 j (by omega), ?_, fun j hj => ?_⟩
          · rw [AV.flat, AV.flatL_append, List.length_append, AV.flatL_length, AV.flatL_length, huo.sizeL, hu.sizeL, holen]; omega
          · rw [AV.flat, AV.flatL_append] at hj ⊢
            have hlo : (AV.flatL ((es.drop i).take len)).length = len * wd := by rw [AV.flatL_length, huo.sizeL, holen]
            have hln : (AV.flatL xs).length = xs.length * wd := by rw [AV.flatL_length, hu.sizeL]
            rw [List.length_append, hlo, hln] at hj
            rw [s4]
            by_cases hjl : j < len * wd
            · rw [if_neg (by omega)]
              have h6 := (k5 (off + j) (by rw [AV.flat, hflat]; omega)).mono hx himm
              have e1 : (AV.flatL ((es.drop i).take len) ++ AV.flatL xs).getD j AV.undef = (AV.flat (.agg es)).getD (off + j) AV.undef := by
                rw [List.getD_eq_getElem?_getD, List.getElem?_append_left (by omega), flatL_take (hue.drop i) (by rw [List.length_drop]; omega), flatL_drop hue (by omega), List.getElem?_take, if_pos hjl, List.getElem?_drop, ← hoff, ← List.getD_eq_getElem?_getD, AV.flat]
              rw [e1, Nat.add_assoc]; exact h6
            · rw [if_pos (by omega)]
              have h6 := (hrel.2 (j - len * wd) (by rw [hln]; omega)).mono hx himm
              have e1 : (AV.flatL ((es.drop i).take len) ++ AV.flatL xs).getD j AV.undef = (AV.flatL xs).getD (j - len * wd) AV.undef := by
                rw [List.getD_eq_getElem?_getD, List.getElem?_append_right (by omega), hlo, ← List.getD_eq_getElem?_getD]
              have e2 : base + off + j - (base + off + len * wd) = j - len * wd := by omega
              rw [e1, e2]; exact h6
      unfold Oper.wp
      rw [run_append_exec ho, hst]
      exact hK _ _ _ _ hp
    · exact grow _ k hc (by omega)

end
end Go.Proofs.Ytbhhbadeabhfcaa
