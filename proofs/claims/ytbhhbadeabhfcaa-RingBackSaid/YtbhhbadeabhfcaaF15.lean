/- copy. -/
import Derived.Test.YtbhhbadeabhfcaaF14
set_option linter.unusedVariables false
set_option linter.unusedSimpArgs false
namespace Go.Proofs.Ytbhhbadeabhfcaa
open Go Go.RowKit


section
variable {P : Program} {o : Oper} {ev : Operand → Option AV} {H : Nat → Option ABlk} {v : AV} {rd : List Nat}

/-! #### copy -/
theorem ls_copy {T1 T2 E : TypeId} {x y : Operand} {wd n off i len cap : Nat} {p : List Nat} {root : AV} {es xs : List AV} {u : AV} (ho : o.op = .call { callee := .builtin .copy, args := #[x, y], argTypes := #[T1, T2] }) (hT : P.underlying T1 = some (.slice E)) (hE : szOf P E = some wd)
    (hx : ev x = some (.sl n off p i len cap wd)) (hH : H n = some (.cells root)) (hp : root.proj p = some (.agg es)) (hoff : off = root.offOf p + i * wd) (hil : i + len ≤ es.length) (hue : Unif wd es) (hy : ev y = some u) (hs : IsSrc H wd u rd xs) (hnrd : n ∉ rd) :
    LS P o ev H ⟨.int .i64 (Nat.min xs.length len : Nat), rd, [n], [(n, .cells (root.upd p (.agg (es.take i ++ xs.take (Nat.min xs.length len) ++ es.drop (i + Nat.min xs.length len)))))]⟩ := by
  intro a w I ρ hd hev hrd hinj himm hfr K Q hK
  have hvx := hev x (by simp [ho, Op.operands, Call.operands]) _ hx
  obtain ⟨hu, hlen, hcs⟩ := src_rel (P := P) hs (hev y (by simp [ho, Op.operands, Call.operands]) _ hy) (fun n hn b hb => hrd n (.inl hn) b hb)
  have hq1 : Nat.min xs.length len ≤ xs.length := Nat.min_le_left _ _
  have hq2 : Nat.min xs.length len ≤ len := Nat.min_le_right _ _
  generalize hq : Nat.min xs.length len = q at *
  obtain ⟨new, hf, hrel⟩ := hcs q hq1
  have hrun : ∀ (ad : Addr) (k : Nat) (w' : World), a.eval x = .slice (some ad) len k → (storeCells ad new.toList).run P w = .ok () w' →
      (execOp a.eval o).run P w = .ok (.value (.int .i64 q)) w' := by
    intro ad k w' hk hst
    have hf1 := hf w rfl
    have h0 : (execOp a.eval o).run P w = ((Builtin.copy_ #[T1, T2] o.type #[a.eval x, a.eval y]).run P w).andThen fun v w' => .ok (.value v) w' := by
      simp [execOp, ho, resolve, invoke, builtin]
    rw [h0, hk]
    simp only [Builtin.copy_, List.getElem?_toArray, List.getElem?_cons_zero, List.getElem?_cons_succ, Sem.run_bind, run_underlying' hT, Result.andThen_ok, run_sizeOf' hE, Sem.run_pure, hlen, hq, hf1, hst, goInt]
  have hnewsz : new.size = q * wd := by
    have := hrel.1; rw [AV.flatL_length, (hu.take q).sizeL, List.length_take, Nat.min_eq_left hq1] at this; simpa using this
  obtain ⟨b0, o0, r0, hr0, hI0, hlies0⟩ := hrd n (.inr (by simp)) _ hH
  obtain ⟨arr, T, fz, k1, k2, k3, k4, k5⟩ := hlies0.ex
  obtain ⟨pre, post, f1, f2, f3⟩ := AV.flat_at p root _ hp
  have hflat : (AV.flatL es).length = es.length * wd := by rw [AV.flatL_length, hue.sizeL]
  have hrlen : root.flat.length = pre.length + es.length * wd + post.length := by rw [f2]; simp [AV.flat, hflat]; omega
  have hiq : i * wd + q * wd ≤ es.length * wd := by rw [← Nat.add_mul]; exact Nat.mul_le_mul_right _ (by omega)
  have hn1 : (AV.flatL (es.take i ++ xs.take q ++ es.drop (i + q))).length = es.length * wd := by
    rw [AV.flatL_length, ((hue.take i).append (hu.take q) |>.append (hue.drop (i + q))).sizeL]
    congr 1
    simp only [List.length_append, List.length_take, List.length_drop]
    omega
  have hone : ∀ v, v ∈ new.toList → v.oneCell' = true := by
    intro v hv
    obtain ⟨j, hj, rfl⟩ := List.getElem_of_mem hv
    have := (hrel.2 j (by rw [← hrel.1]; exact hj)).one
    rwa [List.getD_eq_getElem?_getD, List.getElem?_eq_getElem hj] at this
  -- where the cells are stored
  have main : ∀ (w' : World) (arr' : Array Value), w'.heap[b0]? = some (.cells arr' T fz) → arr'.size = arr.size → (∀ k, arr'.getD k Go.undef = if o0 + off ≤ k ∧ k < o0 + off + q * wd then new.toList.getD (k - (o0 + off)) Go.undef else arr.getD k Go.undef) →
      w'.heap.size = w.heap.size → (∀ k, k ≠ b0 → w'.heap[k]? = w.heap[k]?) → w'.os = w.os → w'.tape = w.tape → w'.output = w.output → K (a.put o.dst (.int .i64 q)) w' := by
    intro w' arr' s2 s3 s4 s5 s6 s7 s8 s9
    obtain ⟨ρ', hp'⟩ := post_write (w := w) (w' := w') (I := I) (ρ := ρ) (e := ⟨.int .i64 q, rd, [n], [(n, .cells (root.upd p (.agg (es.take i ++ xs.take q ++ es.drop (i + q)))))]⟩) (c := .int .i64 q)
      (m := n) (o' := o0) (r' := r0) (blk := .cells (root.upd p (.agg (es.take i ++ xs.take q ++ es.drop (i + q))))) rfl rfl hr0 (.inl ⟨rfl, rfl, rfl⟩) himm s5 s6 s7 s8 s9 fun ρ' hx hm hI => by
        refine ⟨CRel.int _ _, b0, o0, r0, hm, hI, arr', T, fz, s2, by omega, fun j hj => k3 j (by omega), ?_, fun j hj => ?_⟩
        · rw [f3, AV.flat]; simp only [List.length_append, hn1]; omega
        · rw [f3, AV.flat] at hj ⊢
          simp only [List.length_append, hn1] at hj
          rw [s4]
          have h6 := (k5 j (by omega)).mono hx himm
          have elt : ∀ (zs : List AV), zs.length = es.length * wd → (pre ++ zs ++ post).getD j AV.undef = if j < pre.length then pre.getD j AV.undef else if j < pre.length + es.length * wd then zs.getD (j - pre.length) AV.undef else post.getD (j - pre.length - es.length * wd) AV.undef := by
            intro zs hz
            simp only [List.getD_eq_getElem?_getD, List.append_assoc]
            by_cases h1 : j < pre.length
            · rw [if_pos h1, List.getElem?_append_left h1]
            · rw [if_neg h1, List.getElem?_append_right (by omega)]
              by_cases h2 : j < pre.length + es.length * wd
              · rw [if_pos h2, List.getElem?_append_left (by omega)]
              · rw [if_neg h2, List.getElem?_append_right (by omega), hz]
          rw [f2, AV.flat, elt _ hflat] at h6
          rw [elt _ hn1]
          by_cases h1 : j < pre.length
          · rw [if_pos h1] at h6 ⊢
            rw [if_neg (by omega)]; exact h6
          · rw [if_neg h1] at h6 ⊢
            by_cases h2 : j < pre.length + es.length * wd
            · rw [if_pos h2] at h6 ⊢
              have e0 : AV.flatL (es.take i ++ xs.take q ++ es.drop (i + q)) = (AV.flatL es).take (i * wd) ++ AV.flatL (xs.take q) ++ (AV.flatL es).drop (i * wd + q * wd) := by
                rw [AV.flatL_append, AV.flatL_append, flatL_take hue (by omega), flatL_drop hue (by omega), Nat.add_mul]
              have l1 : ((AV.flatL es).take (i * wd)).length = i * wd := by rw [List.length_take, hflat]; omega
              have l2 : (AV.flatL (xs.take q)).length = q * wd := by rw [AV.flatL_length, (hu.take q).sizeL, List.length_take, Nat.min_eq_left hq1]
              rw [e0]
              by_cases h3 : o0 + off ≤ o0 + j ∧ o0 + j < o0 + off + q * wd
              · rw [if_pos h3]
                have := (hrel.2 (j - off) (by rw [l2]; omega)).mono hx himm
                have e1 : ((AV.flatL es).take (i * wd) ++ AV.flatL (xs.take q) ++ (AV.flatL es).drop (i * wd + q * wd)).getD (j - pre.length) AV.undef = (AV.flatL (xs.take q)).getD (j - off) AV.undef := by
                  have : j - pre.length = ((AV.flatL es).take (i * wd)).length + (j - off) := by rw [l1]; omega
                  rw [this, getD_mid _ _ _ _ _ (by rw [l2]; omega)]
                have e2 : o0 + j - (o0 + off) = j - off := by omega
                rw [e1, e2]; exact this
              · rw [if_neg h3]
                have e1 : ((AV.flatL es).take (i * wd) ++ AV.flatL (xs.take q) ++ (AV.flatL es).drop (i * wd + q * wd)).getD (j - pre.length) AV.undef = (AV.flatL es).getD (j - pre.length) AV.undef := by
                  simp only [List.getD_eq_getElem?_getD, List.append_assoc]
                  by_cases h4 : j - pre.length < i * wd
                  · rw [List.getElem?_append_left (by omega), List.getElem?_take, if_pos h4]
                  · rw [List.getElem?_append_right (by omega), List.getElem?_append_right (by omega), l1, l2, List.getElem?_drop]
                    congr 2; omega
                rw [e1]; exact h6
            · rw [if_neg h2] at h6 ⊢
              rw [if_neg (by omega)]; exact h6
    exact hK _ _ _ _ hp'
  unfold Oper.wp
  rcases inv_sl hvx with ⟨h1, h2, ad, hc⟩ | ⟨b, base, r, k, hr, g1, g2, g3, hc⟩
  · have hq0 : q = 0 := by omega
    rw [hrun ad 0 w (by rw [hc, h1]) (by
      have : new.toList = [] := by
        have : new.size = 0 := by rw [hnewsz, hq0, Nat.zero_mul]
        simpa using this
      rw [this]; rfl)]
    exact main w arr k1 rfl (fun k => by rw [if_neg]; rw [hq0]; omega) rfl (fun _ _ => rfl) rfl rfl rfl
  · have e0 : some (b, base, r) = some (b0, o0, r0) := hr.symm.trans hr0
    injection e0 with e0; injection e0 with e1 e0; injection e0 with e2 e3
    subst e1; subst e2; subst e3
    obtain ⟨arr', w', s1, s2, s3, s4, s5, s6, s7, s8, s9⟩ := run_storeCells' (P := P) (b := b) (off := base + off) new.toList 0 w arr k1 (by simp only [Array.length_toList, hnewsz]; omega) k3 hone
    rw [hrun ⟨b, base + off, none⟩ k w' hc s1]
    simp only [Array.length_toList, hnewsz, Nat.add_zero] at s4
    exact main w' arr' s2 s3 s4 s5 s6 s7 s8 s9

end
end Go.Proofs.Ytbhhbadeabhfcaa
