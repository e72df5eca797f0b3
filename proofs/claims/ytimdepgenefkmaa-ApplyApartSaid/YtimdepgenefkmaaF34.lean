/- Arguments that are read: their cells as values that are what was read. -/
import Derived.Test.YtimdepgenefkmaaF27
set_option linter.unusedVariables false
set_option linter.unusedSimpArgs false
namespace Go.Proofs.Ytimdepgenefkmaa
open Go Go.RowKit

/-- What was read is the value. -/
inductive DRel {H : Type} : DataW H → AV → Prop
  | bool (b : Bool) : DRel (.lit (.bool b)) (.bool b)
  | int (k : IntKind) (n : Int) : DRel (.lit (.int k n)) (.int k n)
  | str (s : ByteArray) : DRel (.lit (.string s.data.toList)) (.str s)
  | nil : DRel .nil (.vsl [] 0)
  | slice (ds sp : List (DataW H)) (es : List AV) : ds.length = es.length → (∀ (i : Nat) (d : DataW H) (u : AV), ds[i]? = some d → es[i]? = some u → DRel d u) → DRel (.slice ds sp) (.vsl es es.length)
  | agg (ds : List (DataW H)) (us : List AV) : ds.length = us.length → (∀ (i : Nat) (d : DataW H) (u : AV), ds[i]? = some d → us[i]? = some u → DRel d u) → DRel (.agg ds) (.agg us)

theorem mapM_at {α β : Type} {f : α → Option β} : ∀ {l : List α} {ys : List β}, l.mapM f = some ys → ys.length = l.length ∧ ∀ (i : Nat) (x : α), l[i]? = some x → ∃ y, f x = some y ∧ ys[i]? = some y
  | [], ys, h => by simp at h; subst h; exact ⟨rfl, fun i x h => by simp at h⟩
  | a :: l, ys, h => by
    simp only [List.mapM_cons] at h
    cases ha : f a with
    | none => simp [ha] at h
    | some b =>
      cases hl : l.mapM f with
      | none => simp [ha, hl] at h
      | some bs =>
        simp [ha, hl] at h
        subst h
        obtain ⟨h1, h2⟩ := mapM_at hl
        refine ⟨by simp [h1], fun i x hx => ?_⟩
        cases i with
        | zero => simp at hx; subst hx; exact ⟨b, ha, rfl⟩
        | succ i => exact h2 i x (by simpa using hx)

section
variable {P : Program} {w : World} {ρ : Rho}

theorem fields_dat {β D : Type} {I : Nat → Prop} {pb : TypeId → Bool} {tr : TypeId → List Value → Option (D × β)} {T : TypeId → AV → Prop} {R : D → AV → Prop}
    (ih : ∀ t cs x, pb t = true → tr t cs = some x → ∃ u : AV, T t u ∧ u.size = P.cellsOf t ∧ CsRel w I ρ u.flat cs ∧ R x.1 u) :
    ∀ (fs : List Field) (off tot : Nat) (cs : List Value) (xs : List (D × β)), contigB P pb fs off tot = true → cs.length = tot → (fs.mapM fun f => tr f.type ((cs.drop f.offset).take (P.cellsOf f.type))) = some xs →
      ∃ us : List AV, us.length = fs.length ∧ (∀ (i : Nat) (f : Field) (u : AV), fs[i]? = some f → us[i]? = some u → T f.type u) ∧ CsRel w I ρ (AV.flatL us) (cs.drop off) ∧ AV.sizeL us + off = tot ∧ xs.length = us.length ∧ (∀ (i : Nat) (x : D × β) (u : AV), xs[i]? = some x → us[i]? = some u → R x.1 u)
  | [], off, tot, cs, xs, hc, hl, h => by
    simp only [contigB, beq_iff_eq] at hc
    simp at h
    subst h
    refine ⟨[], rfl, fun i f u h => by simp at h, ?_, by simp [AV.sizeL, hc], rfl, fun i x u h => by simp at h⟩
    rw [List.drop_eq_nil_of_le (by omega)]
    exact ⟨rfl, fun k hk => by simp [AV.flatL] at hk⟩
  | f :: fs, off, tot, cs, xs, hc, hl, h => by
    simp only [contigB, Bool.and_eq_true, beq_iff_eq] at hc
    obtain ⟨⟨hof, hp⟩, hc⟩ := hc
    simp only [List.mapM_cons] at h
    cases ha : tr f.type ((cs.drop f.offset).take (P.cellsOf f.type)) with
    | none => simp [ha] at h
    | some y =>
      cases hr : (fs.mapM fun f => tr f.type ((cs.drop f.offset).take (P.cellsOf f.type))) with
      | none => simp [ha, hr] at h
      | some ys =>
        simp [ha, hr] at h
        subst h
        obtain ⟨u, h1, h2, h3, h5⟩ := ih _ _ _ hp ha
        obtain ⟨us, g1, g2, g3, g4, g5, g6⟩ := fields_dat ih fs (off + P.cellsOf f.type) tot cs ys hc hl hr
        refine ⟨u :: us, by simp [g1], fun i f' u' hf hu => ?_, ?_, by simp only [AV.sizeL, h2]; omega, by simp [g5], fun i x u' hx hu => ?_⟩
        · cases i with
          | zero => simp at hf hu; subst hf; subst hu; exact h1
          | succ i => exact g2 i f' u' (by simpa using hf) (by simpa using hu)
        · have e : cs.drop off = (cs.drop off).take (P.cellsOf f.type) ++ cs.drop (off + P.cellsOf f.type) := by
            rw [← List.drop_drop, List.take_append_drop]
          rw [e, AV.flatL]
          rw [hof] at h3
          exact h3.append g3
        · cases i with
          | zero => simp at hx hu; subst hx; subst hu; exact h5
          | succ i => exact g6 i x u' (by simpa using hx) (by simpa using hu)
theorem array_dat {β D : Type} {I : Nat → Prop} {tr : List Value → Option (D × β)} {T : AV → Prop} {R : D → AV → Prop} {wd : Nat}
    (ih : ∀ cs x, tr cs = some x → ∃ u : AV, T u ∧ u.size = wd ∧ CsRel w I ρ u.flat cs ∧ R x.1 u) :
    ∀ (n k : Nat) (cs : List Value) (xs : List (D × β)), cs.length = (k + n) * wd → xs.length = n → (∀ i x, xs[i]? = some x → tr ((cs.drop ((k + i) * wd)).take wd) = some x) →
      ∃ us : List AV, us.length = n ∧ (∀ x, x ∈ us → T x) ∧ CsRel w I ρ (AV.flatL us) (cs.drop (k * wd)) ∧ AV.sizeL us = n * wd ∧ (∀ (i : Nat) (x : D × β) (u : AV), xs[i]? = some x → us[i]? = some u → R x.1 u)
  | 0, k, cs, xs, hl, hx, h => by
    refine ⟨[], rfl, fun x hx => by simp at hx, ?_, by simp [AV.sizeL], fun i x u _ hu => by simp at hu⟩
    rw [List.drop_eq_nil_of_le (by rw [hl]; simp)]
    exact ⟨rfl, fun k hk => by simp [AV.flatL] at hk⟩
  | n + 1, k, cs, [], hl, hx, h => by simp at hx
  | n + 1, k, cs, x :: xs, hl, hxl, h => by
    obtain ⟨u, h1, h2, h3, h5⟩ := ih _ _ (h 0 x rfl)
    obtain ⟨us, g1, g2, g3, g4, g5⟩ := array_dat ih n (k + 1) cs xs (by rw [hl]; congr 1; omega) (by simpa using hxl) fun i y hy => by
      have := h (i + 1) y (by simpa using hy)
      rwa [show k + (i + 1) = k + 1 + i by omega] at this
    refine ⟨u :: us, by simp [g1], fun y hy => ?_, ?_, ?_, fun i y v hy hv => ?_⟩
    · rcases List.mem_cons.1 hy with rfl | hy
      · exact h1
      · exact g2 y hy
    · rw [Nat.add_zero] at h3
      have e2 : cs.drop (k * wd) = (cs.drop (k * wd)).take wd ++ cs.drop ((k + 1) * wd) := by
        rw [Nat.add_mul, Nat.one_mul, ← List.drop_drop, List.take_append_drop]
      rw [e2, AV.flatL]
      exact h3.append g3
    · simp only [AV.sizeL, h2, g4]; rw [Nat.add_mul, Nat.one_mul]; omega
    · cases i with
      | zero => simp at hy hv; subst hy; subst hv; exact h5
      | succ i => exact g5 i y v (by simpa using hy) (by simpa using hv)

theorem trod_dat {H : Type} {enc : TypeId × Value → H} {base : Nat} {spare : Nat → Bool} {held : Bool} : ∀ (fuel d : Nat) (t : TypeId) (cs : List Value) (x : DataW H × List MemPlace), plainB P d t = true → DataW.trod enc P w base spare held fuel t cs = some x →
    ∃ u : AV, TyAV P t u ∧ u.size = P.cellsOf t ∧ CsRel w (Old0 w) ρ u.flat cs ∧ DRel x.1 u
  | 0, d, t, cs, x, hp, h => by simp [DataW.trod] at h
  | fuel + 1, 0, t, cs, x, hp, h => by simp [plainB] at hp
  | fuel + 1, d + 1, t, cs, x, hp, h => by
    simp only [plainB] at hp
    cases hu : P.underlying t with
    | none => rw [hu] at hp; cases hp
    | some D =>
      rw [hu] at hp
      unfold DataW.trod at h
      rw [hu] at h
      cases D with
      | bool =>
        simp only [beq_iff_eq] at hp
        rcases cs with _ | ⟨c, _ | ⟨c2, r⟩⟩
        · simp at h
        · cases c <;> simp at h
          subst h
          exact ⟨.bool _, .bool t _ hu, hp.symm, one_cell rfl (.bool _), .bool _⟩
        · simp at h
      | int k =>
        simp only [beq_iff_eq] at hp
        rcases cs with _ | ⟨c, _ | ⟨c2, r⟩⟩
        · simp at h
        · cases c <;> simp at h
          obtain ⟨⟨rfl, hw⟩, rfl⟩ := h
          simp only [Lit.wf, Bool.and_eq_true, decide_eq_true_eq] at hw
          exact ⟨.int _ _, .int t _ _ hu hw.1 hw.2, hp.symm, one_cell rfl (.int _ _), .int _ _⟩
        · simp at h
      | string =>
        simp only [beq_iff_eq] at hp
        rcases cs with _ | ⟨c, _ | ⟨c2, r⟩⟩
        · simp at h
        · cases c <;> simp at h
          obtain ⟨hs, rfl⟩ := h
          exact ⟨.str _, .str t _ hu (by simpa [maxLen] using hs), hp.symm, one_cell rfl (.str _), .str _⟩
        · simp at h
      | slice e =>
        simp only [Bool.and_eq_true, beq_iff_eq, Bool.not_eq_true', beq_eq_false_iff_ne, ne_eq] at hp
        obtain ⟨⟨hpe, hpt⟩, hpz⟩ := hp
        rcases cs with _ | ⟨c, _ | ⟨c2, r⟩⟩
        · simp at h
        · cases c with
          | slice a len cap =>
            cases a with
            | none =>
              cases len with
              | zero =>
                cases cap with
                | zero =>
                  simp at h
                  subst h
                  exact ⟨.vsl [] 0, .slice t e [] hu (by simp) (fun x hx => by simp at hx), hpt.symm, one_cell rfl (.vsl0 _ _), .nil⟩
                | succ cap => simp at h
              | succ len => simp at h
            | some a =>
              simp only at h
              split at h
              · rename_i hc
                cases hm : (List.range len).mapM (fun i => (w.cells? base (a.add (i * P.cellsOf e)) (P.cellsOf e)).bind (DataW.trod enc P w base spare held fuel e)) with
                | none => rw [hm] at h; simp at h
                | some elems =>
                  rw [hm] at h
                  obtain ⟨hel, hall⟩ := mapM_at hm
                  have hxe : ∃ rest, x.1 = .slice (elems.map (·.1)) rest := by
                    simp only [Option.bind_some] at h
                    cases hr : (if spare a.block then (List.range (cap - len)).mapM fun j => (w.cells? base (a.add ((len + j) * P.cellsOf e)) (P.cellsOf e)).bind (DataW.trod enc P w base spare held fuel e) else some []) with
                    | none => rw [hr] at h; simp at h
                    | some rest => rw [hr] at h; simp at h; rw [← h]; exact ⟨_, rfl⟩
                  obtain ⟨rest, hxe⟩ := hxe
                  clear h
                  obtain ⟨es, he1, he2⟩ := choose_list (fun i u => TyAV P e u ∧ u.size = P.cellsOf e ∧ ∃ ds : List Value, w.cells? base (a.add (i * P.cellsOf e)) (P.cellsOf e) = some ds ∧ CsRel w (Old0 w) ρ u.flat ds ∧ ∀ y, elems[i]? = some y → DRel y.1 u) len (fun i hi => by
                    obtain ⟨y, hy, hyi⟩ := hall i i (by simp [List.getElem?_range, hi])
                    cases hcs : w.cells? base (a.add (i * P.cellsOf e)) (P.cellsOf e) with
                    | none => rw [hcs] at hy; simp at hy
                    | some ds =>
                      rw [hcs, Option.bind_some] at hy
                      obtain ⟨u, h1, h2, h3, h5⟩ := trod_dat fuel d e ds y hpe hy
                      exact ⟨u, h1, h2, ds, rfl, h3, fun z hz => by rw [hyi] at hz; cases hz; exact h5⟩)
                  have hun : Unif (P.cellsOf e) es := fun x hx => by
                    obtain ⟨i, hi⟩ := List.getElem?_of_mem hx
                    exact (he2 i x hi).2.1
                  refine ⟨.vsl es es.length, .slice t e es hu (by have := hc.2.1; have := hc.2.2; simp only [maxLen] at *; omega) (fun x hx => by
                    obtain ⟨i, hi⟩ := List.getElem?_of_mem hx
                    exact (he2 i x hi).1), hpt.symm, one_cell rfl ?_, ?_⟩
                  rotate_left
                  · rw [hxe]
                    refine .slice _ _ _ (by simp [hel, he1]) fun i d u hd hu => ?_
                    rw [List.getElem?_map] at hd
                    cases hy : elems[i]? with
                    | none => rw [hy] at hd; cases hd
                    | some y =>
                      rw [hy] at hd; cases hd
                      obtain ⟨_, _, _, _, _, h6⟩ := he2 i u hu
                      exact h6 y hy
                  rw [he1]
                  rcases Nat.eq_zero_or_pos len with h0 | h0
                  · subst h0
                    have : es = [] := List.eq_nil_of_length_eq_zero he1
                    subst this
                    exact .vsl0 _ _
                  · have kpos : 0 < P.cellsOf e := Nat.pos_of_ne_zero hpz
                    have cell : ∀ i r, i < len → r < P.cellsOf e → ∃ (u : AV) (ds : List Value), es[i]? = some u ∧ w.cell? ((a.add (i * P.cellsOf e)).add r) = some (ds.getD r Go.undef) ∧ CRel w (Old0 w) ρ (u.flat.getD r .undef) (ds.getD r Go.undef) := fun i r hi hr => by
                      obtain ⟨u, hu'⟩ : ∃ u, es[i]? = some u := ⟨_, List.getElem?_eq_getElem (by omega)⟩
                      obtain ⟨_, h2, ds, h3, h4, _⟩ := he2 i u hu'
                      exact ⟨u, ds, hu', (cells_at h3).2 r hr, h4.2 r (by rw [AV.flat_length, h2]; exact hr)⟩
                    obtain ⟨u0, ds0, _, hc0, _⟩ := cell 0 0 h0 kpos
                    have hadd0 : (a.add (0 * P.cellsOf e)).add 0 = a := by simp [Addr.add]
                    rw [hadd0] at hc0
                    obtain ⟨hlt, hsp⟩ := cell_lt hc0
                    obtain ⟨b, o, sp⟩ := a
                    simp only at hsp hlt
                    subst hsp
                    have hsz : AV.sizeL es = len * P.cellsOf e := by rw [hun.sizeL, he1]
                    have ex : ∀ k, k < AV.sizeL es → ∃ c, w.cell? ⟨b, o + k, none⟩ = some c ∧ CRel w (Old0 w) ρ ((AV.flatL es).getD k .undef) c := fun k hk => by
                      have hr : k % P.cellsOf e < P.cellsOf e := Nat.mod_lt _ kpos
                      have hi : k / P.cellsOf e < len := Nat.div_lt_of_lt_mul (by rw [Nat.mul_comm]; omega)
                      obtain ⟨u, ds, h1, h2, h3⟩ := cell _ _ hi hr
                      have hk2 : k / P.cellsOf e * P.cellsOf e + k % P.cellsOf e = k := by rw [Nat.mul_comm]; exact Nat.div_add_mod k _
                      rw [add_mk, add_mk, Nat.add_assoc, hk2] at h2
                      have := flatL_get hun h1 hr
                      rw [hk2] at this
                      exact ⟨_, h2, by rw [this]; exact h3⟩
                    exact .vsl es len b o cap (fun k => ((w.cell? ⟨b, o + k, none⟩).getD Go.undef)) hlt (by omega) (by have := hc.2.1; omega) (fun k hk => by obtain ⟨c, h1, _⟩ := ex k hk; rw [h1]; rfl) (fun k hk => by obtain ⟨c, h1, h2⟩ := ex k hk; rw [h1]; exact h2)
              · cases h
          | _ => simp at h
        · simp at h
      | array n e =>
        simp only [Bool.and_eq_true, beq_iff_eq] at hp
        obtain ⟨hpe, hpt⟩ := hp
        simp only at h
        split at h
        · rename_i hl
          cases hm : (List.range n).mapM (fun i => DataW.trod enc P w base spare held fuel e ((cs.drop (i * P.cellsOf e)).take (P.cellsOf e))) with
          | none => rw [hm] at h; simp at h
          | some xs =>
            rw [hm] at h
            simp at h
            obtain ⟨hel, hall⟩ := mapM_at hm
            obtain ⟨us, h1, h2, h3, h4, h5⟩ := array_dat (w := w) (ρ := ρ) (I := Old0 w) (tr := DataW.trod enc P w base spare held fuel e) (T := TyAV P e) (R := DRel) (wd := P.cellsOf e) (fun cs x h => trod_dat fuel d e cs x hpe h) n 0 cs xs (by rw [hl, hpt, Nat.zero_add]) (by simpa using hel) fun i x hx => by
              have hi : i < n := by
                rcases Nat.lt_or_ge i n with h1 | h1
                · exact h1
                · rw [List.getElem?_eq_none (by simp at hel; omega)] at hx; cases hx
              obtain ⟨y, hy, hyi⟩ := hall i i (by simp [List.getElem?_range, hi])
              rw [hx] at hyi
              cases hyi
              rwa [Nat.zero_add]
            refine ⟨.agg us, .array t n e us hu h1 h2, by simp only [AV.size, h4, hpt], by simpa [AV.flat] using h3, ?_⟩
            rw [← h]
            refine .agg _ _ (by simp at hel; simp [hel, h1]) fun i d u hd hu => ?_
            rw [List.getElem?_map] at hd
            cases hy : xs[i]? with
            | none => rw [hy] at hd; cases hd
            | some y =>
              rw [hy] at hd; cases hd
              exact h5 i y u hy hu
        · cases h
      | struct fs =>
        simp only at h
        split at h
        · rename_i hl
          cases hm : (fs.toList.mapM fun f => DataW.trod enc P w base spare held fuel f.type ((cs.drop f.offset).take (P.cellsOf f.type))) with
          | none => rw [hm] at h; simp at h
          | some xs =>
            rw [hm] at h
            simp at h
            obtain ⟨us, h1, h2, h3, h4, h5, h6⟩ := fields_dat (P := P) (w := w) (ρ := ρ) (I := Old0 w) (pb := plainB P d) (tr := fun t cs => DataW.trod enc P w base spare held fuel t cs) (T := TyAV P) (R := DRel) (fun t cs x hp h => trod_dat fuel d t cs x hp h) fs.toList 0 _ cs xs hp hl hm
            refine ⟨.agg us, .struct t fs us hu h1 h2, by simpa [AV.size] using h4, by simpa [AV.flat] using h3, ?_⟩
            rw [← h]
            refine .agg _ _ (by simp [h5]) fun i d u hd hu => ?_
            rw [List.getElem?_map] at hd
            cases hy : xs[i]? with
            | none => rw [hy] at hd; cases hd
            | some y =>
              rw [hy] at hd; cases hd
              exact h6 i y u hy hu
        · cases h
      | _ => cases hp
end
end Go.Proofs.Ytimdepgenefkmaa
