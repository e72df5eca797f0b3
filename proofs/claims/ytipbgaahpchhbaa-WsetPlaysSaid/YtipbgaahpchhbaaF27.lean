/- Arguments that are read: their cells as values. -/
import Derived.Test.YtipbgaahpchhbaaM4
import Derived.ProofKit
set_option linter.unusedVariables false
set_option linter.unusedSimpArgs false
namespace Go.Proofs.Ytipbgaahpchhbaa
open Go Go.RowKit

/-- A value of a type that holds numbers, truths, texts, structs and slices of such. -/
inductive TyAV (P : Program) : TypeId → AV → Prop
  | bool (t : TypeId) (b : Bool) : P.underlying t = some .bool → TyAV P t (.bool b)
  | int (t : TypeId) (k : IntKind) (n : Int) : P.underlying t = some (.int k) → k.min ≤ n → n ≤ k.max → TyAV P t (.int k n)
  | str (t : TypeId) (s : ByteArray) : P.underlying t = some .string → s.size ≤ 9223372036854775807 → TyAV P t (.str s)
  | slice (t e : TypeId) (es : List AV) : P.underlying t = some (.slice e) → es.length ≤ 9223372036854775807 → (∀ x, x ∈ es → TyAV P e x) → TyAV P t (.vsl es es.length)
  | array (t : TypeId) (n : Nat) (e : TypeId) (us : List AV) : P.underlying t = some (.array n e) → us.length = n → (∀ x, x ∈ us → TyAV P e x) → TyAV P t (.agg us)
  | struct (t : TypeId) (fs : Array Field) (us : List AV) : P.underlying t = some (.struct fs) → us.length = fs.toList.length → (∀ (i : Nat) (f : Field) (u : AV), fs.toList[i]? = some f → us[i]? = some u → TyAV P f.type u) → TyAV P t (.agg us)

def contigB (P : Program) (pb : TypeId → Bool) : List Field → Nat → Nat → Bool
  | [], off, tot => off == tot
  | f :: fs, off, tot => (f.offset == off) && pb f.type && contigB P pb fs (off + P.cellsOf f.type) tot
def plainB (P : Program) : Nat → TypeId → Bool
  | 0, _ => false
  | d + 1, t => match P.underlying t with
    | some .bool => P.cellsOf t == 1
    | some (.int _) => P.cellsOf t == 1
    | some .string => P.cellsOf t == 1
    | some (.slice e) => plainB P d e && (P.cellsOf t == 1) && !(P.cellsOf e == 0)
    | some (.array n e) => plainB P d e && (P.cellsOf t == n * P.cellsOf e)
    | some (.struct fs) => contigB P (plainB P d) fs.toList 0 (P.cellsOf t)
    | _ => false

theorem mapM_get {α β : Type} {f : α → Option β} : ∀ {l : List α} {ys : List β}, l.mapM f = some ys → ys.length = l.length ∧ ∀ (i : Nat) (x : α), l[i]? = some x → ∃ y, f x = some y
  | [], ys, h => by simp at h; subst h; exact ⟨rfl, fun i x h => by simp at h⟩
  | a :: l, ys, h => by
    simp only [List.mapM_cons] at h
    cases ha : f a with
    | none => simp [ha] at h
    | some b =>
      cases hl : l.mapM f with
      | none => simp [ha, hl] at h
      | some bs =>
        simp [ha, hl] at h
        subst h
        obtain ⟨h1, h2⟩ := mapM_get hl
        refine ⟨by simp [h1], fun i x hx => ?_⟩
        cases i with
        | zero => simp at hx; subst hx; exact ⟨b, ha⟩
        | succ i => exact h2 i x (by simpa using hx)

theorem choose_list {α : Type} (R : Nat → α → Prop) : ∀ n, (∀ i, i < n → ∃ x, R i x) → ∃ xs : List α, xs.length = n ∧ ∀ (i : Nat) (x : α), xs[i]? = some x → R i x
  | 0, _ => ⟨[], rfl, fun i x h => by simp at h⟩
  | n + 1, h => by
    obtain ⟨xs, h1, h2⟩ := choose_list R n fun i hi => h i (by omega)
    obtain ⟨x, hx⟩ := h n (by omega)
    refine ⟨xs ++ [x], by simp [h1], fun i y hy => ?_⟩
    by_cases hi : i < n
    · rw [List.getElem?_append_left (by omega)] at hy; exact h2 i y hy
    · rw [List.getElem?_append_right (by omega)] at hy
      have : i - xs.length = 0 := by
        rcases Nat.eq_zero_or_pos (i - xs.length) with h0 | h0
        · exact h0
        · rw [List.getElem?_eq_none (by simp; omega)] at hy; cases hy
      rw [this] at hy
      simp at hy
      subst hy
      have : i = n := by omega
      subst this; exact hx

section
variable {P : Program} {w : World} {ρ : Rho}

theorem fields_rel {β : Type} {I : Nat → Prop} {pb : TypeId → Bool} {tr : TypeId → List Value → Option β} {T : TypeId → AV → Prop}
    (ih : ∀ t cs x, pb t = true → tr t cs = some x → ∃ u : AV, T t u ∧ u.size = P.cellsOf t ∧ CsRel w I ρ u.flat cs) :
    ∀ (fs : List Field) (off tot : Nat) (cs : List Value) (xs : List β), contigB P pb fs off tot = true → cs.length = tot → (fs.mapM fun f => tr f.type ((cs.drop f.offset).take (P.cellsOf f.type))) = some xs →
      ∃ us : List AV, us.length = fs.length ∧ (∀ (i : Nat) (f : Field) (u : AV), fs[i]? = some f → us[i]? = some u → T f.type u) ∧ CsRel w I ρ (AV.flatL us) (cs.drop off) ∧ AV.sizeL us + off = tot
  | [], off, tot, cs, xs, hc, hl, h => by
    simp only [contigB, beq_iff_eq] at hc
    refine ⟨[], rfl, fun i f u h => by simp at h, ?_, by simp [AV.sizeL, hc]⟩
    rw [List.drop_eq_nil_of_le (by omega)]
    exact ⟨rfl, fun k hk => by simp [AV.flatL] at hk⟩
  | f :: fs, off, tot, cs, xs, hc, hl, h => by
    simp only [contigB, Bool.and_eq_true, beq_iff_eq] at hc
    obtain ⟨⟨hof, hp⟩, hc⟩ := hc
    simp only [List.mapM_cons] at h
    cases ha : tr f.type ((cs.drop f.offset).take (P.cellsOf f.type)) with
    | none => simp [ha] at h
    | some y =>
      cases hr : (fs.mapM fun f => tr f.type ((cs.drop f.offset).take (P.cellsOf f.type))) with
      | none => simp [ha, hr] at h
      | some ys =>
        obtain ⟨u, h1, h2, h3⟩ := ih _ _ _ hp ha
        obtain ⟨us, g1, g2, g3, g4⟩ := fields_rel ih fs (off + P.cellsOf f.type) tot cs ys hc hl hr
        refine ⟨u :: us, by simp [g1], fun i f' u' hf hu => ?_, ?_, by simp only [AV.sizeL, h2]; omega⟩
        · cases i with
          | zero => simp at hf hu; subst hf; subst hu; exact h1
          | succ i => exact g2 i f' u' (by simpa using hf) (by simpa using hu)
        · have e : cs.drop off = (cs.drop off).take (P.cellsOf f.type) ++ cs.drop (off + P.cellsOf f.type) := by
            rw [← List.drop_drop, List.take_append_drop]
          rw [e, AV.flatL]
          rw [hof] at h3
          exact h3.append g3

theorem array_rel {β : Type} {I : Nat → Prop} {tr : List Value → Option β} {T : AV → Prop} {wd : Nat}
    (ih : ∀ cs x, tr cs = some x → ∃ u : AV, T u ∧ u.size = wd ∧ CsRel w I ρ u.flat cs) :
    ∀ (n k : Nat) (cs : List Value), cs.length = (k + n) * wd → (∀ i, i < n → ∃ x, tr ((cs.drop ((k + i) * wd)).take wd) = some x) →
      ∃ us : List AV, us.length = n ∧ (∀ x, x ∈ us → T x) ∧ CsRel w I ρ (AV.flatL us) (cs.drop (k * wd)) ∧ AV.sizeL us = n * wd
  | 0, k, cs, hl, h => by
    refine ⟨[], rfl, fun x hx => by simp at hx, ?_, by simp [AV.sizeL]⟩
    rw [List.drop_eq_nil_of_le (by rw [hl]; simp)]
    exact ⟨rfl, fun k hk => by simp [AV.flatL] at hk⟩
  | n + 1, k, cs, hl, h => by
    obtain ⟨x, hx⟩ := h 0 (by omega)
    obtain ⟨u, h1, h2, h3⟩ := ih _ _ hx
    obtain ⟨us, g1, g2, g3, g4⟩ := array_rel ih n (k + 1) cs (by rw [hl]; congr 1; omega) fun i hi => by
      have := h (i + 1) (by omega)
      rwa [show k + (i + 1) = k + 1 + i by omega] at this
    refine ⟨u :: us, by simp [g1], fun y hy => ?_, ?_, ?_⟩
    · rcases List.mem_cons.1 hy with rfl | hy
      · exact h1
      · exact g2 y hy
    · rw [Nat.add_zero] at h3
      have e2 : cs.drop (k * wd) = (cs.drop (k * wd)).take wd ++ cs.drop ((k + 1) * wd) := by
        rw [Nat.add_mul, Nat.one_mul, ← List.drop_drop, List.take_append_drop]
      rw [e2, AV.flatL]
      exact h3.append g3
    · simp only [AV.sizeL, h2, g4]; rw [Nat.add_mul, Nat.one_mul]; omega

theorem flatL_get {wd : Nat} {es : List AV} (hu : Unif wd es) {i r : Nat} {u : AV} (hi : es[i]? = some u) (hr : r < wd) : (AV.flatL es).getD (i * wd + r) .undef = u.flat.getD r .undef := by
  have hlt : i < es.length := by
    rcases Nat.lt_or_ge i es.length with h | h
    · exact h
    · rw [List.getElem?_eq_none h] at hi; cases hi
  have hs : u.size = wd := hu u (List.mem_of_getElem? hi)
  rw [← getD_drop, ← flatL_drop hu (by omega), ]
  have : es.drop i = u :: es.drop (i + 1) := by
    rw [List.drop_eq_getElem_cons hlt]
    congr 1
    rw [List.getElem?_eq_getElem hlt] at hi
    exact Option.some.inj hi
  rw [this, AV.flatL, List.getD_eq_getElem?_getD, List.getD_eq_getElem?_getD, List.getElem?_append_left (by rw [AV.flat_length]; omega)]

/-- The blocks of a world are immutable names' own. -/
abbrev Old0 (w : World) : Nat → Prop := fun b => b < w.heap.size

theorem cells_at {base : Nat} {a : Addr} {n : Nat} {cs : List Value} (h : w.cells? base a n = some cs) : cs.length = n ∧ ∀ r, r < n → w.cell? (a.add r) = some (cs.getD r Go.undef) := by
  unfold World.cells? at h
  split at h
  · have key : ∀ (l : List Nat) (cs : List Value), l.mapM (fun i => w.cell? (a.add i)) = some cs → cs.length = l.length ∧ ∀ (j : Nat) (x : Nat), l[j]? = some x → w.cell? (a.add x) = some (cs.getD j Go.undef) := by
      intro l
      induction l with
      | nil => intro cs h; simp at h; subst h; exact ⟨rfl, fun j x h => by simp at h⟩
      | cons y l ih =>
        intro cs h
        simp only [List.mapM_cons] at h
        cases hy : w.cell? (a.add y) with
        | none => simp [hy] at h
        | some c =>
          cases hl : l.mapM (fun i => w.cell? (a.add i)) with
          | none => simp [hy, hl] at h
          | some ds =>
            simp [hy, hl] at h
            subst h
            obtain ⟨h1, h2⟩ := ih ds hl
            refine ⟨by simp [h1], fun j x hx => ?_⟩
            cases j with
            | zero => simp at hx; subst hx; simpa using hy
            | succ j => have := h2 j x (by simpa using hx); simpa using this
    obtain ⟨h1, h2⟩ := key _ _ h
    refine ⟨by simpa using h1, fun r hr => h2 r r (by simp [List.getElem?_range, hr])⟩
  · cases h

theorem cell_lt {a : Addr} {c : Value} (h : w.cell? a = some c) : a.block < w.heap.size ∧ a.spot = none := by
  unfold World.cell? at h
  split at h
  · rename_i cs t fz hb
    refine ⟨?_, ?_⟩
    · rcases Nat.lt_or_ge a.block w.heap.size with h1 | h1
      · exact h1
      · rw [Array.getElem?_eq_none h1] at hb; cases hb
    · split at h
      · cases h
      · rename_i hs
        cases hsp : a.spot with
        | none => rfl
        | some s => rw [hsp] at hs; exact absurd rfl hs
  · cases h

theorem one_cell {I : Nat → Prop} {x : AV} {c : Value} (hx : x.flat = [x]) (h : CRel w I ρ x c) : CsRel w I ρ x.flat [c] := by
  rw [hx]
  refine ⟨rfl, fun k hk => ?_⟩
  have : k = 0 := by simp at hk; exact hk
  subst this
  exact h

theorem trod_rel {H : Type} {enc : TypeId × Value → H} {base : Nat} {spare : Nat → Bool} {held : Bool} : ∀ (fuel d : Nat) (t : TypeId) (cs : List Value) (x : DataW H × List MemPlace), plainB P d t = true → DataW.trod enc P w base spare held fuel t cs = some x →
    ∃ u : AV, TyAV P t u ∧ u.size = P.cellsOf t ∧ CsRel w (Old0 w) ρ u.flat cs
  | 0, d, t, cs, x, hp, h => by simp [DataW.trod] at h
  | fuel + 1, 0, t, cs, x, hp, h => by simp [plainB] at hp
  | fuel + 1, d + 1, t, cs, x, hp, h => by
    simp only [plainB] at hp
    cases hu : P.underlying t with
    | none => rw [hu] at hp; cases hp
    | some D =>
      rw [hu] at hp
      unfold DataW.trod at h
      rw [hu] at h
      cases D with
      | bool =>
        simp only [beq_iff_eq] at hp
        rcases cs with _ | ⟨c, _ | ⟨c2, r⟩⟩
        · simp at h
        · cases c <;> simp at h
          exact ⟨.bool _, .bool t _ hu, hp.symm, one_cell rfl (.bool _)⟩
        · simp at h
      | int k =>
        simp only [beq_iff_eq] at hp
        rcases cs with _ | ⟨c, _ | ⟨c2, r⟩⟩
        · simp at h
        · cases c <;> simp at h
          obtain ⟨⟨rfl, hw⟩, _⟩ := h
          simp only [Lit.wf, Bool.and_eq_true, decide_eq_true_eq] at hw
          exact ⟨.int _ _, .int t _ _ hu hw.1 hw.2, hp.symm, one_cell rfl (.int _ _)⟩
        · simp at h
      | string =>
        simp only [beq_iff_eq] at hp
        rcases cs with _ | ⟨c, _ | ⟨c2, r⟩⟩
        · simp at h
        · cases c <;> simp at h
          obtain ⟨hs, _⟩ := h
          exact ⟨.str _, .str t _ hu (by simpa [maxLen] using hs), hp.symm, one_cell rfl (.str _)⟩
        · simp at h
      | slice e =>
        simp only [Bool.and_eq_true, beq_iff_eq, Bool.not_eq_true', beq_eq_false_iff_ne, ne_eq] at hp
        obtain ⟨⟨hpe, hpt⟩, hpz⟩ := hp
        rcases cs with _ | ⟨c, _ | ⟨c2, r⟩⟩
        · simp at h
        · cases c with
          | slice a len cap =>
            cases a with
            | none =>
              cases len with
              | zero =>
                cases cap with
                | zero => exact ⟨.vsl [] 0, .slice t e [] hu (by simp) (fun x hx => by simp at hx), hpt.symm, one_cell rfl (.vsl0 _ _)⟩
                | succ cap => simp at h
              | succ len => simp at h
            | some a =>
              simp only at h
              split at h
              · rename_i hc
                cases hm : (List.range len).mapM (fun i => (w.cells? base (a.add (i * P.cellsOf e)) (P.cellsOf e)).bind (DataW.trod enc P w base spare held fuel e)) with
                | none => rw [hm] at h; simp at h
                | some elems =>
                  clear h
                  obtain ⟨_, hall⟩ := mapM_get hm
                  obtain ⟨es, he1, he2⟩ := choose_list (fun i u => TyAV P e u ∧ u.size = P.cellsOf e ∧ ∃ ds : List Value, w.cells? base (a.add (i * P.cellsOf e)) (P.cellsOf e) = some ds ∧ CsRel w (Old0 w) ρ u.flat ds) len (fun i hi => by
                    obtain ⟨y, hy⟩ := hall i i (by simp [List.getElem?_range, hi])
                    cases hcs : w.cells? base (a.add (i * P.cellsOf e)) (P.cellsOf e) with
                    | none => rw [hcs] at hy; simp at hy
                    | some ds =>
                      rw [hcs, Option.bind_some] at hy
                      obtain ⟨u, h1, h2, h3⟩ := trod_rel fuel d e ds y hpe hy
                      exact ⟨u, h1, h2, ds, rfl, h3⟩)
                  have hun : Unif (P.cellsOf e) es := fun x hx => by
                    obtain ⟨i, hi⟩ := List.getElem?_of_mem hx
                    exact (he2 i x hi).2.1
                  refine ⟨.vsl es es.length, .slice t e es hu (by have := hc.2.1; have := hc.2.2; simp only [maxLen] at *; omega) (fun x hx => by
                    obtain ⟨i, hi⟩ := List.getElem?_of_mem hx
                    exact (he2 i x hi).1), hpt.symm, one_cell rfl ?_⟩
                  rw [he1]
                  rcases Nat.eq_zero_or_pos len with h0 | h0
                  · subst h0
                    have : es = [] := List.eq_nil_of_length_eq_zero he1
                    subst this
                    exact .vsl0 _ _
                  · have kpos : 0 < P.cellsOf e := Nat.pos_of_ne_zero hpz
                    have cell : ∀ i r, i < len → r < P.cellsOf e → ∃ (u : AV) (ds : List Value), es[i]? = some u ∧ w.cell? ((a.add (i * P.cellsOf e)).add r) = some (ds.getD r Go.undef) ∧ CRel w (Old0 w) ρ (u.flat.getD r .undef) (ds.getD r Go.undef) := fun i r hi hr => by
                      obtain ⟨u, hu'⟩ : ∃ u, es[i]? = some u := ⟨_, List.getElem?_eq_getElem (by omega)⟩
                      obtain ⟨_, h2, ds, h3, h4⟩ := he2 i u hu'
                      exact ⟨u, ds, hu', (cells_at h3).2 r hr, h4.2 r (by rw [AV.flat_length, h2]; exact hr)⟩
                    obtain ⟨u0, ds0, _, hc0, _⟩ := cell 0 0 h0 kpos
                    have hadd0 : (a.add (0 * P.cellsOf e)).add 0 = a := by simp [Addr.add]
                    rw [hadd0] at hc0
                    obtain ⟨hlt, hsp⟩ := cell_lt hc0
                    obtain ⟨b, o, sp⟩ := a
                    simp only at hsp hlt
                    subst hsp
                    have hsz : AV.sizeL es = len * P.cellsOf e := by rw [hun.sizeL, he1]
                    have ex : ∀ k, k < AV.sizeL es → ∃ c, w.cell? ⟨b, o + k, none⟩ = some c ∧ CRel w (Old0 w) ρ ((AV.flatL es).getD k .undef) c := fun k hk => by
                      have hr : k % P.cellsOf e < P.cellsOf e := Nat.mod_lt _ kpos
                      have hi : k / P.cellsOf e < len := Nat.div_lt_of_lt_mul (by rw [Nat.mul_comm]; omega)
                      obtain ⟨u, ds, h1, h2, h3⟩ := cell _ _ hi hr
                      have hk2 : k / P.cellsOf e * P.cellsOf e + k % P.cellsOf e = k := by rw [Nat.mul_comm]; exact Nat.div_add_mod k _
                      rw [add_mk, add_mk, Nat.add_assoc, hk2] at h2
                      have := flatL_get hun h1 hr
                      rw [hk2] at this
                      exact ⟨_, h2, by rw [this]; exact h3⟩
                    exact .vsl es len b o cap (fun k => ((w.cell? ⟨b, o + k, none⟩).getD Go.undef)) hlt (by omega) (by have := hc.2.1; omega) (fun k hk => by obtain ⟨c, h1, _⟩ := ex k hk; rw [h1]; rfl) (fun k hk => by obtain ⟨c, h1, h2⟩ := ex k hk; rw [h1]; exact h2)
              · cases h
          | _ => simp at h
        · simp at h
      | array n e =>
        simp only [Bool.and_eq_true, beq_iff_eq] at hp
        obtain ⟨hpe, hpt⟩ := hp
        simp only at h
        split at h
        · rename_i hl
          cases hm : (List.range n).mapM (fun i => DataW.trod enc P w base spare held fuel e ((cs.drop (i * P.cellsOf e)).take (P.cellsOf e))) with
          | none => rw [hm] at h; simp at h
          | some xs =>
            obtain ⟨_, hall⟩ := mapM_get hm
            obtain ⟨us, h1, h2, h3, h4⟩ := array_rel (w := w) (ρ := ρ) (I := Old0 w) (tr := DataW.trod enc P w base spare held fuel e) (T := TyAV P e) (wd := P.cellsOf e) (fun cs x h => trod_rel fuel d e cs x hpe h) n 0 cs (by rw [hl, hpt, Nat.zero_add]) fun i hi => by
              have := hall i i (by simp [List.getElem?_range, hi])
              rwa [Nat.zero_add]
            exact ⟨.agg us, .array t n e us hu h1 h2, by simp only [AV.size, h4, hpt], by simpa [AV.flat] using h3⟩
        · cases h
      | struct fs =>
        simp only at h
        split at h
        · rename_i hl
          cases hm : (fs.toList.mapM fun f => DataW.trod enc P w base spare held fuel f.type ((cs.drop f.offset).take (P.cellsOf f.type))) with
          | none => rw [hm] at h; simp at h
          | some xs =>
            obtain ⟨us, h1, h2, h3, h4⟩ := fields_rel (P := P) (w := w) (ρ := ρ) (I := Old0 w) (pb := plainB P d) (tr := fun t cs => DataW.trod enc P w base spare held fuel t cs) (T := TyAV P) (fun t cs x hp h => trod_rel fuel d t cs x hp h) fs.toList 0 _ cs xs hp hl hm
            exact ⟨.agg us, .struct t fs us hu h1 h2, by simpa [AV.size] using h4, by simpa [AV.flat] using h3⟩
        · cases h
      | _ => cases hp
theorem TyAV.int_inv {T : TypeId} {k : IntKind} (hT : P.underlying T = some (.int k)) {u : AV} (h : TyAV P T u) : ∃ n, u = .int k n ∧ k.min ≤ n ∧ n ≤ k.max := by
  cases h with
  | bool _ _ h1 => rw [hT] at h1; cases h1
  | int _ _ _ h1 h2 h3 => rw [hT] at h1; cases h1; exact ⟨_, rfl, h2, h3⟩
  | str _ _ h1 h2 => rw [hT] at h1; cases h1
  | slice _ _ _ h1 h2 h3 => rw [hT] at h1; cases h1
  | array _ _ _ _ h1 h2 h3 => rw [hT] at h1; cases h1
  | struct _ _ _ h1 h2 h3 => rw [hT] at h1; cases h1
theorem TyAV.bool_inv {T : TypeId} (hT : P.underlying T = some .bool) {u : AV} (h : TyAV P T u) : ∃ b, u = .bool b := by
  cases h with
  | bool _ _ h1 => rw [hT] at h1; cases h1; exact ⟨_, rfl⟩
  | int _ _ _ h1 h2 h3 => rw [hT] at h1; cases h1
  | str _ _ h1 h2 => rw [hT] at h1; cases h1
  | slice _ _ _ h1 h2 h3 => rw [hT] at h1; cases h1
  | array _ _ _ _ h1 h2 h3 => rw [hT] at h1; cases h1
  | struct _ _ _ h1 h2 h3 => rw [hT] at h1; cases h1
theorem TyAV.str_inv {T : TypeId} (hT : P.underlying T = some .string) {u : AV} (h : TyAV P T u) : ∃ s, u = .str s ∧ s.size ≤ 9223372036854775807 := by
  cases h with
  | bool _ _ h1 => rw [hT] at h1; cases h1
  | int _ _ _ h1 h2 h3 => rw [hT] at h1; cases h1
  | str _ _ h1 h2 => rw [hT] at h1; cases h1; exact ⟨_, rfl, h2⟩
  | slice _ _ _ h1 h2 h3 => rw [hT] at h1; cases h1
  | array _ _ _ _ h1 h2 h3 => rw [hT] at h1; cases h1
  | struct _ _ _ h1 h2 h3 => rw [hT] at h1; cases h1
theorem TyAV.slice_inv {T : TypeId} {e : TypeId} (hT : P.underlying T = some (.slice e)) {u : AV} (h : TyAV P T u) : ∃ es : List AV, u = .vsl es es.length ∧ es.length ≤ 9223372036854775807 ∧ ∀ x, x ∈ es → TyAV P e x := by
  cases h with
  | bool _ _ h1 => rw [hT] at h1; cases h1
  | int _ _ _ h1 h2 h3 => rw [hT] at h1; cases h1
  | str _ _ h1 h2 => rw [hT] at h1; cases h1
  | slice _ _ _ h1 h2 h3 => rw [hT] at h1; cases h1; exact ⟨_, rfl, h2, h3⟩
  | array _ _ _ _ h1 h2 h3 => rw [hT] at h1; cases h1
  | struct _ _ _ h1 h2 h3 => rw [hT] at h1; cases h1
theorem TyAV.struct_inv {T : TypeId} {fs : Array Field} (hT : P.underlying T = some (.struct fs)) {u : AV} (h : TyAV P T u) : ∃ us : List AV, u = .agg us ∧ us.length = fs.toList.length ∧ ∀ (i : Nat) (f : Field) (u : AV), fs.toList[i]? = some f → us[i]? = some u → TyAV P f.type u := by
  cases h with
  | bool _ _ h1 => rw [hT] at h1; cases h1
  | int _ _ _ h1 h2 h3 => rw [hT] at h1; cases h1
  | str _ _ h1 h2 => rw [hT] at h1; cases h1
  | slice _ _ _ h1 h2 h3 => rw [hT] at h1; cases h1
  | array _ _ _ _ h1 h2 h3 => rw [hT] at h1; cases h1
  | struct _ _ _ h1 h2 h3 => rw [hT] at h1; cases h1; exact ⟨_, rfl, h2, h3⟩

theorem TyAV.array_inv {T : TypeId} {n : Nat} {e : TypeId} (hT : P.underlying T = some (.array n e)) {u : AV} (h : TyAV P T u) : ∃ us : List AV, u = .agg us ∧ us.length = n ∧ ∀ x, x ∈ us → TyAV P e x := by
  cases h with
  | bool _ _ h1 => rw [hT] at h1; cases h1
  | int _ _ _ h1 h2 h3 => rw [hT] at h1; cases h1
  | str _ _ h1 h2 => rw [hT] at h1; cases h1
  | slice _ _ _ h1 h2 h3 => rw [hT] at h1; cases h1
  | array _ _ _ _ h1 h2 h3 => rw [hT] at h1; cases h1; exact ⟨_, rfl, h2, h3⟩
  | struct _ _ _ h1 h2 h3 => rw [hT] at h1; cases h1

theorem map_inv {α : Type} {f : α → AV} : ∀ {es : List AV}, (∀ x, x ∈ es → ∃ a, x = f a) → ∃ xs : List α, es = xs.map f
  | [], _ => ⟨[], rfl⟩
  | e :: es, h => by
    obtain ⟨a, ha⟩ := h e (by simp)
    obtain ⟨xs, hx⟩ := map_inv (es := es) fun x hx => h x (by simp [hx])
    exact ⟨a :: xs, by rw [ha, hx]; rfl⟩

theorem agg_of_cells {v : Value} (h : v.cells.toList.length ≠ 1) : v = .agg v.cells := by
  cases v <;> first | rfl | (exact absurd rfl h)

/-- A struct argument's relation. -/
theorem xrel_agg {I : Nat → Prop} {us : List AV} {v : Value} (h : CsRel w I ρ (AV.agg us).flat v.cells.toList) (hs : AV.sizeL us ≠ 1) : XRel w I ρ (.agg us) v :=
  ⟨v.cells, agg_of_cells (by rw [h.1, AV.flat, AV.flatL_length]; exact hs), h⟩

/-- An argument of one cell. -/
theorem okWide_one {r : Reach} {b0 : Nat} {T : TypeId} {v : Value} (hs : ∀ fs, P.underlying T ≠ some (.struct fs)) (ha : ∀ n e, P.underlying T ≠ some (.array n e)) (h : Value.okWide P w r b0 T v) : ∀ cs, v ≠ .agg cs := by
  rintro cs rfl
  unfold Value.okWide at h
  split at h
  · exact hs _ ‹_›
  · exact ha _ _ ‹_›
  · unfold Cell.okWide at h
    split at h <;> try contradiction
    unfold Cell.ok at h
    split at h <;> first | contradiction | exact h.elim
theorem xrel_one {I : Nat → Prop} {u : AV} {v : Value} (h : CsRel w I ρ u.flat v.cells.toList) (hv : ∀ cs, v ≠ .agg cs) (hu : ∀ vs, u ≠ .agg vs) (ht : ∀ vs, u ≠ .tuple vs) : XRel w I ρ u v := by
  have h0 := h.2 0 (by rw [AV.flat_one hu]; simp)
  rw [AV.flat_one hu] at h0
  have e : v.cells.toList.getD 0 Go.undef = v := by cases v <;> first | rfl | exact absurd rfl (hv _)
  rw [e] at h0
  by_cases hz : u = .undef
  · subst hz; trivial
  · rw [XRel_eq _ ht hu hz]; exact h0

theorem Ext.below {I I' : Nat → Prop} {ρ' : Rho} {w' : World} (h : Ext (OwnW ρ []) w w' I I' ρ ρ') : Below w.heap.size w w' :=
  ⟨h.os, h.tape, h.output, h.size, fun k hk => h.keep k hk (fun ⟨n, hn, _⟩ => by simp at hn)⟩

/-- A law's contract, used at the row. -/
theorem ACall.row {P : Program} {f : FuncId} {avs : List AV} (h : ACall P f avs [] (.bool true) []) (W : World) (args : Array Value) (hl : args.size = avs.length) (hx : ∀ k, k < avs.length → XRel W (Old0 W) (fun _ => none) (avs.getD k .undef) (args.getD k Go.undef)) :
    Calls P f args W fun e W' => e = .returned (.bool true) ∧ Below W.heap.size W W' := by
  refine (h W (Old0 W) (fun _ => none) args hl hx (fun n b h => by simp [Heap.get] at h) (fun n m x y _ h => by simp [Heap.get] at h) (fun b hb => ⟨hb, fun ⟨n, hn, _⟩ => by simp at hn⟩) (fun n x h => by simp [Heap.get] at h)).mono ?_
  rintro e W' ⟨c, I', ρ', rfl, hp⟩
  have := VRel.bool_inv hp.val
  subst this
  exact ⟨rfl, Ext.below hp.ext⟩
end
end Go.Proofs.Ytipbgaahpchhbaa
