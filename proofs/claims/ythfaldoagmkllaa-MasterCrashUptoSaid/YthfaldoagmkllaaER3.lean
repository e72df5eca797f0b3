/- Rows of truth values as arguments; five arguments. -/
import Derived.Test.YthfaldoagmkllaaER2
import Derived.Test.YthfaldoagmkllaaE19
import Derived.Test.YthfaldoagmkllaaF34
import Derived.JoinedCond
set_option linter.unusedVariables false
set_option linter.unusedSimpArgs false
namespace Go.Proofs.Ythfaldoagmkllaa
open Go Go.ChangeShapes Go.WideShapes Go.ChangeAt Go.RowKit

theorem bulk_part {H : Type} {d : DataW H} {l : List (DataW H)} (h : d ∈ l) : Rows.uptoBulk d ≤ Rows.uptoBulkAll l := by
  induction l with
  | nil => cases h
  | cons x r ih =>
    simp only [Rows.uptoBulkAll]
    rcases List.mem_cons.1 h with e | e
    · subst e; omega
    · have := ih e; omega
theorem bulk_pos {H : Type} (d : DataW H) : 1 ≤ Rows.uptoBulk d := by
  cases d with
  | lit l => cases l <;> simp [Rows.uptoBulk]
  | _ => simp [Rows.uptoBulk]
theorem bulk_len {H : Type} : ∀ (l : List (DataW H)), l.length ≤ Rows.uptoBulkAll l
  | [] => by simp [Rows.uptoBulkAll]
  | d :: l => by
    have h1 := bulk_len l
    have h2 := bulk_pos d
    simp only [List.length_cons, Rows.uptoBulkAll]; omega
theorem bulk_vsl {H : Type} {d : DataW H} {es : List AV} {n : Nat} (h : DRel d (.vsl es n)) : es.length ≤ Rows.uptoBulk d := by
  generalize hu : AV.vsl es n = u at h
  cases h with
  | nil => injection hu with h1 h2; subst h1; simp
  | slice ds sp es' h1 h2 =>
    injection hu with h3 h4
    subst h3
    have := bulk_len ds
    simp only [Rows.uptoBulk]; omega
  | bool _ => cases hu
  | int _ _ => cases hu
  | str _ => cases hu
  | agg _ _ _ _ => cases hu
theorem trodAll_five {H : Type} {enc : TypeId × Value → H} {P : Program} {w : World} {base : Nat} {spare : Nat → Bool} {held : Bool} {t0 t1 t2 t3 t4 : TypeId} {args : Array Value} {ds : List (DataW H)} {ps : List MemPlace} (h : DataW.TrodAll enc P w base spare held [t0, t1, t2, t3, t4] args.toList ds ps) :
    ∃ v0 v1 v2 v3 v4 d0 d1 d2 d3 d4 p0 p1 p2 p3 p4, args = #[v0, v1, v2, v3, v4] ∧ ds = [d0, d1, d2, d3, d4] ∧ ps = p0 ++ p1 ++ p2 ++ p3 ++ p4 ∧ DataW.Trod enc P w base spare held t0 v0 d0 p0 ∧ DataW.Trod enc P w base spare held t1 v1 d1 p1 ∧ DataW.Trod enc P w base spare held t2 v2 d2 p2 ∧ DataW.Trod enc P w base spare held t3 v3 d3 p3 ∧ DataW.Trod enc P w base spare held t4 v4 d4 p4 := by
  obtain ⟨v0, s0, d0, e0, p0, q0, hargs, rfl, rfl, h0, r0⟩ := trodAll_cons h
  obtain ⟨v1, s1, d1, e1, p1, q1, rfl, rfl, rfl, h1, r1⟩ := trodAll_cons r0
  obtain ⟨v2, s2, d2, e2, p2, q2, rfl, rfl, rfl, h2, r2⟩ := trodAll_cons r1
  obtain ⟨v3, s3, d3, e3, p3, q3, rfl, rfl, rfl, h3, r3⟩ := trodAll_cons r2
  obtain ⟨v4, s4, d4, e4, p4, q4, rfl, rfl, rfl, h4, r4⟩ := trodAll_cons r3
  obtain ⟨rfl, rfl, rfl⟩ := trodAll_nil r4
  exact ⟨v0, v1, v2, v3, v4, d0, d1, d2, d3, d4, p0, p1, p2, p3, p4, by cases args; simp_all, rfl, by simp, h0, h1, h2, h3, h4⟩
theorem arg_bools {W : World} {r : Reach} {b0 : Nat} {H : Type} {enc : TypeId × Value → H} {v : Value} {d : DataW H} {p : List MemPlace} (hv : Value.okWide Try.prog W r b0 53 v) (h : DataW.Trod enc Try.prog W 0 (fun _ => true) true 53 v d p) :
    ∃ l : List Bool, l.length ≤ Rows.uptoBulk d ∧ XRel W (Old0 W) (fun _ => none) (boolsAV l) v := by
  obtain ⟨fuel, h⟩ := h
  obtain ⟨u, h1, h2, h3, h4⟩ := trod_dat (ρ := fun _ => none) fuel 10 53 _ _ (by kernel_rfl) h
  obtain ⟨es, rfl, hle, hes⟩ := TyAV.slice_inv Try.underlying53 h1
  obtain ⟨l, rfl⟩ := map_inv (f := AV.bool) fun x hx => TyAV.bool_inv Try.underlying4 (hes x hx)
  have hb := bulk_vsl h4
  rw [List.length_map] at hb
  rw [List.length_map] at h3 h4
  exact ⟨l, hb, xrel_one h3 (okWide_one (fun fs h => by rw [Try.underlying53] at h; cases h) (fun n e h => by rw [Try.underlying53] at h; cases h) hv) (fun vs h => by cases h) (fun vs h => by cases h)⟩
end Go.Proofs.Ythfaldoagmkllaa
