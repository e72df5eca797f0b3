/- Calls of scripts as arguments. -/
import Derived.Test.YtpnjllemklindaaD12
import Derived.Test.YtpnjllemklindaaF27
import Derived.Test.YtpnjllemklindaaF34
import Derived.Test.YtpnjllemklindaaRows
import Derived.ProofKit
import Derived.ChangeBears2
import Derived.OpenShut
import Derived.ChangeMaps5
import Derived.JoinedCond
set_option linter.unusedVariables false
set_option linter.unusedSimpArgs false
namespace Go.Proofs.Ytpnjllemklindaa
open Go Go.ChangeShapes Go.WideShapes Go.ChangeAt Go.RowKit

theorem own0 : ownKnob Try.prog.godebug = none := by kernel_rfl
theorem bulk_part {H : Type} {d : DataW H} {l : List (DataW H)} (h : d ∈ l) : Rows.uptoBulk d ≤ Rows.uptoBulkAll l := by
  induction l with
  | nil => cases h
  | cons x r ih =>
    simp only [Rows.uptoBulkAll]
    rcases List.mem_cons.1 h with e | e
    · subst e; omega
    · have := ih e; omega
theorem bulk_pos {H : Type} (d : DataW H) : 1 ≤ Rows.uptoBulk d := by
  cases d with
  | lit l => cases l <;> simp [Rows.uptoBulk]
  | _ => simp [Rows.uptoBulk]
theorem bulk_len {H : Type} : ∀ (l : List (DataW H)), l.length ≤ Rows.uptoBulkAll l
  | [] => by simp [Rows.uptoBulkAll]
  | d :: l => by
    have h1 := bulk_len l
    have h2 := bulk_pos d
    simp only [List.length_cons, Rows.uptoBulkAll]; omega
theorem bulk_vsl {H : Type} {d : DataW H} {es : List AV} {n : Nat} (h : DRel d (.vsl es n)) : es.length ≤ Rows.uptoBulk d := by
  generalize hu : AV.vsl es n = u at h
  cases h with
  | nil => injection hu with h1 h2; subst h1; simp
  | slice ds sp es' h1 h2 =>
    injection hu with h3 h4
    subst h3
    have := bulk_len ds
    simp only [Rows.uptoBulk]; omega
  | bool _ => cases hu
  | int _ _ => cases hu
  | str _ => cases hu
  | agg _ _ _ _ => cases hu
theorem dop_inv {u : AV} (h : TyAV Try.prog 43 u) : ∃ o : DOp, o.byte < 256 ∧ (∀ f, f ∈ o.fails → flOk f) ∧ o.fails.length ≤ 9223372036854775807 ∧ o.keep.length ≤ 9223372036854775807 ∧ flOk o.kind ∧ flOk o.block ∧ u = o.av := by
  obtain ⟨us, rfl, hl, hf⟩ := TyAV.struct_inv Try.underlying43 h
  rcases us with _ | ⟨a, _ | ⟨b, _ | ⟨c, _ | ⟨d, _ | ⟨e, _ | ⟨x, r⟩⟩⟩⟩⟩⟩ <;> try (simp at hl; done)
  obtain ⟨a', rfl, a1, a2⟩ := TyAV.int_inv Try.underlying3 (hf 0 _ a rfl rfl)
  obtain ⟨b', rfl, b1, b2⟩ := TyAV.int_inv Try.underlying3 (hf 1 _ b rfl rfl)
  obtain ⟨c', rfl, c1, c2⟩ := TyAV.int_inv Try.underlying5 (hf 2 _ c rfl rfl)
  obtain ⟨es, rfl, hle, hes⟩ := TyAV.slice_inv Try.underlying41 (hf 3 _ d rfl rfl)
  obtain ⟨ks, rfl, hlk, hks⟩ := TyAV.slice_inv Try.underlying23 (hf 4 _ e rfl rfl)
  simp only [IntKind.min, IntKind.max, IntKind.signed, IntKind.bits] at a1 a2 b1 b2 c1 c2
  simp at a1 a2 b1 b2 c1 c2
  have h1 : ∃ fs : List Int, es = fs.map (.int .i64) ∧ ∀ f, f ∈ fs → flOk f := by
    clear hle hf hl h hks hlk
    induction es with
    | nil => exact ⟨[], rfl, fun f hf => by simp at hf⟩
    | cons x es ih =>
      obtain ⟨n, rfl, n1, n2⟩ := TyAV.int_inv Try.underlying3 (hes x (by simp))
      simp only [IntKind.min, IntKind.max, IntKind.signed, IntKind.bits] at n1 n2
      simp at n1 n2
      obtain ⟨fs, rfl, hfs⟩ := ih fun y hy => hes y (by simp [hy])
      refine ⟨n :: fs, rfl, fun f hf => ?_⟩
      rcases List.mem_cons.1 hf with rfl | hf
      · exact ⟨by omega, by omega⟩
      · exact hfs f hf
  obtain ⟨fs, rfl, hfs⟩ := h1
  obtain ⟨kp, rfl⟩ := map_inv (f := AV.bool) fun x hx => by
    obtain ⟨n, rfl⟩ := TyAV.bool_inv Try.underlying4 (hks x hx)
    exact ⟨n, rfl⟩
  rw [List.length_map] at hle hlk
  refine ⟨⟨a', b', c'.toNat, fs, kp⟩, by show c'.toNat < 256; omega, hfs, hle, hlk, ⟨by show _ ≤ a'; omega, by show a' ≤ _; omega⟩, ⟨by show _ ≤ b'; omega, by show b' ≤ _; omega⟩, ?_⟩
  show AV.agg [.int .i64 a', .int .i64 b', .int .u8 c', .vsl (fs.map (.int .i64)) (fs.map (AV.int .i64)).length, .vsl (kp.map .bool) (kp.map AV.bool).length] = AV.agg [.int .i64 a', .int .i64 b', .int .u8 (c'.toNat : Int), intsAV fs, boolsAV kp]
  rw [Int.toNat_of_nonneg c1, List.length_map, List.length_map]
theorem bulk_dop {H : Type} {d : DataW H} {o : DOp} (h : DRel d o.av) : o.fails.length ≤ Rows.uptoBulk d ∧ o.keep.length ≤ Rows.uptoBulk d := by
  generalize hu : o.av = u at h
  cases h with
  | agg ds us h1 h2 =>
    injection hu with hu
    subst hu
    obtain ⟨d3, h3⟩ := list_get (xs := ds) (i := 3) (by rw [h1]; simp)
    obtain ⟨d4, h4⟩ := list_get (xs := ds) (i := 4) (by rw [h1]; simp)
    have g3 := bulk_vsl (h2 3 d3 _ h3 rfl)
    have g4 := bulk_vsl (h2 4 d4 _ h4 rfl)
    have p3 := bulk_part (List.mem_of_getElem? h3)
    have p4 := bulk_part (List.mem_of_getElem? h4)
    simp only [List.length_map] at g3 g4
    simp only [Rows.uptoBulk]; omega
  | bool _ => cases hu
  | int _ _ => cases hu
  | str _ => cases hu
  | nil => cases hu
  | slice _ _ _ _ _ => cases hu
theorem arg_dop {W : World} {H : Type} {enc : TypeId × Value → H} {v : Value} {d : DataW H} {p : List MemPlace} (h : DataW.Trod enc Try.prog W 0 (fun _ => true) true 43 v d p) :
    ∃ o : DOp, o.byte < 256 ∧ (∀ f, f ∈ o.fails → flOk f) ∧ o.fails.length ≤ 9223372036854775807 ∧ o.keep.length ≤ 9223372036854775807 ∧ flOk o.kind ∧ flOk o.block ∧ (o.fails.length ≤ Rows.uptoBulk d ∧ o.keep.length ≤ Rows.uptoBulk d) ∧ XRel W (Old0 W) (fun _ => none) o.av v := by
  obtain ⟨fuel, h⟩ := h
  obtain ⟨u, h1, h2, h3, h4⟩ := trod_dat (ρ := fun _ => none) fuel 10 43 _ _ (by kernel_rfl) h
  obtain ⟨o, q1, q2, q3, q4, q5, q6, rfl⟩ := dop_inv h1
  exact ⟨o, q1, q2, q3, q4, q5, q6, bulk_dop h4, xrel_agg h3 (by simp [AV.sizeL, AV.size])⟩
end Go.Proofs.Ytpnjllemklindaa
