/- Bytes and numbers as arguments. -/
import Derived.Test.YtlagoaggllhggaaB9
import Derived.Test.YtlagoaggllhggaaR7
set_option linter.unusedVariables false
set_option linter.unusedSimpArgs false
namespace Go.Proofs.Ytlagoaggllhggaa
open Go Go.ChangeShapes Go.WideShapes Go.ChangeAt Go.RowKit

theorem lit_u16 {n : Int} (h : (Lit.int IntKind.u16 n).wf = true) : 0 ≤ n ∧ n ≤ 65535 := by
  simp [Lit.wf, IntKind.min, IntKind.max, IntKind.bits, IntKind.signed] at h
  omega
theorem lit_u8 {n : Int} (h : (Lit.int IntKind.u8 n).wf = true) : 0 ≤ n ∧ n ≤ 255 := by
  simp [Lit.wf, IntKind.min, IntKind.max, IntKind.bits, IntKind.signed] at h
  omega
theorem arg_bytes {W : World} {r : Reach} {b0 : Nat} {H : Type} {enc : TypeId × Value → H} {v : Value} {d : DataW H} {p : List MemPlace} (hv : Value.okWide Try.prog W r b0 54 v) (h : DataW.Trod enc Try.prog W 0 (fun _ => true) true 54 v d p) : ∃ bs : List Int, bs.length ≤ 9223372036854775807 ∧ (∀ b, b ∈ bs → 0 ≤ b ∧ b ≤ 255) ∧ XRel W (Old0 W) (fun _ => none) (byAV bs) v := by
  obtain ⟨fuel, h⟩ := h
  obtain ⟨u, h1, h2, h3⟩ := trod_rel (ρ := fun _ => none) fuel 10 54 _ _ (by kernel_rfl) h
  obtain ⟨es, rfl, hle, hes⟩ := TyAV.slice_inv Try.underlying54 h1
  have hn : ∀ x, x ∈ es → ∃ n : Int, x = .int .u8 n ∧ 0 ≤ n ∧ n ≤ 255 := fun x hx => by
    obtain ⟨n, h1, h2, h3⟩ := TyAV.int_inv Try.underlying5 (hes x hx)
    exact ⟨n, h1, by simpa [IntKind.min, IntKind.signed] using h2, by simpa [IntKind.max, IntKind.bits, IntKind.signed] using h3⟩
  obtain ⟨bs, rfl⟩ := map_inv (f := AV.int .u8) fun x hx => by
    obtain ⟨n, h1, _⟩ := hn x hx
    exact ⟨n, h1⟩
  rw [List.length_map] at hle
  refine ⟨bs, hle, fun b hb => ?_, ?_⟩
  · obtain ⟨n, h1, h2⟩ := hn (.int .u8 b) (List.mem_map.2 ⟨b, hb, rfl⟩)
    cases h1; exact h2
  · rw [List.length_map] at h3
    exact xrel_one h3 (okWide_one (fun fs h => by rw [Try.underlying54] at h; cases h) (fun n e h => by rw [Try.underlying54] at h; cases h) hv) (fun vs h => by cases h) (fun vs h => by cases h)

end Go.Proofs.Ytlagoaggllhggaa
