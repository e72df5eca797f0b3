/- Blocks as arguments. -/
import Derived.Test.YtbhhbadeabhfcaaR14
set_option linter.unusedVariables false
set_option linter.unusedSimpArgs false
namespace Go.Proofs.Ytbhhbadeabhfcaa
open Go Go.ChangeShapes Go.WideShapes Go.ChangeAt Go.RowKit

theorem byte_inv {u : AV} (h : TyAV Try.prog 5 u) : ∃ b : UInt8, u = byteAV b := by
  obtain ⟨n, rfl, h1, h2⟩ := TyAV.int_inv Try.underlying5 h
  simp only [IntKind.min, IntKind.max, IntKind.signed, IntKind.bits] at h1 h2
  simp at h1 h2
  refine ⟨UInt8.ofNat n.toNat, ?_⟩
  rw [← byteAV_of _ (by omega), Int.toNat_of_nonneg h1]
theorem arr_inv {u : AV} (h : TyAV Try.prog 27 u) : ∃ b : List UInt8, b.length = 256 ∧ u = arrAV b := by
  obtain ⟨us, rfl, hl, hf⟩ := TyAV.array_inv Try.underlying27 h
  obtain ⟨b, rfl⟩ := map_inv (f := byteAV) fun x hx => byte_inv (hf x hx)
  exact ⟨b, by simpa using hl, rfl⟩
theorem arg_arr {W : World} {H : Type} {enc : TypeId × Value → H} {v : Value} {d : DataW H} {p : List MemPlace} (h : DataW.Trod enc Try.prog W 0 (fun _ => true) true 27 v d p) : ∃ b : List UInt8, b.length = 256 ∧ XRel W (Old0 W) (fun _ => none) (arrAV b) v := by
  obtain ⟨fuel, h⟩ := h
  obtain ⟨u, h1, h2, h3⟩ := trod_rel (ρ := fun _ => none) fuel 10 27 _ _ (by kernel_rfl) h
  obtain ⟨b, hb, rfl⟩ := arr_inv h1
  refine ⟨b, hb, xrel_agg h3 ?_⟩
  rw [show AV.sizeL (b.map byteAV) = b.length from sizeL_bytes b, hb]
  decide
end Go.Proofs.Ytbhhbadeabhfcaa
