import Derived.Test.YtimdepgenefkmaaPA
import Derived.Test.YtimdepgenefkmaaF27
import Derived.Test.YtimdepgenefkmaaRows
import Derived.ProofKit
import Derived.ChangeBears2
import Derived.OpenShut
import Derived.ChangeMaps5
set_option linter.unusedVariables false
set_option linter.unusedSimpArgs false
namespace Go.Proofs.Ytimdepgenefkmaa
open Go Go.ChangeShapes Go.WideShapes Go.ChangeAt Go.RowKit

theorem own0 : ownKnob Try.prog.godebug = none := by kernel_rfl
theorem laid0 : laidOutB Try.prog = true := by kernel_rfl
theorem byte_inv {u : AV} (h : TyAV Try.prog 5 u) : ∃ b : UInt8, u = byteAV b := by
  obtain ⟨n, rfl, h1, h2⟩ := TyAV.int_inv Try.underlying5 h
  simp only [IntKind.min, IntKind.max, IntKind.signed, IntKind.bits] at h1 h2
  simp at h1 h2
  refine ⟨UInt8.ofNat n.toNat, ?_⟩
  rw [← byteAV_of _ (by omega), Int.toNat_of_nonneg h1]
theorem page_inv {u : AV} (h : TyAV Try.prog 26 u) : ∃ b : List UInt8, b.length = 224 ∧ u = arrAV b := by
  obtain ⟨us, rfl, hl, hf⟩ := TyAV.array_inv Try.underlying26 h
  obtain ⟨b, rfl⟩ := map_inv (f := byteAV) fun x hx => byte_inv (hf x hx)
  exact ⟨b, by simpa using hl, rfl⟩
theorem arg_page {W : World} {H : Type} {enc : TypeId × Value → H} {v : Value} {d : DataW H} {p : List MemPlace} (h : DataW.Trod enc Try.prog W 0 (fun _ => true) true 26 v d p) : ∃ b : List UInt8, b.length = 224 ∧ XRel W (Old0 W) (fun _ => none) (arrAV b) v := by
  obtain ⟨fuel, h⟩ := h
  obtain ⟨u, h1, h2, h3⟩ := trod_rel (ρ := fun _ => none) fuel 10 26 _ _ (by kernel_rfl) h
  obtain ⟨b, hb, rfl⟩ := page_inv h1
  refine ⟨b, hb, xrel_agg h3 ?_⟩
  rw [show AV.sizeL (b.map byteAV) = b.length from sizeL_bytes b, hb]
  decide
end Go.Proofs.Ytimdepgenefkmaa
