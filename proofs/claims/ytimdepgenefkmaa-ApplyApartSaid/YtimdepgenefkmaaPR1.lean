/- Pages as arguments. -/
import Derived.Test.YtimdepgenefkmaaPA
import Derived.Test.YtimdepgenefkmaaF27
import Derived.Test.YtimdepgenefkmaaRows
import Derived.ProofKit
import Derived.ChangeBears2
import Derived.OpenShut
import Derived.ChangeMaps5
set_option linter.unusedVariables false
set_option linter.unusedSimpArgs false
namespace Go.Proofs.Ytimdepgenefkmaa
open Go Go.ChangeShapes Go.WideShapes Go.ChangeAt Go.RowKit

theorem own0 : ownKnob Try.prog.godebug = none := by kernel_rfl
theorem laid0 : laidOutB Try.prog = true := by kernel_rfl
theorem lit_u16 {n : Int} (h : (Lit.int IntKind.u16 n).wf = true) : ∃ m : Nat, n = m ∧ m < 65536 := by
  simp [Lit.wf, IntKind.min, IntKind.max, IntKind.bits, IntKind.signed] at h
  exact ⟨n.toNat, by omega, by omega⟩
theorem byte_inv {u : AV} (h : TyAV Try.prog 5 u) : ∃ b : UInt8, u = byteAV b := by
  obtain ⟨n, rfl, h1, h2⟩ := TyAV.int_inv Try.underlying5 h
  simp only [IntKind.min, IntKind.max, IntKind.signed, IntKind.bits] at h1 h2
  simp at h1 h2
  refine ⟨UInt8.ofNat n.toNat, ?_⟩
  rw [← byteAV_of _ (by omega), Int.toNat_of_nonneg h1]
theorem page_inv {u : AV} (h : TyAV Try.prog 26 u) : ∃ b : List UInt8, b.length = 224 ∧ u = arrAV b := by
  obtain ⟨us, rfl, hl, hf⟩ := TyAV.array_inv Try.underlying26 h
  obtain ⟨b, rfl⟩ := map_inv (f := byteAV) fun x hx => byte_inv (hf x hx)
  exact ⟨b, by simpa using hl, rfl⟩
theorem body_inv {u : AV} (h : TyAV Try.prog 57 u) : ∃ b : List UInt8, b.length = 64 ∧ u = arrAV b := by
  obtain ⟨us, rfl, hl, hf⟩ := TyAV.array_inv Try.underlying57 h
  obtain ⟨b, rfl⟩ := map_inv (f := byteAV) fun x hx => byte_inv (hf x hx)
  exact ⟨b, by simpa using hl, rfl⟩
theorem arg_page {W : World} {H : Type} {enc : TypeId × Value → H} {v : Value} {d : DataW H} {p : List MemPlace} (h : DataW.Trod enc Try.prog W 0 (fun _ => true) true 26 v d p) : ∃ b : List UInt8, b.length = 224 ∧ XRel W (Old0 W) (fun _ => none) (arrAV b) v := by
  obtain ⟨fuel, h⟩ := h
  obtain ⟨u, h1, h2, h3⟩ := trod_rel (ρ := fun _ => none) fuel 10 26 _ _ (by kernel_rfl) h
  obtain ⟨b, hb, rfl⟩ := page_inv h1
  refine ⟨b, hb, xrel_agg h3 ?_⟩
  rw [show AV.sizeL (b.map byteAV) = b.length from sizeL_bytes b, hb]
  decide
theorem dt_inv {u : AV} (h : TyAV Try.prog 59 u) : ∃ d : Dt, d.Ok ∧ u = d.av := by
  obtain ⟨us, rfl, hl, hf⟩ := TyAV.struct_inv Try.underlying59 h
  rcases us with _ | ⟨a, _ | ⟨b, _ | ⟨c, _ | ⟨e, _ | ⟨x, r⟩⟩⟩⟩⟩ <;> try (simp at hl; done)
  obtain ⟨a', rfl, a1, a2⟩ := TyAV.int_inv Try.underlying27 (hf 0 _ a rfl rfl)
  obtain ⟨b', rfl, b1, b2⟩ := TyAV.int_inv Try.underlying28 (hf 1 _ b rfl rfl)
  obtain ⟨cs, rfl, hcl, hcf⟩ := TyAV.struct_inv Try.underlying30 (hf 2 _ c rfl rfl)
  rcases cs with _ | ⟨g, _ | ⟨k, _ | ⟨x, r⟩⟩⟩ <;> try (simp at hcl; done)
  obtain ⟨g', rfl, g1, g2⟩ := TyAV.int_inv Try.underlying22 (hcf 0 _ g rfl rfl)
  obtain ⟨k', rfl⟩ := byte_inv (hcf 1 _ k rfl rfl)
  obtain ⟨bd, hb, rfl⟩ := body_inv (hf 3 _ e rfl rfl)
  simp only [IntKind.min, IntKind.max, IntKind.signed, IntKind.bits] at a1 a2 b1 b2 g1 g2
  simp at a1 a2 b1 b2 g1 g2
  refine ⟨⟨a'.toNat, b'.toNat, g'.toNat, k', bd⟩, ⟨show a'.toNat < _ by omega, show b'.toNat < _ by omega, show g'.toNat < _ by omega, hb⟩, ?_⟩
  show AV.agg [.int .u64 a', .int .u32 b', .agg [.int .u16 g', byteAV k'], arrAV bd] = AV.agg [.int .u64 (a'.toNat : Int), .int .u32 (b'.toNat : Int), .agg [.int .u16 (g'.toNat : Int), .int .u8 (k'.toNat : Int)], arrAV bd]
  rw [Int.toNat_of_nonneg a1, Int.toNat_of_nonneg b1, Int.toNat_of_nonneg g1]
  rfl
theorem arg_dt {W : World} {H : Type} {enc : TypeId × Value → H} {v : Value} {d : DataW H} {p : List MemPlace} (h : DataW.Trod enc Try.prog W 0 (fun _ => true) true 59 v d p) : ∃ d : Dt, d.Ok ∧ XRel W (Old0 W) (fun _ => none) d.av v := by
  obtain ⟨fuel, h⟩ := h
  obtain ⟨u, h1, h2, h3⟩ := trod_rel (ρ := fun _ => none) fuel 10 59 _ _ (by kernel_rfl) h
  obtain ⟨d, hd, rfl⟩ := dt_inv h1
  exact ⟨d, hd, xrel_agg h3 (by simp [AV.sizeL, AV.size])⟩
end Go.Proofs.Ytimdepgenefkmaa
