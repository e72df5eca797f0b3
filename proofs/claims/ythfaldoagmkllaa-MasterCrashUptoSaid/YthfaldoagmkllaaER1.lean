/- Masters and blocks as arguments. -/
import Derived.Test.YthfaldoagmkllaaE9
import Derived.Test.YthfaldoagmkllaaF27
import Derived.Test.YthfaldoagmkllaaRows
import Derived.ProofKit
import Derived.ChangeBears2
import Derived.OpenShut
import Derived.ChangeMaps5
set_option linter.unusedVariables false
set_option linter.unusedSimpArgs false
namespace Go.Proofs.Ythfaldoagmkllaa
open Go Go.ChangeShapes Go.WideShapes Go.ChangeAt Go.RowKit

theorem own0 : ownKnob Try.prog.godebug = none := by kernel_rfl
theorem byte_inv {u : AV} (h : TyAV Try.prog 5 u) : ∃ b : UInt8, u = byteAV b := by
  obtain ⟨n, rfl, h1, h2⟩ := TyAV.int_inv Try.underlying5 h
  simp only [IntKind.min, IntKind.max, IntKind.signed, IntKind.bits] at h1 h2
  simp at h1 h2
  refine ⟨UInt8.ofNat n.toNat, ?_⟩
  rw [← byteAV_of _ (by omega), Int.toNat_of_nonneg h1]
theorem block_inv {u : AV} (h : TyAV Try.prog 29 u) : ∃ b : List UInt8, b.length = 256 ∧ u = arrAV b := by
  obtain ⟨us, rfl, hl, hf⟩ := TyAV.array_inv Try.underlying29 h
  obtain ⟨b, rfl⟩ := map_inv (f := byteAV) fun x hx => byte_inv (hf x hx)
  exact ⟨b, by simpa using hl, rfl⟩
theorem arg_block {W : World} {H : Type} {enc : TypeId × Value → H} {v : Value} {d : DataW H} {p : List MemPlace} (h : DataW.Trod enc Try.prog W 0 (fun _ => true) true 29 v d p) : ∃ b : List UInt8, b.length = 256 ∧ XRel W (Old0 W) (fun _ => none) (arrAV b) v := by
  obtain ⟨fuel, h⟩ := h
  obtain ⟨u, h1, h2, h3⟩ := trod_rel (ρ := fun _ => none) fuel 10 29 _ _ (by kernel_rfl) h
  obtain ⟨b, hb, rfl⟩ := block_inv h1
  refine ⟨b, hb, xrel_agg h3 ?_⟩
  rw [show AV.sizeL (b.map byteAV) = b.length from sizeL_bytes b, hb]
  decide
theorem ms_inv {u : AV} (h : TyAV Try.prog 27 u) : ∃ m : Ms, m.Ok ∧ u = m.av := by
  obtain ⟨us, rfl, hl, hf⟩ := TyAV.struct_inv Try.underlying27 h
  rcases us with _ | ⟨a, _ | ⟨b, _ | ⟨c, _ | ⟨d, _ | ⟨e, _ | ⟨g, _ | ⟨x, r⟩⟩⟩⟩⟩⟩⟩ <;> try (simp at hl; done)
  obtain ⟨a', rfl, a1, a2⟩ := TyAV.int_inv Try.underlying22 (hf 0 _ a rfl rfl)
  obtain ⟨b', rfl, b1, b2⟩ := TyAV.int_inv Try.underlying23 (hf 1 _ b rfl rfl)
  obtain ⟨c', rfl, c1, c2⟩ := TyAV.int_inv Try.underlying23 (hf 2 _ c rfl rfl)
  obtain ⟨d', rfl, d1, d2⟩ := TyAV.int_inv Try.underlying22 (hf 3 _ d rfl rfl)
  obtain ⟨e', rfl, e1, e2⟩ := TyAV.int_inv Try.underlying23 (hf 4 _ e rfl rfl)
  obtain ⟨cs, rfl, hcl, hcf⟩ := TyAV.struct_inv Try.underlying25 (hf 5 _ g rfl rfl)
  rcases cs with _ | ⟨p, _ | ⟨q, _ | ⟨l, _ | ⟨t, _ | ⟨x, r⟩⟩⟩⟩⟩ <;> try (simp at hcl; done)
  obtain ⟨p', rfl, p1, p2⟩ := TyAV.int_inv Try.underlying3 (hcf 0 _ p rfl rfl)
  obtain ⟨q', rfl, q1, q2⟩ := TyAV.int_inv Try.underlying3 (hcf 1 _ q rfl rfl)
  obtain ⟨l', rfl, l1, l2⟩ := TyAV.int_inv Try.underlying3 (hcf 2 _ l rfl rfl)
  obtain ⟨t', rfl, t1, t2⟩ := TyAV.int_inv Try.underlying23 (hcf 3 _ t rfl rfl)
  simp only [IntKind.min, IntKind.max, IntKind.signed, IntKind.bits] at a1 a2 b1 b2 c1 c2 d1 d2 e1 e2 t1 t2
  simp at a1 a2 b1 b2 c1 c2 d1 d2 e1 e2 t1 t2
  refine ⟨⟨a'.toNat, b'.toNat, c'.toNat, d'.toNat, e'.toNat, p', q', l', t'.toNat⟩, ⟨show a'.toNat < _ by omega, show b'.toNat < _ by omega, show c'.toNat < _ by omega, show d'.toNat < _ by omega, show e'.toNat < _ by omega, show t'.toNat < _ by omega⟩, ?_⟩
  show AV.agg [.int .u64 a', .int .u32 b', .int .u32 c', .int .u64 d', .int .u32 e', .agg [.int .i64 p', .int .i64 q', .int .i64 l', .int .u32 t']] = AV.agg [.int .u64 (a'.toNat : Int), .int .u32 (b'.toNat : Int), .int .u32 (c'.toNat : Int), .int .u64 (d'.toNat : Int), .int .u32 (e'.toNat : Int), .agg [.int .i64 p', .int .i64 q', .int .i64 l', .int .u32 (t'.toNat : Int)]]
  rw [Int.toNat_of_nonneg a1, Int.toNat_of_nonneg b1, Int.toNat_of_nonneg c1, Int.toNat_of_nonneg d1, Int.toNat_of_nonneg e1, Int.toNat_of_nonneg t1]
theorem arg_ms {W : World} {H : Type} {enc : TypeId × Value → H} {v : Value} {d : DataW H} {p : List MemPlace} (h : DataW.Trod enc Try.prog W 0 (fun _ => true) true 27 v d p) : ∃ m : Ms, m.Ok ∧ XRel W (Old0 W) (fun _ => none) m.av v := by
  obtain ⟨fuel, h⟩ := h
  obtain ⟨u, h1, h2, h3⟩ := trod_rel (ρ := fun _ => none) fuel 10 27 _ _ (by kernel_rfl) h
  obtain ⟨m, hm, rfl⟩ := ms_inv h1
  exact ⟨m, hm, xrel_agg h3 (by simp [AV.sizeL, AV.size])⟩
end Go.Proofs.Ythfaldoagmkllaa
