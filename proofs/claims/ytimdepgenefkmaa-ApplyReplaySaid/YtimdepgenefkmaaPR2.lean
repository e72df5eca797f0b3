import Derived.Test.YtimdepgenefkmaaPR1
import Derived.Test.YtimdepgenefkmaaP31
import Derived.Test.YtimdepgenefkmaaF34
import Derived.JoinedCond
set_option linter.unusedVariables false
set_option linter.unusedSimpArgs false
namespace Go.Proofs.Ytimdepgenefkmaa
open Go Go.ChangeShapes Go.WideShapes Go.ChangeAt Go.RowKit

theorem str_list {b : ByteArray} (h : b.size ≤ maxLen) : ∃ s : List UInt8, b = ⟨s.toArray⟩ ∧ s.length ≤ 9223372036854775807 := by
  obtain ⟨a⟩ := b
  refine ⟨a.toList, by simp, ?_⟩
  have h2 : a.size ≤ maxLen := h
  simpa [maxLen] using h2
theorem od_inv {u : AV} (h : TyAV Try.prog 32 u) : ∃ o : Od, o.Ok ∧ u = o.av := by
  obtain ⟨us, rfl, hl, hf⟩ := TyAV.struct_inv Try.underlying32 h
  rcases us with _ | ⟨a, _ | ⟨b, _ | ⟨c, _ | ⟨e, _ | ⟨g, _ | ⟨x, r⟩⟩⟩⟩⟩⟩ <;> try (simp at hl; done)
  obtain ⟨a', rfl⟩ := TyAV.bool_inv Try.underlying4 (hf 0 _ a rfl rfl)
  obtain ⟨b', rfl, b1, b2⟩ := TyAV.int_inv Try.underlying22 (hf 1 _ b rfl rfl)
  obtain ⟨c', rfl, c1, c2⟩ := TyAV.int_inv Try.underlying28 (hf 2 _ c rfl rfl)
  obtain ⟨cs, rfl, hcl, hcf⟩ := TyAV.struct_inv Try.underlying30 (hf 3 _ e rfl rfl)
  rcases cs with _ | ⟨m, _ | ⟨k, _ | ⟨x, r⟩⟩⟩ <;> try (simp at hcl; done)
  obtain ⟨m', rfl, m1, m2⟩ := TyAV.int_inv Try.underlying22 (hcf 0 _ m rfl rfl)
  obtain ⟨k', rfl⟩ := byte_inv (hcf 1 _ k rfl rfl)
  obtain ⟨s, rfl, hs⟩ := TyAV.str_inv Try.underlying9 (hf 4 _ g rfl rfl)
  obtain ⟨sl, rfl, hsl⟩ := str_list (b := s) (by simpa [maxLen] using hs)
  simp only [IntKind.min, IntKind.max, IntKind.signed, IntKind.bits] at b1 b2 c1 c2 m1 m2
  simp at b1 b2 c1 c2 m1 m2
  refine ⟨⟨a', b'.toNat, c'.toNat, m'.toNat, k', sl⟩, ⟨show b'.toNat < _ by omega, show c'.toNat < _ by omega, show m'.toNat < _ by omega, hsl⟩, ?_⟩
  show AV.agg [.bool a', .int .u16 b', .int .u32 c', .agg [.int .u16 m', byteAV k'], .str ⟨sl.toArray⟩] = AV.agg [.bool a', .int .u16 (b'.toNat : Int), .int .u32 (c'.toNat : Int), .agg [.int .u16 (m'.toNat : Int), .int .u8 (k'.toNat : Int)], .str ⟨sl.toArray⟩]
  rw [Int.toNat_of_nonneg b1, Int.toNat_of_nonneg c1, Int.toNat_of_nonneg m1]
  rfl
theorem arg_id {W : World} {H : Type} {enc : TypeId × Value → H} {v : Value} {d : DataW H} {p : List MemPlace} (h : DataW.Trod enc Try.prog W 0 (fun _ => true) true 24 v d p) : ∃ (uu : Bool) (no : Nat), no < 65536 ∧ XRel W (Old0 W) (fun _ => none) (idAV uu no) v := by
  obtain ⟨fuel, h⟩ := h
  obtain ⟨u, h1, h2, h3⟩ := trod_rel (ρ := fun _ => none) fuel 10 24 _ _ (by kernel_rfl) h
  obtain ⟨us, rfl, hl, hf⟩ := TyAV.struct_inv Try.underlying24 h1
  rcases us with _ | ⟨a, _ | ⟨b, _ | ⟨x, r⟩⟩⟩ <;> try (simp at hl; done)
  obtain ⟨a', rfl⟩ := TyAV.bool_inv Try.underlying4 (hf 0 _ a rfl rfl)
  obtain ⟨b', rfl, b1, b2⟩ := TyAV.int_inv Try.underlying22 (hf 1 _ b rfl rfl)
  simp only [IntKind.min, IntKind.max, IntKind.signed, IntKind.bits] at b1 b2
  simp at b1 b2
  refine ⟨a', b'.toNat, by omega, ?_⟩
  have := xrel_agg h3 (by simp [AV.sizeL, AV.size])
  show XRel W (Old0 W) (fun _ => none) (.agg [.bool a', .int .u16 (b'.toNat : Int)]) v
  rw [Int.toNat_of_nonneg b1]; exact this
end Go.Proofs.Ytimdepgenefkmaa
