/- Parts of the stream as arguments. -/
import Derived.Test.YtbhhbadeabhfcaaR13
set_option linter.unusedVariables false
set_option linter.unusedSimpArgs false
namespace Go.Proofs.Ytbhhbadeabhfcaa
open Go Go.ChangeShapes Go.WideShapes Go.ChangeAt Go.RowKit

theorem lit_u8n {n : Int} (h : (Lit.int IntKind.u8 n).wf = true) : ∃ m : Nat, n = m ∧ m < 256 := by
  simp [Lit.wf, IntKind.min, IntKind.max, IntKind.bits, IntKind.signed] at h
  exact ⟨n.toNat, by omega, by omega⟩
theorem ch_inv {u : AV} (h : TyAV Try.prog 25 u) : ∃ c : Ch, c.Wf ∧ u = c.av := by
  obtain ⟨us, rfl, hl, hf⟩ := TyAV.struct_inv Try.underlying25 h
  rcases us with _ | ⟨a, _ | ⟨b, _ | ⟨c, _ | ⟨d, _ | ⟨e, r⟩⟩⟩⟩⟩ <;> try (simp at hl; done)
  obtain ⟨a', rfl, a1, a2⟩ := TyAV.int_inv Try.underlying22 (hf 0 _ a rfl rfl)
  obtain ⟨b', rfl, b1, b2⟩ := TyAV.int_inv Try.underlying22 (hf 1 _ b rfl rfl)
  obtain ⟨c', rfl, c1, c2⟩ := TyAV.int_inv Try.underlying23 (hf 2 _ c rfl rfl)
  obtain ⟨s, rfl, hs⟩ := TyAV.str_inv Try.underlying9 (hf 3 _ d rfl rfl)
  simp only [IntKind.min, IntKind.max, IntKind.signed, IntKind.bits] at a1 a2 b1 b2 c1 c2
  simp at a1 a2 b1 b2 c1 c2
  obtain ⟨l, rfl, hl2⟩ := str_list (b := s) (by simpa [maxLen] using hs)
  refine ⟨⟨a'.toNat, b'.toNat, c'.toNat, l⟩, ⟨show a'.toNat < _ by omega, show b'.toNat < _ by omega, show c'.toNat < _ by omega, hl2⟩, ?_⟩
  show AV.agg [.int .u32 a', .int .u32 b', .int .u64 c', .str ⟨l.toArray⟩] = AV.agg [.int .u32 (a'.toNat : Int), .int .u32 (b'.toNat : Int), .int .u64 (c'.toNat : Int), .str ⟨l.toArray⟩]
  rw [Int.toNat_of_nonneg a1, Int.toNat_of_nonneg b1, Int.toNat_of_nonneg c1]
theorem arg_ch {W : World} {H : Type} {enc : TypeId × Value → H} {v : Value} {d : DataW H} {p : List MemPlace} (h : DataW.Trod enc Try.prog W 0 (fun _ => true) true 25 v d p) : ∃ c : Ch, c.Wf ∧ XRel W (Old0 W) (fun _ => none) c.av v := by
  obtain ⟨fuel, h⟩ := h
  obtain ⟨u, h1, h2, h3⟩ := trod_rel (ρ := fun _ => none) fuel 10 25 _ _ (by kernel_rfl) h
  obtain ⟨c, hc, rfl⟩ := ch_inv h1
  exact ⟨c, hc, xrel_agg h3 (by simp [AV.sizeL, AV.size])⟩
end Go.Proofs.Ytbhhbadeabhfcaa
