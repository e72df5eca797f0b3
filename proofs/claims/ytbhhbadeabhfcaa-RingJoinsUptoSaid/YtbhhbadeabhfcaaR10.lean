/- The arguments of the laws of this seat are read. -/
import Derived.Test.YtbhhbadeabhfcaaC9
import Derived.Test.YtbhhbadeabhfcaaF27
import Derived.Test.YtbhhbadeabhfcaaRows
import Derived.ProofKit
import Derived.ChangeBears2
import Derived.OpenShut
set_option linter.unusedVariables false
set_option linter.unusedSimpArgs false
namespace Go.Proofs.Ytbhhbadeabhfcaa
open Go Go.ChangeShapes Go.WideShapes Go.ChangeAt Go.RowKit

theorem own0 : ownKnob Try.prog.godebug = none := by kernel_rfl
theorem laid0 : laidOutB Try.prog = true := by kernel_rfl
theorem lit_u32 {n : Int} (h : (Lit.int IntKind.u32 n).wf = true) : ∃ m : Nat, n = m ∧ m < 4294967296 := by
  simp [Lit.wf, IntKind.min, IntKind.max, IntKind.bits, IntKind.signed] at h
  exact ⟨n.toNat, by omega, by omega⟩
theorem lit_u64 {n : Int} (h : (Lit.int IntKind.u64 n).wf = true) : ∃ m : Nat, n = m ∧ m < 18446744073709551616 := by
  simp [Lit.wf, IntKind.min, IntKind.max, IntKind.bits, IntKind.signed] at h
  exact ⟨n.toNat, by omega, by omega⟩
theorem sr_inv {u : AV} (h : TyAV Try.prog 42 u) : ∃ s : Sr, u = s.av := by
  obtain ⟨us, rfl, hl, hf⟩ := TyAV.struct_inv Try.underlying42 h
  rcases us with _ | ⟨a, _ | ⟨b, _ | ⟨c, r⟩⟩⟩ <;> try (simp at hl; done)
  obtain ⟨a', rfl, _, _⟩ := TyAV.int_inv Try.underlying22 (hf 0 _ a rfl rfl)
  obtain ⟨b', rfl, _, _⟩ := TyAV.int_inv Try.underlying23 (hf 1 _ b rfl rfl)
  exact ⟨(a', b'), rfl⟩
theorem arg_srs {W : World} {r : Reach} {b0 : Nat} {H : Type} {enc : TypeId × Value → H} {v : Value} {d : DataW H} {p : List MemPlace} (hv : Value.okWide Try.prog W r b0 37 v) (h : DataW.Trod enc Try.prog W 0 (fun _ => true) true 37 v d p) : ∃ l : List Sr, l.length ≤ 9223372036854775807 ∧ XRel W (Old0 W) (fun _ => none) (rowS l) v := by
  obtain ⟨fuel, h⟩ := h
  obtain ⟨u, h1, h2, h3⟩ := trod_rel (ρ := fun _ => none) fuel 10 37 _ _ (by kernel_rfl) h
  obtain ⟨es, rfl, hle, hes⟩ := TyAV.slice_inv Try.underlying37 h1
  obtain ⟨l, rfl⟩ := map_inv (f := Sr.av) fun x hx => sr_inv (hes x hx)
  rw [List.length_map] at hle
  refine ⟨l, hle, ?_⟩
  rw [List.length_map] at h3
  exact xrel_one h3 (okWide_one (fun fs h => by rw [Try.underlying37] at h; cases h) (fun n e h => by rw [Try.underlying37] at h; cases h) hv) (fun vs h => by cases h) (fun vs h => by cases h)
end Go.Proofs.Ytbhhbadeabhfcaa
