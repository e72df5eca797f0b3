/- Scripts of a room as arguments. -/
import Derived.Test.YtlagoaggllhggaaB16
import Derived.Test.YtlagoaggllhggaaR7
set_option linter.unusedVariables false
set_option linter.unusedSimpArgs false
namespace Go.Proofs.Ytlagoaggllhggaa
open Go Go.ChangeShapes Go.WideShapes Go.ChangeAt Go.RowKit

theorem rop_inv {u : AV} (h : TyAV Try.prog 35 u) : ∃ o : Rop, u = o.av := by
  obtain ⟨us, rfl, hl, hf⟩ := TyAV.struct_inv Try.underlying35 h
  rcases us with _ | ⟨a, _ | ⟨b, _ | ⟨c, _ | ⟨x, r⟩⟩⟩⟩ <;> try (simp at hl; done)
  obtain ⟨a', rfl, _, _⟩ := TyAV.int_inv Try.underlying3 (hf 0 _ a rfl rfl)
  obtain ⟨b', rfl, _, _⟩ := TyAV.int_inv Try.underlying3 (hf 1 _ b rfl rfl)
  obtain ⟨lsn, xs, rfl, _⟩ := undo_inv (hf 2 _ c rfl rfl)
  exact ⟨⟨a', b', lsn, xs⟩, rfl⟩
theorem arg_rops {W : World} {r : Reach} {b0 : Nat} {H : Type} {enc : TypeId × Value → H} {v : Value} {d : DataW H} {p : List MemPlace} (hv : Value.okWide Try.prog W r b0 22 v) (h : DataW.Trod enc Try.prog W 0 (fun _ => true) true 22 v d p) : ∃ l : List Rop, l.length ≤ 9223372036854775807 ∧ XRel W (Old0 W) (fun _ => none) (ropsAV l) v := by
  obtain ⟨fuel, h⟩ := h
  obtain ⟨u, h1, h2, h3⟩ := trod_rel (ρ := fun _ => none) fuel 10 22 _ _ (by kernel_rfl) h
  obtain ⟨es, rfl, hle, hes⟩ := TyAV.slice_inv Try.underlying22 h1
  obtain ⟨l, rfl⟩ := map_inv (f := Rop.av) fun x hx => rop_inv (hes x hx)
  rw [List.length_map] at hle
  refine ⟨l, hle, ?_⟩
  rw [List.length_map] at h3
  exact xrel_one h3 (okWide_one (fun fs h => by rw [Try.underlying22] at h; cases h) (fun n e h => by rw [Try.underlying22] at h; cases h) hv) (fun vs h => by cases h) (fun vs h => by cases h)
end Go.Proofs.Ytlagoaggllhggaa
