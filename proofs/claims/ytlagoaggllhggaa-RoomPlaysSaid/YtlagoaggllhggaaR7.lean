/- The arguments of the laws of this seat are read. -/
import Derived.Test.YtlagoaggllhggaaA6
import Derived.Test.YtlagoaggllhggaaF27
import Derived.Test.YtlagoaggllhggaaRows
import Derived.ProofKit
import Derived.ChangeBears2
import Derived.OpenShut
set_option linter.unusedVariables false
set_option linter.unusedSimpArgs false
namespace Go.Proofs.Ytlagoaggllhggaa
open Go Go.ChangeShapes Go.WideShapes Go.ChangeAt Go.RowKit

theorem own0 : ownKnob Try.prog.godebug = none := by kernel_rfl
theorem laid0 : laidOutB Try.prog = true := by kernel_rfl

theorem old_inv {u : AV} (h : TyAV Try.prog 50 u) : ∃ o : Old, u = o.av := by
  obtain ⟨us, rfl, hl, hf⟩ := TyAV.struct_inv Try.underlying50 h
  rcases us with _ | ⟨a, _ | ⟨b, _ | ⟨c, _ | ⟨d, _ | ⟨e, _ | ⟨x, r⟩⟩⟩⟩⟩⟩ <;> try (simp at hl; done)
  obtain ⟨a', rfl⟩ := TyAV.bool_inv Try.underlying4 (hf 0 _ a rfl rfl)
  obtain ⟨b', rfl, _, _⟩ := TyAV.int_inv Try.underlying45 (hf 1 _ b rfl rfl)
  obtain ⟨c', rfl, _, _⟩ := TyAV.int_inv Try.underlying46 (hf 2 _ c rfl rfl)
  obtain ⟨ds, rfl, hl2, hf2⟩ := TyAV.struct_inv Try.underlying48 (hf 3 _ d rfl rfl)
  obtain ⟨e', rfl, _⟩ := TyAV.str_inv Try.underlying9 (hf 4 _ e rfl rfl)
  rcases ds with _ | ⟨p, _ | ⟨q, _ | ⟨x, r⟩⟩⟩ <;> try (simp at hl2; done)
  obtain ⟨p', rfl, _, _⟩ := TyAV.int_inv Try.underlying45 (hf2 0 _ p rfl rfl)
  obtain ⟨q', rfl, _, _⟩ := TyAV.int_inv Try.underlying5 (hf2 1 _ q rfl rfl)
  exact ⟨⟨a', b', c', p', q', e'⟩, rfl⟩
theorem undo_inv {u : AV} (h : TyAV Try.prog 33 u) : ∃ lsn xs, u = undoAV lsn xs ∧ xs.length ≤ 9223372036854775807 := by
  obtain ⟨us, rfl, hl, hf⟩ := TyAV.struct_inv Try.underlying33 h
  rcases us with _ | ⟨a, _ | ⟨b, _ | ⟨c, r⟩⟩⟩ <;> try (simp at hl; done)
  obtain ⟨a', rfl, _, _⟩ := TyAV.int_inv Try.underlying30 (hf 0 _ a rfl rfl)
  obtain ⟨es, rfl, hle, hes⟩ := TyAV.slice_inv Try.underlying31 (hf 1 _ b rfl rfl)
  obtain ⟨xs, rfl⟩ := map_inv (f := Old.av) fun x hx => old_inv (hes x hx)
  rw [List.length_map] at hle ⊢
  exact ⟨a', xs, rfl, hle⟩

theorem arg_undo {W : World} {H : Type} {enc : TypeId × Value → H} {v : Value} {d : DataW H} {p : List MemPlace} (h : DataW.Trod enc Try.prog W 0 (fun _ => true) true 33 v d p) : ∃ lsn xs, xs.length ≤ 9223372036854775807 ∧ XRel W (Old0 W) (fun _ => none) (undoAV lsn xs) v := by
  obtain ⟨fuel, h⟩ := h
  obtain ⟨u, h1, h2, h3⟩ := trod_rel (ρ := fun _ => none) fuel 10 33 _ _ (by kernel_rfl) h
  obtain ⟨lsn, xs, rfl, hl⟩ := undo_inv h1
  exact ⟨lsn, xs, hl, xrel_agg h3 (by simp [AV.sizeL, AV.size])⟩
theorem arg_old {W : World} {H : Type} {enc : TypeId × Value → H} {v : Value} {d : DataW H} {p : List MemPlace} (h : DataW.Trod enc Try.prog W 0 (fun _ => true) true 50 v d p) : ∃ o : Old, XRel W (Old0 W) (fun _ => none) o.av v := by
  obtain ⟨fuel, h⟩ := h
  obtain ⟨u, h1, h2, h3⟩ := trod_rel (ρ := fun _ => none) fuel 10 50 _ _ (by kernel_rfl) h
  obtain ⟨o, rfl⟩ := old_inv h1
  exact ⟨o, xrel_agg h3 (by simp [AV.sizeL, AV.size])⟩

end Go.Proofs.Ytlagoaggllhggaa
