/- The statement SlotFits: whatever the page, the slot and the length, the law returns true and its input reads as it did. -/
import Derived.Test.YtgcdbfeoadmmcaaA8
import Derived.Test.YtgcdbfeoadmmcaaF27
import Derived.Test.YtgcdbfeoadmmcaaRows
import Derived.ProofKit
import Derived.ChangeBears2
import Derived.OpenShut
set_option linter.unusedVariables false
set_option linter.unusedSimpArgs false
namespace Go.Proofs.Ytgcdbfeoadmmcaa
open Go Go.ChangeShapes Go.WideShapes Go.ChangeAt Go.RowKit

theorem own0 : ownKnob Try.prog.godebug = none := by kernel_rfl
theorem laid0 : laidOutB Try.prog = true := by kernel_rfl

theorem old_inv {u : AV} (h : TyAV Try.prog 31 u) : ∃ o : Old, u = o.av := by
  obtain ⟨us, rfl, hl, hf⟩ := TyAV.struct_inv Try.underlying31 h
  rcases us with _ | ⟨a, _ | ⟨b, _ | ⟨c, _ | ⟨d, _ | ⟨e, _ | ⟨x, r⟩⟩⟩⟩⟩⟩ <;> try (simp at hl; done)
  obtain ⟨a', rfl⟩ := TyAV.bool_inv Try.underlying4 (hf 0 _ a rfl rfl)
  obtain ⟨b', rfl, _, _⟩ := TyAV.int_inv Try.underlying26 (hf 1 _ b rfl rfl)
  obtain ⟨c', rfl, _, _⟩ := TyAV.int_inv Try.underlying27 (hf 2 _ c rfl rfl)
  obtain ⟨ds, rfl, hl2, hf2⟩ := TyAV.struct_inv Try.underlying29 (hf 3 _ d rfl rfl)
  obtain ⟨e', rfl, _⟩ := TyAV.str_inv Try.underlying9 (hf 4 _ e rfl rfl)
  rcases ds with _ | ⟨p, _ | ⟨q, _ | ⟨x, r⟩⟩⟩ <;> try (simp at hl2; done)
  obtain ⟨p', rfl, _, _⟩ := TyAV.int_inv Try.underlying26 (hf2 0 _ p rfl rfl)
  obtain ⟨q', rfl, _, _⟩ := TyAV.int_inv Try.underlying5 (hf2 1 _ q rfl rfl)
  exact ⟨⟨a', b', c', p', q', e'⟩, rfl⟩
theorem undo_inv {u : AV} (h : TyAV Try.prog 25 u) : ∃ lsn xs, u = undoAV lsn xs ∧ xs.length ≤ 9223372036854775807 := by
  obtain ⟨us, rfl, hl, hf⟩ := TyAV.struct_inv Try.underlying25 h
  rcases us with _ | ⟨a, _ | ⟨b, _ | ⟨c, r⟩⟩⟩ <;> try (simp at hl; done)
  obtain ⟨a', rfl, _, _⟩ := TyAV.int_inv Try.underlying22 (hf 0 _ a rfl rfl)
  obtain ⟨es, rfl, hle, hes⟩ := TyAV.slice_inv Try.underlying23 (hf 1 _ b rfl rfl)
  obtain ⟨xs, rfl⟩ := map_inv (f := Old.av) fun x hx => old_inv (hes x hx)
  rw [List.length_map] at hle ⊢
  exact ⟨a', xs, rfl, hle⟩

theorem arg_undo {W : World} {H : Type} {enc : TypeId × Value → H} {v : Value} {d : DataW H} {p : List MemPlace} (h : DataW.Trod enc Try.prog W 0 (fun _ => true) true 25 v d p) : ∃ lsn xs, xs.length ≤ 9223372036854775807 ∧ XRel W (Old0 W) (fun _ => none) (undoAV lsn xs) v := by
  obtain ⟨fuel, h⟩ := h
  obtain ⟨u, h1, h2, h3⟩ := trod_rel (ρ := fun _ => none) fuel 10 25 _ _ (by kernel_rfl) h
  obtain ⟨lsn, xs, rfl, hl⟩ := undo_inv h1
  exact ⟨lsn, xs, hl, xrel_agg h3 (by simp [AV.sizeL, AV.size])⟩
theorem arg_old {W : World} {H : Type} {enc : TypeId × Value → H} {v : Value} {d : DataW H} {p : List MemPlace} (h : DataW.Trod enc Try.prog W 0 (fun _ => true) true 31 v d p) : ∃ o : Old, XRel W (Old0 W) (fun _ => none) o.av v := by
  obtain ⟨fuel, h⟩ := h
  obtain ⟨u, h1, h2, h3⟩ := trod_rel (ρ := fun _ => none) fuel 10 31 _ _ (by kernel_rfl) h
  obtain ⟨o, rfl⟩ := old_inv h1
  exact ⟨o, xrel_agg h3 (by simp [AV.sizeL, AV.size])⟩

set_option maxRecDepth 100000 in
theorem slotFits_lifted (os : Os) (started : os.Started) (H : Type) (enc : TypeId × Value → H) :
    ReturnsInHanded {} Try.checked os 3 .any (Rows.slotFitsSpec.pre6 enc Try.prog Try.f3 Rows.slotFitsRow.domain false) (Rows.slotFitsSpec.post enc Try.prog Try.f3 false true false false) := by
  refine returnsInHanded_of_change (C := Try.checked) own0 started (by kernel_rfl) Try.func3
    (ChangeSpec.witness6 (enc := enc) (C := Try.checked) false ⟨#[], #[.agg #[.int .u64 0, .slice none 0 0], .agg #[.bool false, .int .u16 0, .int .u32 0, .int .u16 0, .int .u8 0, .string ⟨#[]⟩], .int .i64 0], []⟩ 8 (by kernel_rfl) (by kernel_rfl) (by kernel_rfl) (by kernel_rfl)) ?_
  intro W base args ds gs before hval0 hW hcnd _
  have hval : ∀ (j : Nat) t v, Try.f3.params[j]? = some t → args[j]? = some v → Value.okWide Try.prog W .any base t v := hval0
  have hW' := hW
  obtain ⟨p, q, hA0, hV, rfl, hfz, hnd⟩ := hW
  have hA : DataW.TrodAll enc Try.prog W 0 (fun _ => true) true [25, 31, 3] args.toList ds p := hA0
  obtain ⟨v0, v1, v2, d0, d1, d2, p0, p1, p2, ha, rfl, rfl, h0, h1, h2⟩ := trodAll_three hA
  obtain ⟨rfl, rfl⟩ := trodVars_none hV
  subst ha
  obtain ⟨n, rfl, rfl, rfl, wn⟩ := open_int Try.underlying3 (hval 2 3 v2 rfl rfl) h2
  obtain ⟨lsn, xs, hl, x0⟩ := arg_undo h0
  obtain ⟨o, x1⟩ := arg_old h1
  have hlt : ∀ x, x ∈ p0 ++ p1 → x.block < W.heap.size := fun x hx => hW'.lt x (by simp at hx ⊢; exact hx)
  refine ((slotFits_spec lsn n xs o hl).row W _ rfl (fun k hk => ?_)).mono fun e W' ⟨he, hB⟩ => ?_
  · match k, hk with
    | 0, _ => exact x0
    | 1, _ => exact x1
    | 2, _ => exact CRel.int _ _
  subst he
  have t0 := Below.trod laid0 (by kernel_rfl) (of_decide_eq_true (by kernel_rfl)) h0 hB (fun x hx => hlt x (by simp [hx]))
  have t1 := Below.trod laid0 (by kernel_rfl) (of_decide_eq_true (by kernel_rfl)) h1 hB (fun x hx => hlt x (by simp [hx]))
  have t2 := Below.trod laid0 (by kernel_rfl) (of_decide_eq_true (by kernel_rfl)) h2 hB (fun x hx => by simp at hx)
  refine ⟨_, rfl, _, _, _, [], p0 ++ (p1 ++ ([] ++ [])), [], hW', ?_, ?_, ?_, hB.frame _, fun h => by cases h⟩
  · exact trodAll_mk1 (shut_bool Try.underlying4 true)
  · exact ⟨p0, _, t0, ⟨p1, _, t1, ⟨[], _, t2, rfl, rfl⟩, rfl⟩, rfl⟩
  · rfl

theorem slotFits_holds : Rows.SlotFitsSaid :=
  OpenClaim.holds_of_wide 3 Try.f3 rfl rfl rfl rfl rfl rfl rfl ⟨rfl, rfl, rfl, rfl, rfl⟩ rfl rfl rfl rfl rfl (by kernel_rfl) Try.func3 (by kernel_rfl)
    (of_decide_eq_true (by kernel_rfl)) (by unfold Func.isWrapper; first | (rw [if_pos (by decide +kernel)]; kernel_rfl) | (rw [if_neg (by decide +kernel)]; exact ⟨rfl, rfl⟩))
    (fun os started H enc _ => slotFits_lifted os started H enc)

#print axioms slotFits_holds
end Go.Proofs.Ytgcdbfeoadmmcaa
