/- The statement SlotKeeps: whatever the page and the call, the law returns true and its input reads as it did. -/
import Derived.Test.YtgcdbfeoadmmcaaA20
import Derived.Test.YtgcdbfeoadmmcaaR7
set_option linter.unusedVariables false
set_option linter.unusedSimpArgs false
namespace Go.Proofs.Ytgcdbfeoadmmcaa
open Go Go.ChangeShapes Go.WideShapes Go.ChangeAt Go.RowKit

theorem arg_op {W : World} {H : Type} {enc : TypeId × Value → H} {v : Value} {d : DataW H} {p : List MemPlace} (h : DataW.Trod enc Try.prog W 0 (fun _ => true) true 50 v d p) : ∃ kind slot o, 0 ≤ slot ∧ slot ≤ 255 ∧ XRel W (Old0 W) (fun _ => none) (opAV kind slot o) v := by
  obtain ⟨fuel, h⟩ := h
  obtain ⟨u, h1, h2, h3⟩ := trod_rel (ρ := fun _ => none) fuel 10 50 _ _ (by kernel_rfl) h
  obtain ⟨us, rfl, hl, hf⟩ := TyAV.struct_inv Try.underlying50 h1
  rcases us with _ | ⟨a, _ | ⟨b, _ | ⟨c, _ | ⟨x, r⟩⟩⟩⟩ <;> try (simp at hl; done)
  obtain ⟨kind, rfl, _, _⟩ := TyAV.int_inv Try.underlying3 (hf 0 _ a rfl rfl)
  obtain ⟨slot, rfl, q1, q2⟩ := TyAV.int_inv Try.underlying5 (hf 1 _ b rfl rfl)
  obtain ⟨o, rfl⟩ := old_inv (hf 2 _ c rfl rfl)
  exact ⟨kind, slot, o, by simpa [IntKind.min, IntKind.signed] using q1, by simpa [IntKind.max, IntKind.bits, IntKind.signed] using q2, xrel_agg h3 (by simp [AV.sizeL, AV.size])⟩

set_option maxRecDepth 100000 in
theorem slotKeeps_lifted (os : Os) (started : os.Started) (H : Type) (enc : TypeId × Value → H) :
    ReturnsInHanded {} Try.checked os 6 .any (Rows.slotKeepsSpec.pre6 enc Try.prog Try.f6 Rows.slotKeepsRow.domain false) (Rows.slotKeepsSpec.post enc Try.prog Try.f6 false true false false) := by
  refine returnsInHanded_of_change (C := Try.checked) own0 started (by kernel_rfl) Try.func6
    (ChangeSpec.witness6 (enc := enc) (C := Try.checked) false ⟨#[], #[.agg #[.int .u64 0, .slice none 0 0], .agg #[.int .i64 0, .int .u8 0, .bool false, .int .u16 0, .int .u32 0, .int .u16 0, .int .u8 0, .string ⟨#[]⟩]], []⟩ 8 (by kernel_rfl) (by kernel_rfl) (by kernel_rfl) (by kernel_rfl)) ?_
  intro W base args ds gs before hval0 hW hcnd _
  have hval : ∀ (j : Nat) t v, Try.f6.params[j]? = some t → args[j]? = some v → Value.okWide Try.prog W .any base t v := hval0
  have hW' := hW
  obtain ⟨p, q, hA0, hV, rfl, hfz, hnd⟩ := hW
  have hA : DataW.TrodAll enc Try.prog W 0 (fun _ => true) true [25, 50] args.toList ds p := hA0
  obtain ⟨v0, v1, d0, d1, p0, p1, ha, rfl, rfl, h0, h1⟩ := trodAll_two hA
  obtain ⟨rfl, rfl⟩ := trodVars_none hV
  subst ha
  obtain ⟨lsn, xs, hl, x0⟩ := arg_undo h0
  obtain ⟨kind, slot, o, hs0, hs1, x1⟩ := arg_op h1
  have hlt : ∀ x, x ∈ p0 ++ p1 → x.block < W.heap.size := fun x hx => hW'.lt x (by simp at hx ⊢; exact hx)
  refine ((slotKeeps_spec lsn kind slot xs o hl hs0 hs1).row W _ rfl (fun k hk => ?_)).mono fun e W' ⟨he, hB⟩ => ?_
  · match k, hk with
    | 0, _ => exact x0
    | 1, _ => exact x1
  subst he
  have t0 := Below.trod laid0 (by kernel_rfl) (of_decide_eq_true (by kernel_rfl)) h0 hB (fun x hx => hlt x (by simp [hx]))
  have t1 := Below.trod laid0 (by kernel_rfl) (of_decide_eq_true (by kernel_rfl)) h1 hB (fun x hx => hlt x (by simp [hx]))
  refine ⟨_, rfl, _, _, _, [], p0 ++ (p1 ++ []), [], hW', ?_, ?_, ?_, hB.frame _, fun h => by cases h⟩
  · exact trodAll_mk1 (shut_bool Try.underlying4 true)
  · exact ⟨p0, _, t0, ⟨p1, _, t1, rfl, rfl⟩, rfl⟩
  · rfl

theorem slotKeeps_holds : Rows.SlotKeepsSaid :=
  OpenClaim.holds_of_wide 6 Try.f6 rfl rfl rfl rfl rfl rfl rfl ⟨rfl, rfl, rfl, rfl, rfl⟩ rfl rfl rfl rfl rfl (by kernel_rfl) Try.func6 (by kernel_rfl)
    (of_decide_eq_true (by kernel_rfl)) (by unfold Func.isWrapper; first | (rw [if_pos (by decide +kernel)]; kernel_rfl) | (rw [if_neg (by decide +kernel)]; exact ⟨rfl, rfl⟩))
    (fun os started H enc _ => slotKeeps_lifted os started H enc)

#print axioms slotKeeps_holds
end Go.Proofs.Ytgcdbfeoadmmcaa
