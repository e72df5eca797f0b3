/- The statement ApplyApart: whatever the pages and the log, the law returns true and its input reads as it did. -/
import Derived.Test.YtimdepgenefkmaaQR1
import Derived.Test.YtimdepgenefkmaaQ17
set_option linter.unusedVariables false
set_option linter.unusedSimpArgs false
namespace Go.Proofs.Ytimdepgenefkmaa
open Go Go.ChangeShapes Go.WideShapes Go.ChangeAt Go.RowKit

set_option maxRecDepth 100000 in
theorem applyApart_lifted (os : Os) (started : os.Started) (H : Type) (enc : TypeId × Value → H) :
    ReturnsInHanded {} Try.checked os 7 .any (Rows.applyApartSpec.pre6 enc Try.prog Try.f7 Rows.applyApartRow.domain false) (Rows.applyApartSpec.post enc Try.prog Try.f7 false true false false) := by
  refine returnsInHanded_of_change (C := Try.checked) own0 started (by kernel_rfl) Try.func7
    (ChangeSpec.witness6 (enc := enc) (C := Try.checked) false ⟨#[], #[.agg #[.bool false, .int .u16 0], .agg #[.bool false, .int .u16 0], .agg (Array.replicate 224 (.int .u8 0)), .slice none 0 0], []⟩ 8 (by kernel_rfl) (by kernel_rfl) (by kernel_rfl) (by kernel_rfl)) ?_
  intro W base args ds gs before hval0 hW hcnd _
  have hval : ∀ (j : Nat) t v, Try.f7.params[j]? = some t → args[j]? = some v → Value.okWide Try.prog W .any base t v := hval0
  have hW' := hW
  obtain ⟨p, q, hA0, hV, rfl, hfz, hnd⟩ := hW
  have hA : DataW.TrodAll enc Try.prog W 0 (fun _ => true) true [24, 24, 26, 44] args.toList ds p := hA0
  obtain ⟨v0, v1, v2, v3, d0, d1, d2, d3, p0, p1, p2, p3, ha, rfl, rfl, h0, h1, h2, h3⟩ := trodAll_four hA
  obtain ⟨rfl, rfl⟩ := trodVars_none hV
  subst ha
  obtain ⟨uu, no, hno, x0⟩ := arg_id h0
  obtain ⟨ou, on, hon, x1⟩ := arg_id h1
  obtain ⟨pa, hp, x2⟩ := arg_page h2
  obtain ⟨log, hl, hn, x3⟩ := arg_ens (hval 3 44 v3 rfl rfl) h3
  have hlt : ∀ x, x ∈ p0 ++ p1 ++ p2 ++ p3 → x.block < W.heap.size := fun x hx => hW'.lt x (by simp at hx ⊢; exact hx)
  refine ((applyApart_spec uu no hno ou on hon pa hp log hl hn).row W _ rfl (fun k hk => ?_)).mono fun e W' ⟨he, hB⟩ => ?_
  · match k, hk with
    | 0, _ => exact x0
    | 1, _ => exact x1
    | 2, _ => exact x2
    | 3, _ => exact x3
  subst he
  have t0 := Below.trod laid0 (by kernel_rfl) (of_decide_eq_true (by kernel_rfl)) h0 hB (fun x hx => hlt x (by simp [hx]))
  have t1 := Below.trod laid0 (by kernel_rfl) (of_decide_eq_true (by kernel_rfl)) h1 hB (fun x hx => hlt x (by simp [hx]))
  have t2 := Below.trod laid0 (by kernel_rfl) (of_decide_eq_true (by kernel_rfl)) h2 hB (fun x hx => hlt x (by simp [hx]))
  have t3 := Below.trod laid0 (by kernel_rfl) (of_decide_eq_true (by kernel_rfl)) h3 hB (fun x hx => hlt x (by simp [hx]))
  refine ⟨_, rfl, _, _, _, [], p0 ++ (p1 ++ (p2 ++ (p3 ++ []))), [], hW', ?_, ?_, ?_, hB.frame _, fun h => by cases h⟩
  · exact trodAll_mk1 (shut_bool Try.underlying4 true)
  · exact ⟨p0, _, t0, ⟨p1, _, t1, ⟨p2, _, t2, ⟨p3, _, t3, rfl, rfl⟩, rfl⟩, rfl⟩, rfl⟩
  · rfl

theorem applyApart_holds : Rows.ApplyApartSaid :=
  OpenClaim.holds_of_wide 7 Try.f7 rfl rfl rfl rfl rfl rfl rfl ⟨rfl, rfl, rfl, rfl, rfl⟩ rfl rfl rfl rfl rfl (by kernel_rfl) Try.func7 (by kernel_rfl)
    (of_decide_eq_true (by kernel_rfl)) (by unfold Func.isWrapper; first | (rw [if_pos (by decide +kernel)]; kernel_rfl) | (rw [if_neg (by decide +kernel)]; exact ⟨rfl, rfl⟩))
    (fun os started H enc _ => applyApart_lifted os started H enc)

#print axioms applyApart_holds
end Go.Proofs.Ytimdepgenefkmaa
