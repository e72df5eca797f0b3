/- The statement ApplyTorn: whatever the pages, the image and the log, the law returns true and its input reads as it did. -/
import Derived.Test.YtimdepgenefkmaaQR1
import Derived.Test.YtimdepgenefkmaaQ14
set_option linter.unusedVariables false
set_option linter.unusedSimpArgs false
namespace Go.Proofs.Ytimdepgenefkmaa
open Go Go.ChangeShapes Go.WideShapes Go.ChangeAt Go.RowKit

set_option maxRecDepth 100000 in
theorem applyTorn_lifted (os : Os) (started : os.Started) (H : Type) (enc : TypeId × Value → H) :
    ReturnsInHanded {} Try.checked os 6 .any (Rows.applyTornSpec.pre6 enc Try.prog Try.f6 Rows.applyTornRow.domain false) (Rows.applyTornSpec.post enc Try.prog Try.f6 false true false false) := by
  refine returnsInHanded_of_change (C := Try.checked) own0 started (by kernel_rfl) Try.func6
    (ChangeSpec.witness6 (enc := enc) (C := Try.checked) false ⟨#[], #[.agg (Array.replicate 224 (.int .u8 0)), .agg (Array.replicate 224 (.int .u8 0)), .agg (Array.replicate 224 (.int .u8 0)), .agg #[.bool false, .int .u16 0], .slice none 0 0], []⟩ 8 (by kernel_rfl) (by kernel_rfl) (by kernel_rfl) (by kernel_rfl)) ?_
  intro W base args ds gs before hval0 hW hcnd _
  have hval : ∀ (j : Nat) t v, Try.f6.params[j]? = some t → args[j]? = some v → Value.okWide Try.prog W .any base t v := hval0
  have hW' := hW
  obtain ⟨p, q, hA0, hV, rfl, hfz, hnd⟩ := hW
  have hA : DataW.TrodAll enc Try.prog W 0 (fun _ => true) true [26, 26, 26, 24, 44] args.toList ds p := hA0
  obtain ⟨v0, v1, v2, v3, v4, d0, d1, d2, d3, d4, p0, p1, p2, p3, p4, ha, rfl, rfl, h0, h1, h2, h3, h4⟩ := trodAll_five hA
  obtain ⟨rfl, rfl⟩ := trodVars_none hV
  subst ha
  obtain ⟨pa, hp, x0⟩ := arg_page h0
  obtain ⟨qa, hq, x1⟩ := arg_page h1
  obtain ⟨im, him, x2⟩ := arg_page h2
  obtain ⟨uu, no, hno, x3⟩ := arg_id h3
  obtain ⟨log, hl, hn, x4⟩ := arg_ens (hval 4 44 v4 rfl rfl) h4
  have hlt : ∀ x, x ∈ p0 ++ p1 ++ p2 ++ p3 ++ p4 → x.block < W.heap.size := fun x hx => hW'.lt x (by simp at hx ⊢; exact hx)
  refine ((applyTorn_spec pa qa im hp hq him uu no hno log hl hn).row W _ rfl (fun k hk => ?_)).mono fun e W' ⟨he, hB⟩ => ?_
  · match k, hk with
    | 0, _ => exact x0
    | 1, _ => exact x1
    | 2, _ => exact x2
    | 3, _ => exact x3
    | 4, _ => exact x4
  subst he
  have t0 := Below.trod laid0 (by kernel_rfl) (of_decide_eq_true (by kernel_rfl)) h0 hB (fun x hx => hlt x (by simp [hx]))
  have t1 := Below.trod laid0 (by kernel_rfl) (of_decide_eq_true (by kernel_rfl)) h1 hB (fun x hx => hlt x (by simp [hx]))
  have t2 := Below.trod laid0 (by kernel_rfl) (of_decide_eq_true (by kernel_rfl)) h2 hB (fun x hx => hlt x (by simp [hx]))
  have t3 := Below.trod laid0 (by kernel_rfl) (of_decide_eq_true (by kernel_rfl)) h3 hB (fun x hx => hlt x (by simp [hx]))
  have t4 := Below.trod laid0 (by kernel_rfl) (of_decide_eq_true (by kernel_rfl)) h4 hB (fun x hx => hlt x (by simp [hx]))
  refine ⟨_, rfl, _, _, _, [], p0 ++ (p1 ++ (p2 ++ (p3 ++ (p4 ++ [])))), [], hW', ?_, ?_, ?_, hB.frame _, fun h => by cases h⟩
  · exact trodAll_mk1 (shut_bool Try.underlying4 true)
  · exact ⟨p0, _, t0, ⟨p1, _, t1, ⟨p2, _, t2, ⟨p3, _, t3, ⟨p4, _, t4, rfl, rfl⟩, rfl⟩, rfl⟩, rfl⟩, rfl⟩
  · rfl

theorem applyTorn_holds : Rows.ApplyTornSaid :=
  OpenClaim.holds_of_wide 6 Try.f6 rfl rfl rfl rfl rfl rfl rfl ⟨rfl, rfl, rfl, rfl, rfl⟩ rfl rfl rfl rfl rfl (by kernel_rfl) Try.func6 (by kernel_rfl)
    (of_decide_eq_true (by kernel_rfl)) (by unfold Func.isWrapper; first | (rw [if_pos (by decide +kernel)]; kernel_rfl) | (rw [if_neg (by decide +kernel)]; exact ⟨rfl, rfl⟩))
    (fun os started H enc _ => applyTorn_lifted os started H enc)

#print axioms applyTorn_holds
end Go.Proofs.Ytimdepgenefkmaa
