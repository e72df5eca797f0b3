/- The statement PageUnlike: whatever the numbers and the data, the law returns true and its input reads as it did. -/
import Derived.Test.YtbellkdglifahaaP13
import Derived.Test.YtbellkdglifahaaPR1
set_option linter.unusedVariables false
set_option linter.unusedSimpArgs false
namespace Go.Proofs.Ytbellkdglifahaa
open Go Go.ChangeShapes Go.WideShapes Go.ChangeAt Go.RowKit

set_option maxRecDepth 100000 in
theorem pageUnlike_lifted (os : Os) (started : os.Started) (H : Type) (enc : TypeId × Value → H) :
    ReturnsInHanded {} Try.checked os 8 .any (Rows.pageUnlikeSpec.pre6 enc Try.prog Try.f8 Rows.pageUnlikeRow.domain false) (Rows.pageUnlikeSpec.post enc Try.prog Try.f8 false true false false) := by
  refine returnsInHanded_of_change (C := Try.checked) own0 started (by kernel_rfl) Try.func8
    (ChangeSpec.witness6 (enc := enc) (C := Try.checked) false ⟨#[], #[.int .u16 0, .int .u16 0, .agg (#[.int .u64 0, .int .u32 0, .int .u16 0, .int .u8 0] ++ Array.replicate 64 (.int .u8 0)), .agg (#[.int .u64 0, .int .u32 0, .int .u16 0, .int .u8 0] ++ Array.replicate 64 (.int .u8 0))], []⟩ 8 (by kernel_rfl) (by kernel_rfl) (by kernel_rfl) (by kernel_rfl)) ?_
  intro W base args ds gs before hval0 hW hcnd _
  have hval : ∀ (j : Nat) t v, Try.f8.params[j]? = some t → args[j]? = some v → Value.okWide Try.prog W .any base t v := hval0
  have hW' := hW
  obtain ⟨p, q, hA0, hV, rfl, hfz, hnd⟩ := hW
  have hA : DataW.TrodAll enc Try.prog W 0 (fun _ => true) true [22, 22, 30, 30] args.toList ds p := hA0
  obtain ⟨v0, v1, v2, v3, d0, d1, d2, d3, p0, p1, p2, p3, ha, rfl, rfl, h0, h1, h2, h3⟩ := trodAll_four hA
  obtain ⟨rfl, rfl⟩ := trodVars_none hV
  subst ha
  obtain ⟨n, rfl, rfl, rfl, wn⟩ := open_int Try.underlying22 (hval 0 22 v0 rfl rfl) h0
  obtain ⟨no, rfl, hno⟩ := lit_u16 wn
  obtain ⟨n2, rfl, rfl, rfl, wn2⟩ := open_int Try.underlying22 (hval 1 22 v1 rfl rfl) h1
  obtain ⟨on, rfl, hon⟩ := lit_u16 wn2
  obtain ⟨a, ha, x2⟩ := arg_dt h2
  obtain ⟨b, hb, x3⟩ := arg_dt h3
  have hlt : ∀ x, x ∈ [] ++ [] ++ p2 ++ p3 → x.block < W.heap.size := fun x hx => hW'.lt x (by simp at hx ⊢; exact hx)
  refine ((pageUnlike_spec no on hno hon a b ha hb).row W _ rfl (fun k hk => ?_)).mono fun e W' ⟨he, hB⟩ => ?_
  · match k, hk with
    | 0, _ => exact CRel.int _ _
    | 1, _ => exact CRel.int _ _
    | 2, _ => exact x2
    | 3, _ => exact x3
  subst he
  have t0 := Below.trod laid0 (by kernel_rfl) (of_decide_eq_true (by kernel_rfl)) h0 hB (fun x hx => by simp at hx)
  have t1 := Below.trod laid0 (by kernel_rfl) (of_decide_eq_true (by kernel_rfl)) h1 hB (fun x hx => by simp at hx)
  have t2 := Below.trod laid0 (by kernel_rfl) (of_decide_eq_true (by kernel_rfl)) h2 hB (fun x hx => hlt x (by simp [hx]))
  have t3 := Below.trod laid0 (by kernel_rfl) (of_decide_eq_true (by kernel_rfl)) h3 hB (fun x hx => hlt x (by simp [hx]))
  refine ⟨_, rfl, _, _, _, [], [] ++ ([] ++ (p2 ++ (p3 ++ []))), [], hW', ?_, ?_, ?_, hB.frame _, fun h => by cases h⟩
  · exact trodAll_mk1 (shut_bool Try.underlying4 true)
  · exact ⟨[], _, t0, ⟨[], _, t1, ⟨p2, _, t2, ⟨p3, _, t3, rfl, rfl⟩, rfl⟩, rfl⟩, rfl⟩
  · rfl

theorem pageUnlike_holds : Rows.PageUnlikeSaid :=
  OpenClaim.holds_of_wide 8 Try.f8 rfl rfl rfl rfl rfl rfl rfl ⟨rfl, rfl, rfl, rfl, rfl⟩ rfl rfl rfl rfl rfl (by kernel_rfl) Try.func8 (by kernel_rfl)
    (of_decide_eq_true (by kernel_rfl)) (by unfold Func.isWrapper; first | (rw [if_pos (by decide +kernel)]; kernel_rfl) | (rw [if_neg (by decide +kernel)]; exact ⟨rfl, rfl⟩))
    (fun os started H enc _ => pageUnlike_lifted os started H enc)

#print axioms pageUnlike_holds
end Go.Proofs.Ytbellkdglifahaa
