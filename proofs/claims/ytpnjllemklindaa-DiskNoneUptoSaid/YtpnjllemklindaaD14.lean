/- The statement DiskNone, where what it reads is of bulk at most 1048576: whatever the call, the law returns true and its input reads as it did. -/
import Derived.Test.YtpnjllemklindaaD13
import Derived.Test.YtpnjllemklindaaDR1
set_option linter.unusedVariables false
set_option linter.unusedSimpArgs false
namespace Go.Proofs.Ytpnjllemklindaa
open Go Go.ChangeShapes Go.WideShapes Go.ChangeAt Go.RowKit

theorem diskNone_contract (H : Type) (enc : TypeId × Value → H) (W : World) (base : Nat) (args : Array Value) (ds gs : List (DataW H)) (before : List MemPlace)
    (hval0 : ∀ (j : Nat) t v, Try.f8.params[j]? = some t → args[j]? = some v → Value.okWide Try.prog W .any base t v)
    (hW : DataW.Whole enc Try.prog Try.f8.params.toList Rows.diskNoneSpec.vars false W args.toList ds gs before) (hk0 : Rows.uptoSmall H (ds ++ gs) = true) :
    Calls Try.prog 8 args W fun e W' => ∃ v, e = .returned v ∧ Rows.diskNoneSpec.post enc Try.prog Try.f8 false true false false W args v W' := by
  have hval : ∀ (j : Nat) t v, Try.f8.params[j]? = some t → args[j]? = some v → Value.okWide Try.prog W .any base t v := hval0
  have hW' := hW
  obtain ⟨p, q, hA0, hV, rfl, hfz, hnd⟩ := hW
  have hA : DataW.TrodAll enc Try.prog W 0 (fun _ => true) true [43] args.toList ds p := hA0
  obtain ⟨v0, d0, ha, rfl, h0⟩ := trodAll_one hA
  obtain ⟨rfl, rfl⟩ := trodVars_none hV
  subst ha
  have hb : Rows.uptoBulkAll ([d0] ++ []) ≤ 1048576 := of_decide_eq_true hk0
  simp only [List.append_nil, Rows.uptoBulkAll] at hb
  obtain ⟨o, hb1, hb2, _, _, _, _, hb3, x0⟩ := arg_dop h0
  have hlt : ∀ x, x ∈ p → x.block < W.heap.size := fun x hx => hW'.lt x (by simp at hx ⊢; exact hx)
  refine ((diskNone_spec o ⟨hb1, hb2, fun _ => by omega, fun _ => by omega⟩).row W _ rfl (fun k hk => ?_)).mono fun e W' ⟨he, hB⟩ => ?_
  · match k, hk with
    | 0, _ => exact x0
  subst he
  have t0 := Below.trod laid0 (by kernel_rfl) (of_decide_eq_true (by kernel_rfl)) h0 hB (fun x hx => hlt x (by simp [hx]))
  refine ⟨_, rfl, _, _, _, [], p ++ [], [], hW', ?_, ?_, ?_, hB.frame _, fun h => by cases h⟩
  · exact trodAll_mk1 (shut_bool Try.underlying4 true)
  · exact ⟨p, _, t0, rfl, rfl⟩
  · rfl

set_option maxRecDepth 100000 in
theorem diskNone_lifted (os : Os) (started : os.Started) (H : Type) (enc : TypeId × Value → H) (F : Stop.Interp) :
    ReturnsInHanded {} Try.checked os 8 .any ((Rows.OpenSpec.upto Rows.diskNoneSpec).pre6 enc Try.prog Try.f8 Rows.diskNoneUptoRow.domain false) (((Rows.OpenSpec.upto Rows.diskNoneSpec).at F).post enc Try.prog Try.f8 false true false false) := by
  refine returnsInHanded_of_cond (C := Try.checked) (s := Rows.OpenSpec.upto Rows.diskNoneSpec) (k := Rows.uptoSmall) rfl own0 started (by kernel_rfl) Try.func8
    (OpenSpec.witness (enc := enc) (C := Try.checked) (s := Rows.OpenSpec.upto Rows.diskNoneSpec) (k := Rows.uptoSmall) rfl false ⟨#[], #[.agg #[.int .i64 0, .int .i64 0, .int .u8 0, .slice none 0 0, .slice none 0 0]], []⟩ 8 (by kernel_rfl) (by kernel_rfl) (by kernel_rfl)
      (x := ([.agg [.lit (.int .i64 0), .lit (.int .i64 0), .lit (.int .u8 0), .nil, .nil]], [], [])) (by kernel_rfl) rfl (by kernel_rfl)) ?_
  intro W base args ds gs before hval hW _ hk _
  exact diskNone_contract H enc W base args ds gs before hval hW hk

theorem diskNoneUpto_holds : Rows.DiskNoneUptoSaid :=
  OpenClaim.holds_of_cond 8 Try.f8 rfl rfl rfl rfl rfl rfl rfl ⟨rfl, rfl, rfl, rfl, rfl⟩ rfl rfl rfl rfl rfl (by kernel_rfl) Try.func8 (by kernel_rfl)
    (of_decide_eq_true (by kernel_rfl)) (by unfold Func.isWrapper; first | (rw [if_pos (by decide +kernel)]; kernel_rfl) | (rw [if_neg (by decide +kernel)]; exact ⟨rfl, rfl⟩))
    (fun os started H enc _ F => diskNone_lifted os started H enc F)

#print axioms diskNoneUpto_holds
end Go.Proofs.Ytpnjllemklindaa
