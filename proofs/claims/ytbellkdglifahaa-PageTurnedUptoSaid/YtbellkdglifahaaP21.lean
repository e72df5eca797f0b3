/- The statement PageTurned, where what it reads is of bulk at most 1048576: whatever the page and the bits, the law returns true and its input reads as it did. -/
import Derived.Test.YtbellkdglifahaaPR2
set_option linter.unusedVariables false
set_option linter.unusedSimpArgs false
namespace Go.Proofs.Ytbellkdglifahaa
open Go Go.ChangeShapes Go.WideShapes Go.ChangeAt Go.RowKit

theorem pageTurned_contract (H : Type) (enc : TypeId × Value → H) (W : World) (base : Nat) (args : Array Value) (ds gs : List (DataW H)) (before : List MemPlace)
    (hval0 : ∀ (j : Nat) t v, Try.f7.params[j]? = some t → args[j]? = some v → Value.okWide Try.prog W .any base t v)
    (hW : DataW.Whole enc Try.prog Try.f7.params.toList Rows.pageTurnedSpec.vars false W args.toList ds gs before) (hk0 : Rows.uptoSmall H (ds ++ gs) = true) :
    Calls Try.prog 7 args W fun e W' => ∃ v, e = .returned v ∧ Rows.pageTurnedSpec.post enc Try.prog Try.f7 false true false false W args v W' := by
  have hval : ∀ (j : Nat) t v, Try.f7.params[j]? = some t → args[j]? = some v → Value.okWide Try.prog W .any base t v := hval0
  have hW' := hW
  obtain ⟨p, q, hA0, hV, rfl, hfz, hnd⟩ := hW
  have hA : DataW.TrodAll enc Try.prog W 0 (fun _ => true) true [59, 30, 44, 3, 24] args.toList ds p := hA0
  obtain ⟨v0, v1, v2, v3, v4, d0, d1, d2, d3, d4, p0, p1, p2, p3, p4, ha, rfl, rfl, h0, h1, h2, h3, h4⟩ := trodAll_five hA
  obtain ⟨rfl, rfl⟩ := trodVars_none hV
  subst ha
  have hb : Rows.uptoBulkAll ([d0, d1, d2, d3, d4] ++ []) ≤ 1048576 := of_decide_eq_true hk0
  simp only [List.append_nil, Rows.uptoBulkAll] at hb
  obtain ⟨uu, no, hno, x0⟩ := arg_id h0
  obtain ⟨d, hd, x1⟩ := arg_dt h1
  obtain ⟨u, hu, hul, x2⟩ := arg_ud h2
  obtain ⟨n, rfl, rfl, rfl, wn⟩ := open_int Try.underlying3 (hval 3 3 v3 rfl rfl) h3
  obtain ⟨n2, rfl, rfl, rfl, wn2⟩ := open_int Try.underlying24 (hval 4 24 v4 rfl rfl) h4
  obtain ⟨b, rfl, hb2⟩ := lit_u32 wn2
  have hlt : ∀ x, x ∈ p0 ++ p1 ++ p2 ++ [] ++ [] → x.block < W.heap.size := fun x hx => hW'.lt x (by simp at hx ⊢; exact hx)
  refine ((pageTurned_spec uu no hno d hd u hu (by omega) n b hb2).row W _ rfl (fun k hk => ?_)).mono fun e W' ⟨he, hB⟩ => ?_
  · match k, hk with
    | 0, _ => exact x0
    | 1, _ => exact x1
    | 2, _ => exact x2
    | 3, _ => exact CRel.int _ _
    | 4, _ => exact CRel.int _ _
  subst he
  have t0 := Below.trod laid0 (by kernel_rfl) (of_decide_eq_true (by kernel_rfl)) h0 hB (fun x hx => hlt x (by simp [hx]))
  have t1 := Below.trod laid0 (by kernel_rfl) (of_decide_eq_true (by kernel_rfl)) h1 hB (fun x hx => hlt x (by simp [hx]))
  have t2 := Below.trod laid0 (by kernel_rfl) (of_decide_eq_true (by kernel_rfl)) h2 hB (fun x hx => hlt x (by simp [hx]))
  have t3 := Below.trod laid0 (by kernel_rfl) (of_decide_eq_true (by kernel_rfl)) h3 hB (fun x hx => by simp at hx)
  have t4 := Below.trod laid0 (by kernel_rfl) (of_decide_eq_true (by kernel_rfl)) h4 hB (fun x hx => by simp at hx)
  refine ⟨_, rfl, _, _, _, [], p0 ++ (p1 ++ (p2 ++ ([] ++ ([] ++ [])))), [], hW', ?_, ?_, ?_, hB.frame _, fun h => by cases h⟩
  · exact trodAll_mk1 (shut_bool Try.underlying4 true)
  · exact ⟨p0, _, t0, ⟨p1, _, t1, ⟨p2, _, t2, ⟨[], _, t3, ⟨[], _, t4, rfl, rfl⟩, rfl⟩, rfl⟩, rfl⟩, rfl⟩
  · rfl

set_option maxRecDepth 100000 in
theorem pageTurned_lifted (os : Os) (started : os.Started) (H : Type) (enc : TypeId × Value → H) (F : Stop.Interp) :
    ReturnsInHanded {} Try.checked os 7 .any ((Rows.OpenSpec.upto Rows.pageTurnedSpec).pre6 enc Try.prog Try.f7 Rows.pageTurnedUptoRow.domain false) (((Rows.OpenSpec.upto Rows.pageTurnedSpec).at F).post enc Try.prog Try.f7 false true false false) := by
  refine returnsInHanded_of_cond (C := Try.checked) (s := Rows.OpenSpec.upto Rows.pageTurnedSpec) (k := Rows.uptoSmall) rfl own0 started (by kernel_rfl) Try.func7
    (OpenSpec.witness (enc := enc) (C := Try.checked) (s := Rows.OpenSpec.upto Rows.pageTurnedSpec) (k := Rows.uptoSmall) rfl false ⟨#[], #[.agg #[.bool false, .int .u16 0], .agg (#[.int .u64 0, .int .u32 0, .int .u16 0, .int .u8 0] ++ Array.replicate 64 (.int .u8 0)), .agg #[.int .u64 0, .slice none 0 0], .int .i64 0, .int .u32 0], []⟩ 8 (by kernel_rfl) (by kernel_rfl) (by kernel_rfl)
      (x := ([.agg [.lit (.bool false), .lit (.int .u16 0)], .agg [.lit (.int .u64 0), .lit (.int .u32 0), .agg [.lit (.int .u16 0), .lit (.int .u8 0)], .agg (List.replicate 64 (.lit (.int .u8 0)))], .agg [.lit (.int .u64 0), .nil], .lit (.int .i64 0), .lit (.int .u32 0)], [], [])) (by kernel_rfl) rfl (by kernel_rfl)) ?_
  intro W base args ds gs before hval hW _ hk _
  exact pageTurned_contract H enc W base args ds gs before hval hW hk

theorem pageTurnedUpto_holds : Rows.PageTurnedUptoSaid :=
  OpenClaim.holds_of_cond 7 Try.f7 rfl rfl rfl rfl rfl rfl rfl ⟨rfl, rfl, rfl, rfl, rfl⟩ rfl rfl rfl rfl rfl (by kernel_rfl) Try.func7 (by kernel_rfl)
    (of_decide_eq_true (by kernel_rfl)) (by unfold Func.isWrapper; first | (rw [if_pos (by decide +kernel)]; kernel_rfl) | (rw [if_neg (by decide +kernel)]; exact ⟨rfl, rfl⟩))
    (fun os started H enc _ F => pageTurned_lifted os started H enc F)

#print axioms pageTurnedUpto_holds
end Go.Proofs.Ytbellkdglifahaa
