/- The statement PageUndos, where what it reads is of bulk at most 1048576: any undo page is the document's payload, or may not be, and any payload is that undo page's, or none. -/
import Derived.Test.YtbellkdglifahaaPR3
import Derived.Test.YtbellkdglifahaaP34
set_option linter.unusedVariables false
set_option linter.unusedSimpArgs false
namespace Go.Proofs.Ytbellkdglifahaa
open Go Go.ChangeShapes Go.WideShapes Go.ChangeAt Go.RowKit

theorem pageUndos_contract (H : Type) (enc : TypeId × Value → H) (W : World) (base : Nat) (args : Array Value) (ds gs : List (DataW H)) (before : List MemPlace)
    (hval0 : ∀ (j : Nat) t v, Try.f4.params[j]? = some t → args[j]? = some v → Value.okWide Try.prog W .any base t v)
    (hW : DataW.Whole enc Try.prog Try.f4.params.toList Rows.pageUndosSpec.vars false W args.toList ds gs before) (hk0 : Rows.uptoSmall H (ds ++ gs) = true) :
    Calls Try.prog 4 args W fun e W' => ∃ v, e = .returned v ∧ Rows.pageUndosSpec.post enc Try.prog Try.f4 false true false false W args v W' := by
  have hval : ∀ (j : Nat) t v, Try.f4.params[j]? = some t → args[j]? = some v → Value.okWide Try.prog W .any base t v := hval0
  have hW' := hW
  obtain ⟨p, q, hA0, hV, rfl, hfz, hnd⟩ := hW
  have hA : DataW.TrodAll enc Try.prog W 0 (fun _ => true) true [22, 44, 32] args.toList ds p := hA0
  obtain ⟨v0, v1, v2, d0, d1, d2, p0, p1, p2, ha, rfl, rfl, h0, h1, h2⟩ := trodAll_three hA
  obtain ⟨rfl, rfl⟩ := trodVars_none hV
  subst ha
  have hb : Rows.uptoBulkAll ([d0, d1, d2] ++ []) ≤ 1048576 := of_decide_eq_true hk0
  simp only [List.append_nil, Rows.uptoBulkAll] at hb
  obtain ⟨n, rfl, rfl, rfl, wn⟩ := open_int Try.underlying22 (hval 0 22 v0 rfl rfl) h0
  obtain ⟨no, rfl, hno⟩ := lit_u16 wn
  obtain ⟨u, hu, hul, hus, x1⟩ := arg_ud2 h1
  obtain ⟨pg, hpg, x2⟩ := arg_page h2
  have hlt : ∀ x, x ∈ [] ++ p1 ++ p2 → x.block < W.heap.size := fun x hx => hW'.lt x (by simp at hx ⊢; exact hx)
  refine ((pageUndos_spec no hno u hu (by omega) pg hpg).row W _ rfl (fun k hk => ?_)).mono fun e W' ⟨he, hB⟩ => ?_
  · match k, hk with
    | 0, _ => exact CRel.int _ _
    | 1, _ => exact x1
    | 2, _ => exact x2
  subst he
  have t0 := Below.trod laid0 (by kernel_rfl) (of_decide_eq_true (by kernel_rfl)) h0 hB (fun x hx => by simp at hx)
  have t1 := Below.trod laid0 (by kernel_rfl) (of_decide_eq_true (by kernel_rfl)) h1 hB (fun x hx => hlt x (by simp [hx]))
  have t2 := Below.trod laid0 (by kernel_rfl) (of_decide_eq_true (by kernel_rfl)) h2 hB (fun x hx => hlt x (by simp [hx]))
  refine ⟨_, rfl, _, _, _, [], [] ++ (p1 ++ (p2 ++ [])), [], hW', ?_, ?_, ?_, hB.frame _, fun h => by cases h⟩
  · exact trodAll_mk1 (shut_bool Try.underlying4 true)
  · exact ⟨[], _, t0, ⟨p1, _, t1, ⟨p2, _, t2, rfl, rfl⟩, rfl⟩, rfl⟩
  · rfl

set_option maxRecDepth 100000 in
theorem pageUndos_lifted (os : Os) (started : os.Started) (H : Type) (enc : TypeId × Value → H) (F : Stop.Interp) :
    ReturnsInHanded {} Try.checked os 4 .any ((Rows.OpenSpec.upto Rows.pageUndosSpec).pre6 enc Try.prog Try.f4 Rows.pageUndosUptoRow.domain false) (((Rows.OpenSpec.upto Rows.pageUndosSpec).at F).post enc Try.prog Try.f4 false true false false) := by
  refine returnsInHanded_of_cond (C := Try.checked) (s := Rows.OpenSpec.upto Rows.pageUndosSpec) (k := Rows.uptoSmall) rfl own0 started (by kernel_rfl) Try.func4
    (OpenSpec.witness (enc := enc) (C := Try.checked) (s := Rows.OpenSpec.upto Rows.pageUndosSpec) (k := Rows.uptoSmall) rfl false ⟨#[], #[.int .u16 0, .agg #[.int .u64 0, .slice none 0 0], .agg (Array.replicate 224 (.int .u8 0))], []⟩ 8 (by kernel_rfl) (by kernel_rfl) (by kernel_rfl)
      (x := ([.lit (.int .u16 0), .agg [.lit (.int .u64 0), .nil], .agg (List.replicate 224 (.lit (.int .u8 0)))], [], [])) (by kernel_rfl) rfl (by kernel_rfl)) ?_
  intro W base args ds gs before hval hW _ hk _
  exact pageUndos_contract H enc W base args ds gs before hval hW hk

theorem pageUndosUpto_holds : Rows.PageUndosUptoSaid :=
  OpenClaim.holds_of_cond 4 Try.f4 rfl rfl rfl rfl rfl rfl rfl ⟨rfl, rfl, rfl, rfl, rfl⟩ rfl rfl rfl rfl rfl (by kernel_rfl) Try.func4 (by kernel_rfl)
    (of_decide_eq_true (by kernel_rfl)) (by unfold Func.isWrapper; first | (rw [if_pos (by decide +kernel)]; kernel_rfl) | (rw [if_neg (by decide +kernel)]; exact ⟨rfl, rfl⟩))
    (fun os started H enc _ F => pageUndos_lifted os started H enc F)

#print axioms pageUndosUpto_holds
end Go.Proofs.Ytbellkdglifahaa
