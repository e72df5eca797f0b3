/- The statement SlotFull: whatever the lengths and the number, the law returns true and its input reads as it did. -/
import Derived.Test.YtgcdbfeoadmmcaaA16
import Derived.Test.YtgcdbfeoadmmcaaR7
set_option linter.unusedVariables false
set_option linter.unusedSimpArgs false
namespace Go.Proofs.Ytgcdbfeoadmmcaa
open Go Go.ChangeShapes Go.WideShapes Go.ChangeAt Go.RowKit

theorem lit_u8 {n : Int} (h : (Lit.int IntKind.u8 n).wf = true) : 0 ≤ n ∧ n ≤ 255 := by
  simp [Lit.wf, IntKind.min, IntKind.max, IntKind.bits, IntKind.signed] at h
  omega
theorem arg_bytes {W : World} {r : Reach} {b0 : Nat} {H : Type} {enc : TypeId × Value → H} {v : Value} {d : DataW H} {p : List MemPlace} (hv : Value.okWide Try.prog W r b0 47 v) (h : DataW.Trod enc Try.prog W 0 (fun _ => true) true 47 v d p) : ∃ bs : List Int, bs.length ≤ 9223372036854775807 ∧ (∀ b, b ∈ bs → 0 ≤ b ∧ b ≤ 255) ∧ XRel W (Old0 W) (fun _ => none) (byAV bs) v := by
  obtain ⟨fuel, h⟩ := h
  obtain ⟨u, h1, h2, h3⟩ := trod_rel (ρ := fun _ => none) fuel 10 47 _ _ (by kernel_rfl) h
  obtain ⟨es, rfl, hle, hes⟩ := TyAV.slice_inv Try.underlying47 h1
  have hn : ∀ x, x ∈ es → ∃ n : Int, x = .int .u8 n ∧ 0 ≤ n ∧ n ≤ 255 := fun x hx => by
    obtain ⟨n, h1, h2, h3⟩ := TyAV.int_inv Try.underlying5 (hes x hx)
    exact ⟨n, h1, by simpa [IntKind.min, IntKind.signed] using h2, by simpa [IntKind.max, IntKind.bits, IntKind.signed] using h3⟩
  obtain ⟨bs, rfl⟩ := map_inv (f := AV.int .u8) fun x hx => by
    obtain ⟨n, h1, _⟩ := hn x hx
    exact ⟨n, h1⟩
  rw [List.length_map] at hle
  refine ⟨bs, hle, fun b hb => ?_, ?_⟩
  · obtain ⟨n, h1, h2⟩ := hn (.int .u8 b) (List.mem_map.2 ⟨b, hb, rfl⟩)
    cases h1; exact h2
  · rw [List.length_map] at h3
    exact xrel_one h3 (okWide_one (fun fs h => by rw [Try.underlying47] at h; cases h) (fun n e h => by rw [Try.underlying47] at h; cases h) hv) (fun vs h => by cases h) (fun vs h => by cases h)

set_option maxRecDepth 100000 in
theorem slotFull_lifted (os : Os) (started : os.Started) (H : Type) (enc : TypeId × Value → H) :
    ReturnsInHanded {} Try.checked os 5 .any (Rows.slotFullSpec.pre6 enc Try.prog Try.f5 Rows.slotFullRow.domain false) (Rows.slotFullSpec.post enc Try.prog Try.f5 false true false false) := by
  refine returnsInHanded_of_change (C := Try.checked) own0 started (by kernel_rfl) Try.func5
    (ChangeSpec.witness6 (enc := enc) (C := Try.checked) false ⟨#[], #[.slice none 0 0, .int .u8 0], []⟩ 8 (by kernel_rfl) (by kernel_rfl) (by kernel_rfl) (by kernel_rfl)) ?_
  intro W base args ds gs before hval0 hW hcnd _
  have hval : ∀ (j : Nat) t v, Try.f5.params[j]? = some t → args[j]? = some v → Value.okWide Try.prog W .any base t v := hval0
  have hW' := hW
  obtain ⟨p, q, hA0, hV, rfl, hfz, hnd⟩ := hW
  have hA : DataW.TrodAll enc Try.prog W 0 (fun _ => true) true [47, 5] args.toList ds p := hA0
  obtain ⟨v0, v1, d0, d1, p0, p1, ha, rfl, rfl, h0, h1⟩ := trodAll_two hA
  obtain ⟨rfl, rfl⟩ := trodVars_none hV
  subst ha
  obtain ⟨out, rfl, rfl, rfl, wn⟩ := open_int Try.underlying5 (hval 1 5 v1 rfl rfl) h1
  obtain ⟨bs, hl, hbs, x0⟩ := arg_bytes (hval 0 47 v0 rfl rfl) h0
  have hout : 0 ≤ out ∧ out ≤ 255 := lit_u8 wn
  have hlt : ∀ x, x ∈ p0 ++ [] → x.block < W.heap.size := fun x hx => hW'.lt x (by simp at hx ⊢; exact hx)
  refine ((slotFull_spec bs out hbs hout.1 hout.2 hl).row W _ rfl (fun k hk => ?_)).mono fun e W' ⟨he, hB⟩ => ?_
  · match k, hk with
    | 0, _ => exact x0
    | 1, _ => exact CRel.int _ _
  subst he
  have t0 := Below.trod laid0 (by kernel_rfl) (of_decide_eq_true (by kernel_rfl)) h0 hB (fun x hx => hlt x (by simp [hx]))
  have t1 := Below.trod laid0 (by kernel_rfl) (of_decide_eq_true (by kernel_rfl)) h1 hB (fun x hx => by simp at hx)
  refine ⟨_, rfl, _, _, _, [], p0 ++ ([] ++ []), [], hW', ?_, ?_, ?_, hB.frame _, fun h => by cases h⟩
  · exact trodAll_mk1 (shut_bool Try.underlying4 true)
  · exact ⟨p0, _, t0, ⟨[], _, t1, rfl, rfl⟩, rfl⟩
  · rfl

theorem slotFull_holds : Rows.SlotFullSaid :=
  OpenClaim.holds_of_wide 5 Try.f5 rfl rfl rfl rfl rfl rfl rfl ⟨rfl, rfl, rfl, rfl, rfl⟩ rfl rfl rfl rfl rfl (by kernel_rfl) Try.func5 (by kernel_rfl)
    (of_decide_eq_true (by kernel_rfl)) (by unfold Func.isWrapper; first | (rw [if_pos (by decide +kernel)]; kernel_rfl) | (rw [if_neg (by decide +kernel)]; exact ⟨rfl, rfl⟩))
    (fun os started H enc _ => slotFull_lifted os started H enc)

#print axioms slotFull_holds
end Go.Proofs.Ytgcdbfeoadmmcaa
