/- Arguments of the laws of written sets. -/
import Derived.Test.YtipbgaahpchhbaaW7
import Derived.Test.YtipbgaahpchhbaaF27
import Derived.Test.YtipbgaahpchhbaaRows
import Derived.ProofKit
import Derived.ChangeBears2
import Derived.OpenShut
set_option linter.unusedVariables false
set_option linter.unusedSimpArgs false
namespace Go.Proofs.Ytipbgaahpchhbaa
open Go Go.ChangeShapes Go.WideShapes Go.ChangeAt Go.RowKit

theorem own0 : ownKnob Try.prog.godebug = none := by kernel_rfl
theorem laid0 : laidOutB Try.prog = true := by kernel_rfl
theorem byte_inv {u : AV} (h : TyAV Try.prog 5 u) : ∃ x : UInt8, u = byteAV x := by
  obtain ⟨n, rfl, h1, h2⟩ := TyAV.int_inv Try.underlying5 h
  simp only [IntKind.min, IntKind.max, IntKind.signed, IntKind.bits] at h1 h2
  simp at h1 h2
  refine ⟨UInt8.ofNat n.toNat, ?_⟩
  rw [← byteAV_of _ (by omega), Int.toNat_of_nonneg h1]
theorem map_invB {α : Type} {f : α → AV} : ∀ {es : List AV}, (∀ x, x ∈ es → ∃ a, x = f a) → ∃ l : List α, es = l.map f
  | [], _ => ⟨[], rfl⟩
  | x :: es, h => by
    obtain ⟨a, rfl⟩ := h x (List.mem_cons_self ..)
    obtain ⟨l, rfl⟩ := map_invB fun y hy => h y (List.mem_cons_of_mem _ hy)
    exact ⟨a :: l, rfl⟩
theorem body_inv {u : AV} (h : TyAV Try.prog 25 u) : ∃ b : List UInt8, b.length = 64 ∧ u = arrAV b := by
  obtain ⟨us, rfl, hl, hf⟩ := TyAV.array_inv Try.underlying25 h
  obtain ⟨b, rfl⟩ := map_invB (f := byteAV) fun x hx => byte_inv (hf x hx)
  exact ⟨b, by simpa using hl, rfl⟩
theorem str_list (b : ByteArray) (h : b.size ≤ 9223372036854775807) : ∃ l : List UInt8, b = ⟨l.toArray⟩ ∧ l.length ≤ 9223372036854775807 := by
  obtain ⟨⟨l⟩⟩ := b
  exact ⟨l, rfl, h⟩
theorem wo_inv {u : AV} (h : TyAV Try.prog 27 u) : ∃ o : Wo, o.Ok ∧ u = o.av := by
  obtain ⟨us, rfl, hl, hf⟩ := TyAV.struct_inv Try.underlying27 h
  rcases us with _ | ⟨a, _ | ⟨b, _ | ⟨c, _ | ⟨e, _ | ⟨x, r⟩⟩⟩⟩⟩ <;> try (simp at hl; done)
  obtain ⟨a', rfl, a1, a2⟩ := TyAV.int_inv Try.underlying23 (hf 0 _ a rfl rfl)
  obtain ⟨bd, hb, rfl⟩ := body_inv (hf 1 _ b rfl rfl)
  obtain ⟨c', rfl, c1, c2⟩ := TyAV.int_inv Try.underlying3 (hf 2 _ c rfl rfl)
  obtain ⟨s, rfl, hs⟩ := TyAV.str_inv Try.underlying9 (hf 3 _ e rfl rfl)
  obtain ⟨sl, rfl, hsl⟩ := str_list (b := s) (by simpa [maxLen] using hs)
  simp only [IntKind.min, IntKind.max, IntKind.signed, IntKind.bits] at a1 a2 c1 c2
  simp at a1 a2 c1 c2
  refine ⟨⟨a'.toNat, bd, c', sl⟩, ⟨show a'.toNat < _ by omega, hb, ⟨by omega, by omega⟩, hsl⟩, ?_⟩
  show AV.agg [.int .u16 a', _, _, _] = AV.agg [.int .u16 (a'.toNat : Int), _, _, _]
  rw [Int.toNat_of_nonneg a1]
theorem map_inv2 {α : Type} {f : α → AV} {P : α → Prop} : ∀ {es : List AV}, (∀ x, x ∈ es → ∃ a, P a ∧ x = f a) → ∃ l : List α, (∀ a, a ∈ l → P a) ∧ es = l.map f
  | [], _ => ⟨[], fun a h => by (cases h), rfl⟩
  | x :: es, h => by
    obtain ⟨a, ha, rfl⟩ := h x (List.mem_cons_self ..)
    obtain ⟨l, hl, rfl⟩ := map_inv2 fun y hy => h y (List.mem_cons_of_mem _ hy)
    exact ⟨a :: l, fun b hb => by
      rcases List.mem_cons.1 hb with rfl | hb
      · exact ha
      · exact hl b hb, rfl⟩
set_option maxRecDepth 20000 in
theorem arg_wo {W : World} {H : Type} {enc : TypeId × Value → H} {v : Value} {d : DataW H} {p : List MemPlace} (h : DataW.Trod enc Try.prog W 0 (fun _ => true) true 27 v d p) : ∃ o : Wo, o.Ok ∧ XRel W (Old0 W) (fun _ => none) o.av v := by
  obtain ⟨fuel, h⟩ := h
  obtain ⟨u, h1, h2, h3⟩ := trod_rel (ρ := fun _ => none) fuel 10 27 _ _ (by kernel_rfl) h
  obtain ⟨x, hx, rfl⟩ := wo_inv h1
  exact ⟨x, hx, xrel_agg h3 (by simp [AV.sizeL, AV.size])⟩
set_option maxRecDepth 20000 in
theorem arg_wos {W : World} {r : Reach} {b0 : Nat} {H : Type} {enc : TypeId × Value → H} {v : Value} {d : DataW H} {p : List MemPlace} (hv : Value.okWide Try.prog W r b0 22 v) (h : DataW.Trod enc Try.prog W 0 (fun _ => true) true 22 v d p) :
    ∃ l : List Wo, (∀ e, e ∈ l → e.Ok) ∧ l.length ≤ 9223372036854775807 ∧ XRel W (Old0 W) (fun _ => none) (wosAV l) v := by
  obtain ⟨fuel, h⟩ := h
  obtain ⟨u, h1, h2, h3⟩ := trod_rel (ρ := fun _ => none) fuel 10 22 _ _ (by kernel_rfl) h
  obtain ⟨es, rfl, hle, hes⟩ := TyAV.slice_inv Try.underlying22 h1
  obtain ⟨l, hl, rfl⟩ := map_inv2 (f := Wo.av) fun x hx => wo_inv (hes x hx)
  rw [List.length_map] at hle
  refine ⟨l, hl, hle, ?_⟩
  rw [List.length_map] at h3
  exact xrel_one h3 (okWide_one (fun fs h => by rw [Try.underlying22] at h; cases h) (fun n e h => by rw [Try.underlying22] at h; cases h) hv) (fun vs h => by cases h) (fun vs h => by cases h)
end Go.Proofs.Ytipbgaahpchhbaa
