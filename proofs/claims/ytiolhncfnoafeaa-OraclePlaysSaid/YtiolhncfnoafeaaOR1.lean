/- Arguments of the oracle's laws. -/
import Derived.Test.YtiolhncfnoafeaaO6
import Derived.Test.YtiolhncfnoafeaaF27
import Derived.Test.YtiolhncfnoafeaaRows
import Derived.ProofKit
import Derived.ChangeBears2
import Derived.OpenShut
set_option linter.unusedVariables false
set_option linter.unusedSimpArgs false
namespace Go.Proofs.Ytiolhncfnoafeaa
open Go Go.ChangeShapes Go.WideShapes Go.ChangeAt Go.RowKit

theorem own0 : ownKnob Try.prog.godebug = none := by kernel_rfl
theorem laid0 : laidOutB Try.prog = true := by kernel_rfl
theorem nat_u32 {n : Int} (h : (Lit.int .u32 n).wf = true) : ∃ m : Nat, n = (m : Int) ∧ m < 4294967296 := by
  simp [Lit.wf, IntKind.min, IntKind.max, IntKind.signed, IntKind.bits] at h
  exact ⟨n.toNat, by omega, by omega⟩
theorem nat_u8 {n : Int} (h : (Lit.int .u8 n).wf = true) : ∃ m : Nat, n = (m : Int) ∧ m < 256 := by
  simp [Lit.wf, IntKind.min, IntKind.max, IntKind.signed, IntKind.bits] at h
  exact ⟨n.toNat, by omega, by omega⟩
theorem nat_u64 {n : Int} (h : (Lit.int .u64 n).wf = true) : ∃ m : Nat, n = (m : Int) ∧ m < 18446744073709551616 := by
  simp [Lit.wf, IntKind.min, IntKind.max, IntKind.signed, IntKind.bits] at h
  exact ⟨n.toNat, by omega, by omega⟩
theorem op_inv {u : AV} (h : TyAV Try.prog 39 u) : ∃ o : Op', u = opAV o ∧ opOk' o := by
  obtain ⟨us, rfl, hl, hf⟩ := TyAV.struct_inv Try.underlying39 h
  rcases us with _ | ⟨a, _ | ⟨b, _ | ⟨x, r⟩⟩⟩ <;> try (simp at hl; done)
  obtain ⟨a', rfl, _, _⟩ := TyAV.int_inv Try.underlying3 (hf 0 _ a rfl rfl)
  obtain ⟨b', rfl, b1, b2⟩ := TyAV.int_inv Try.underlying37 (hf 1 _ b rfl rfl)
  simp [IntKind.min, IntKind.max, IntKind.signed, IntKind.bits] at b1 b2
  refine ⟨(a', b'.toNat), ?_, by show b'.toNat < 18446744073709551616; omega⟩
  show AV.agg [_, .int .u64 b'] = AV.agg [_, .int .u64 ((b'.toNat : Nat) : Int)]
  rw [Int.toNat_of_nonneg (by omega)]
theorem arg_ops {W : World} {r : Reach} {b0 : Nat} {H : Type} {enc : TypeId × Value → H} {v : Value} {d : DataW H} {p : List MemPlace} (hv : Value.okWide Try.prog W r b0 32 v) (h : DataW.Trod enc Try.prog W 0 (fun _ => true) true 32 v d p) :
    ∃ l : List Op', (∀ x, x ∈ l → opOk' x) ∧ l.length ≤ 9223372036854775807 ∧ XRel W (Old0 W) (fun _ => none) (opsAV l) v := by
  obtain ⟨fuel, h⟩ := h
  obtain ⟨u, h1, h2, h3⟩ := trod_rel (ρ := fun _ => none) fuel 10 32 _ _ (by kernel_rfl) h
  obtain ⟨es, rfl, hle, hes⟩ := TyAV.slice_inv Try.underlying32 h1
  obtain ⟨l, rfl, hl⟩ : ∃ l : List Op', es = l.map opAV ∧ ∀ x, x ∈ l → opOk' x := by
    clear h1 h2 h3 hle
    induction es with
    | nil => exact ⟨[], rfl, fun x hx => by cases hx⟩
    | cons e es ih =>
      obtain ⟨l, rfl, hl⟩ := ih fun x hx => hes x (List.mem_cons_of_mem _ hx)
      obtain ⟨o, rfl, ho⟩ := op_inv (hes e List.mem_cons_self)
      refine ⟨o :: l, rfl, fun x hx => ?_⟩
      rcases List.mem_cons.1 hx with rfl | hx
      · exact ho
      · exact hl x hx
  rw [List.length_map] at hle
  refine ⟨l, hl, hle, ?_⟩
  rw [List.length_map] at h3
  exact xrel_one h3 (okWide_one (fun fs h => by rw [Try.underlying32] at h; cases h) (fun n e h => by rw [Try.underlying32] at h; cases h) hv) (fun vs h => by cases h) (fun vs h => by cases h)
end Go.Proofs.Ytiolhncfnoafeaa
