/- Rows of bytes and of truth values as arguments. -/
import Derived.Test.YtpnjllemklindaaDR2
import Derived.Test.YtpnjllemklindaaD24
set_option linter.unusedVariables false
set_option linter.unusedSimpArgs false
namespace Go.Proofs.Ytpnjllemklindaa
open Go Go.ChangeShapes Go.WideShapes Go.ChangeAt Go.RowKit

theorem byte_inv {u : AV} (h : TyAV Try.prog 5 u) : ∃ b : UInt8, u = byteAV b := by
  obtain ⟨n, rfl, h1, h2⟩ := TyAV.int_inv Try.underlying5 h
  simp only [IntKind.min, IntKind.max, IntKind.signed, IntKind.bits] at h1 h2
  simp at h1 h2
  refine ⟨UInt8.ofNat n.toNat, ?_⟩
  rw [← byteAV_of _ (by omega), Int.toNat_of_nonneg h1]
theorem arg_bytes {W : World} {r : Reach} {b0 : Nat} {H : Type} {enc : TypeId × Value → H} {v : Value} {d : DataW H} {p : List MemPlace} (hv : Value.okWide Try.prog W r b0 22 v) (h : DataW.Trod enc Try.prog W 0 (fun _ => true) true 22 v d p) :
    ∃ l : List UInt8, l.length ≤ 9223372036854775807 ∧ XRel W (Old0 W) (fun _ => none) (bA l) v := by
  obtain ⟨fuel, h⟩ := h
  obtain ⟨u, h1, h2, h3, h4⟩ := trod_dat (ρ := fun _ => none) fuel 10 22 _ _ (by kernel_rfl) h
  obtain ⟨es, rfl, hle, hes⟩ := TyAV.slice_inv Try.underlying22 h1
  obtain ⟨l, rfl⟩ := map_inv (f := byteAV) fun x hx => byte_inv (hes x hx)
  rw [List.length_map] at hle
  rw [List.length_map] at h3 h4
  exact ⟨l, hle, xrel_one h3 (okWide_one (fun fs h => by rw [Try.underlying22] at h; cases h) (fun n e h => by rw [Try.underlying22] at h; cases h) hv) (fun vs h => by cases h) (fun vs h => by cases h)⟩
theorem arg_bools {W : World} {r : Reach} {b0 : Nat} {H : Type} {enc : TypeId × Value → H} {v : Value} {d : DataW H} {p : List MemPlace} (hv : Value.okWide Try.prog W r b0 23 v) (h : DataW.Trod enc Try.prog W 0 (fun _ => true) true 23 v d p) :
    ∃ l : List Bool, l.length ≤ Rows.uptoBulk d ∧ XRel W (Old0 W) (fun _ => none) (boolsAV l) v := by
  obtain ⟨fuel, h⟩ := h
  obtain ⟨u, h1, h2, h3, h4⟩ := trod_dat (ρ := fun _ => none) fuel 10 23 _ _ (by kernel_rfl) h
  obtain ⟨es, rfl, hle, hes⟩ := TyAV.slice_inv Try.underlying23 h1
  obtain ⟨l, rfl⟩ := map_inv (f := AV.bool) fun x hx => TyAV.bool_inv Try.underlying4 (hes x hx)
  have hb := bulk_vsl h4
  rw [List.length_map] at hb
  rw [List.length_map] at h3 h4
  exact ⟨l, hb, xrel_one h3 (okWide_one (fun fs h => by rw [Try.underlying23] at h; cases h) (fun n e h => by rw [Try.underlying23] at h; cases h) hv) (fun vs h => by cases h) (fun vs h => by cases h)⟩
end Go.Proofs.Ytpnjllemklindaa
