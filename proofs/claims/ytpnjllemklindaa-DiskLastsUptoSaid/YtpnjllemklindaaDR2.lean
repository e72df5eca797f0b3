/- Scripts as arguments. -/
import Derived.Test.YtpnjllemklindaaDR1
import Derived.Test.YtpnjllemklindaaD16
set_option linter.unusedVariables false
set_option linter.unusedSimpArgs false
namespace Go.Proofs.Ytpnjllemklindaa
open Go Go.ChangeShapes Go.WideShapes Go.ChangeAt Go.RowKit

theorem lit_u8n {n : Int} (h : (Lit.int IntKind.u8 n).wf = true) : ∃ m : Nat, n = m ∧ m < 256 := by
  simp [Lit.wf, IntKind.min, IntKind.max, IntKind.bits, IntKind.signed] at h
  exact ⟨n.toNat, by omega, by omega⟩
theorem bulk_dops {H : Type} : ∀ {ds : List (DataW H)} {l : List DOp}, ds.length = l.length → (∀ (i : Nat) (d : DataW H) (u : AV), ds[i]? = some d → (l.map DOp.av)[i]? = some u → DRel d u) → ∀ o, o ∈ l → o.fails.length ≤ Rows.uptoBulkAll ds ∧ o.keep.length ≤ Rows.uptoBulkAll ds
  | [], [], _, _ => fun o ho => by simp at ho
  | [], _ :: _, h, _ => by simp at h
  | _ :: _, [], h, _ => by simp at h
  | d :: ds, c :: l, h, hr => fun o ho => by
    have h1 := bulk_dop (hr 0 d c.av rfl rfl)
    have h2 := bulk_dops (ds := ds) (l := l) (by simpa using h) fun i d u hd hu => hr (i + 1) d u (by simpa using hd) (by simpa using hu)
    simp only [Rows.uptoBulkAll]
    rcases List.mem_cons.1 ho with rfl | ho
    · omega
    · have := h2 o ho; omega
theorem bulk_script {H : Type} {d : DataW H} {l : List DOp} (h : DRel d (opsAV l)) : ∀ o, o ∈ l → o.fails.length ≤ Rows.uptoBulk d ∧ o.keep.length ≤ Rows.uptoBulk d := by
  generalize hu : opsAV l = u at h
  cases h with
  | nil =>
    have : l = [] := by
      have := congrArg (fun | AV.vsl es _ => es.length | _ => 0) hu
      simpa using this
    subst this; exact fun o ho => by simp at ho
  | slice ds sp es h1 h2 =>
    have he : l.map DOp.av = es := by
      injection hu
    subst he
    intro o ho
    have := bulk_dops (by simpa using h1) h2 o ho
    simp only [Rows.uptoBulk]; omega
  | bool _ => cases hu
  | int _ _ => cases hu
  | str _ => cases hu
  | agg _ _ _ _ => cases hu
theorem arg_dops {W : World} {r : Reach} {b0 : Nat} {H : Type} {enc : TypeId × Value → H} {v : Value} {d : DataW H} {p : List MemPlace} (hv : Value.okWide Try.prog W r b0 39 v) (h : DataW.Trod enc Try.prog W 0 (fun _ => true) true 39 v d p) :
    ∃ l : List DOp, l.length ≤ 9223372036854775807 ∧ (∀ x, x ∈ l → x.Pre) ∧ (∀ o, o ∈ l → o.fails.length ≤ Rows.uptoBulk d ∧ o.keep.length ≤ Rows.uptoBulk d) ∧ XRel W (Old0 W) (fun _ => none) (opsAV l) v := by
  obtain ⟨fuel, h⟩ := h
  obtain ⟨u, h1, h2, h3, h4⟩ := trod_dat (ρ := fun _ => none) fuel 10 39 _ _ (by kernel_rfl) h
  obtain ⟨es, rfl, hle, hes⟩ := TyAV.slice_inv Try.underlying39 h1
  have hall : ∃ l : List DOp, es = l.map DOp.av ∧ ∀ x, x ∈ l → x.Pre := by
    clear h1 h2 h3 h4 hle h
    induction es with
    | nil => exact ⟨[], rfl, fun c hc => by simp at hc⟩
    | cons e es ih =>
      obtain ⟨c, q1, q2, _, _, _, _, rfl⟩ := dop_inv (hes e (by simp))
      obtain ⟨l, rfl, hl⟩ := ih fun x hx => hes x (by simp [hx])
      exact ⟨c :: l, rfl, fun x hx => by
        rcases List.mem_cons.1 hx with rfl | hx
        · exact ⟨q1, q2⟩
        · exact hl x hx⟩
  obtain ⟨l, rfl, hl⟩ := hall
  rw [List.length_map] at hle
  rw [List.length_map] at h3 h4
  exact ⟨l, hle, hl, bulk_script h4, xrel_one h3 (okWide_one (fun fs h => by rw [Try.underlying39] at h; cases h) (fun n e h => by rw [Try.underlying39] at h; cases h) hv) (fun vs h => by cases h) (fun vs h => by cases h)⟩
end Go.Proofs.Ytpnjllemklindaa
