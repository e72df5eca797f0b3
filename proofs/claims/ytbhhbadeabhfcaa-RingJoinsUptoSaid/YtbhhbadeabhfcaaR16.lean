/- Lists of parts as arguments, and their bulk. -/
import Derived.Test.YtbhhbadeabhfcaaR15
import Derived.Test.YtbhhbadeabhfcaaF34
import Derived.Test.YtbhhbadeabhfcaaC24
import Derived.JoinedCond
set_option linter.unusedVariables false
set_option linter.unusedSimpArgs false
namespace Go.Proofs.Ytbhhbadeabhfcaa
open Go Go.ChangeShapes Go.WideShapes Go.ChangeAt Go.RowKit

theorem bulk_part {H : Type} {d : DataW H} {l : List (DataW H)} (h : d ∈ l) : Rows.uptoBulk d ≤ Rows.uptoBulkAll l := by
  induction l with
  | nil => cases h
  | cons x r ih =>
    simp only [Rows.uptoBulkAll]
    rcases List.mem_cons.1 h with e | e
    · subst e; omega
    · have := ih e; omega
theorem bulk_str {H : Type} {d : DataW H} {l : List UInt8} (h : DRel d (.str ⟨l.toArray⟩)) : l.length ≤ Rows.uptoBulk d := by
  cases h with
  | str s => simp [Rows.uptoBulk]
theorem bulk_ch {H : Type} {d : DataW H} {c : Ch} (h : DRel d c.av) : c.by_.length ≤ Rows.uptoBulk d := by
  cases h with
  | agg ds us h1 h2 =>
    obtain ⟨d3, h3⟩ := list_get (xs := ds) (i := 3) (by rw [h1]; simp)
    have := bulk_str (h2 3 d3 _ h3 rfl)
    have h4 := bulk_part (List.mem_of_getElem? h3)
    simp only [Rows.uptoBulk]; omega
theorem bulk_chs {H : Type} : ∀ {ds : List (DataW H)} {l : List Ch}, ds.length = l.length → (∀ (i : Nat) (d : DataW H) (u : AV), ds[i]? = some d → (l.map Ch.av)[i]? = some u → DRel d u) → sumB l ≤ Rows.uptoBulkAll ds
  | [], [], _, _ => by simp [sumB]
  | [], _ :: _, h, _ => by simp at h
  | _ :: _, [], h, _ => by simp at h
  | d :: ds, c :: l, h, hr => by
    have h1 := bulk_ch (hr 0 d c.av rfl rfl)
    have h2 := bulk_chs (ds := ds) (l := l) (by simpa using h) fun i d u hd hu => hr (i + 1) d u (by simpa using hd) (by simpa using hu)
    simp only [sumB, Rows.uptoBulkAll]; omega
theorem bulk_row {H : Type} {d : DataW H} {l : List Ch} (h : DRel d (rowC l)) : sumB l ≤ Rows.uptoBulk d := by
  generalize hu : rowC l = u at h
  cases h with
  | nil =>
    have : l = [] := by
      have := congrArg (fun | AV.vsl es _ => es.length | _ => 0) hu
      simpa using this
    subst this; simp [sumB]
  | slice ds sp es h1 h2 =>
    have he : l.map Ch.av = es := by
      injection hu
    subst he
    have := bulk_chs (by simpa using h1) h2
    simp only [Rows.uptoBulk]; omega
  | bool _ => cases hu
  | int _ _ => cases hu
  | str _ => cases hu
  | agg _ _ _ _ => cases hu
theorem arg_chs {W : World} {r : Reach} {b0 : Nat} {H : Type} {enc : TypeId × Value → H} {v : Value} {d : DataW H} {p : List MemPlace} (hv : Value.okWide Try.prog W r b0 51 v) (h : DataW.Trod enc Try.prog W 0 (fun _ => true) true 51 v d p) : ∃ l : List Ch, l.length ≤ 9223372036854775807 ∧ AllWf l ∧ sumB l ≤ Rows.uptoBulk d ∧ XRel W (Old0 W) (fun _ => none) (rowC l) v := by
  obtain ⟨fuel, h⟩ := h
  obtain ⟨u, h1, h2, h3, h4⟩ := trod_dat (ρ := fun _ => none) fuel 10 51 _ _ (by kernel_rfl) h
  obtain ⟨es, rfl, hle, hes⟩ := TyAV.slice_inv Try.underlying51 h1
  have hall : ∃ l : List Ch, es = l.map Ch.av ∧ AllWf l := by
    clear h1 h2 h3 h4 hle h
    induction es with
    | nil => exact ⟨[], rfl, fun c hc => by simp at hc⟩
    | cons e es ih =>
      obtain ⟨c, hc, rfl⟩ := ch_inv (hes e (by simp))
      obtain ⟨l, rfl, hl⟩ := ih fun x hx => hes x (by simp [hx])
      exact ⟨c :: l, rfl, fun x hx => by
        rcases List.mem_cons.1 hx with rfl | hx
        · exact hc
        · exact hl x hx⟩
  obtain ⟨l, rfl, hl⟩ := hall
  rw [List.length_map] at hle
  rw [List.length_map] at h3 h4
  exact ⟨l, hle, hl, bulk_row h4, xrel_one h3 (okWide_one (fun fs h => by rw [Try.underlying51] at h; cases h) (fun n e h => by rw [Try.underlying51] at h; cases h) hv) (fun vs h => by cases h) (fun vs h => by cases h)⟩
end Go.Proofs.Ytbhhbadeabhfcaa
