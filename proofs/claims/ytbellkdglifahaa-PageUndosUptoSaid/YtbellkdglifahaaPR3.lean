/- How much an undo page holds, by its bulk. -/
import Derived.Test.YtbellkdglifahaaPR2
set_option linter.unusedVariables false
set_option linter.unusedSimpArgs false
namespace Go.Proofs.Ytbellkdglifahaa
open Go Go.ChangeShapes Go.WideShapes Go.ChangeAt Go.RowKit

theorem bulk_str {H : Type} {d : DataW H} {s : List UInt8} (h : DRel d (.str ⟨s.toArray⟩)) : s.length ≤ Rows.uptoBulk d := by
  generalize hu : AV.str ⟨s.toArray⟩ = u at h
  cases h with
  | str b =>
    injection hu with hu
    have : b = ⟨s.toArray⟩ := hu.symm
    subst this
    simp [Rows.uptoBulk]
  | bool _ => cases hu
  | int _ _ => cases hu
  | nil => cases hu
  | slice _ _ _ _ _ => cases hu
  | agg _ _ _ _ => cases hu
theorem bulk_od {H : Type} {d : DataW H} {o : Od} (h : DRel d o.av) : o.delta.length ≤ Rows.uptoBulk d := by
  generalize hu : o.av = x at h
  cases h with
  | agg ds us h1 h2 =>
    injection hu with hu
    subst hu
    obtain ⟨d1, h3⟩ := list_get (xs := ds) (i := 4) (by rw [h1]; simp)
    have g3 := bulk_str (h2 4 d1 _ h3 rfl)
    have p3 := bulk_part (List.mem_of_getElem? h3)
    simp only [Rows.uptoBulk]; omega
  | bool _ => cases hu
  | int _ _ => cases hu
  | str _ => cases hu
  | nil => cases hu
  | slice _ _ _ _ _ => cases hu
theorem bulk_ods {H : Type} : ∀ (l : List Od) (ds : List (DataW H)), ds.length = l.length → (∀ (k : Nat) (d : DataW H) (u : AV), ds[k]? = some d → (l.map Od.av)[k]? = some u → DRel d u) → sumS l ≤ 12 * Rows.uptoBulkAll ds
  | [], _, _, _ => by simp [sumS]
  | o :: l, [], h, _ => by simp at h
  | o :: l, d :: ds, h, hr => by
    have ih := bulk_ods l ds (by simpa using h) fun k d u h1 h2 => hr (k + 1) d u h1 h2
    have h1 := bulk_od (hr 0 d o.av rfl rfl)
    have h2 := bulk_pos d
    have h3 : o.size ≤ 11 + o.delta.length := by unfold Od.size; split <;> omega
    simp only [sumS, Rows.uptoBulkAll]; omega
theorem bulk_udS {H : Type} {d : DataW H} {u : Ud} (h : DRel d u.av) : sumS u.olds ≤ 12 * Rows.uptoBulk d := by
  generalize hu : u.av = x at h
  cases h with
  | agg ds us h1 h2 =>
    injection hu with hu
    subst hu
    obtain ⟨d1, h3⟩ := list_get (xs := ds) (i := 1) (by rw [h1]; simp)
    have hd := h2 1 d1 _ h3 rfl
    have p3 := bulk_part (List.mem_of_getElem? h3)
    have g3 : sumS u.olds ≤ 12 * Rows.uptoBulk d1 := by
      generalize he : odsAV u.olds = y at hd
      cases hd with
      | nil =>
        injection he with e1 e2
        have : u.olds = [] := List.map_eq_nil_iff.1 e1
        rw [this]; simp [sumS]
      | slice ds2 sp es' k1 k2 =>
        injection he with e1 e2
        subst e1
        have := bulk_ods u.olds ds2 (by simpa using k1) k2
        simp only [Rows.uptoBulk]; omega
      | bool _ => cases he
      | int _ _ => cases he
      | str _ => cases he
      | agg _ _ _ _ => cases he
    simp only [Rows.uptoBulk]; omega
  | bool _ => cases hu
  | int _ _ => cases hu
  | str _ => cases hu
  | nil => cases hu
  | slice _ _ _ _ _ => cases hu
theorem arg_ud2 {W : World} {H : Type} {enc : TypeId × Value → H} {v : Value} {d : DataW H} {p : List MemPlace} (h : DataW.Trod enc Try.prog W 0 (fun _ => true) true 44 v d p) : ∃ u : Ud, u.Ok ∧ u.olds.length ≤ Rows.uptoBulk d ∧ sumS u.olds ≤ 12 * Rows.uptoBulk d ∧ XRel W (Old0 W) (fun _ => none) u.av v := by
  obtain ⟨fuel, h⟩ := h
  obtain ⟨u, h1, h2, h3, h4⟩ := trod_dat (ρ := fun _ => none) fuel 10 44 _ _ (by kernel_rfl) h
  obtain ⟨x, hx, rfl⟩ := ud_inv h1
  exact ⟨x, hx, bulk_ud h4, bulk_udS h4, xrel_agg h3 (by simp [AV.sizeL, AV.size])⟩
end Go.Proofs.Ytbellkdglifahaa
