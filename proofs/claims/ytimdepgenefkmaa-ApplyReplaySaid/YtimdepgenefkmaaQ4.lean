import Derived.Test.YtimdepgenefkmaaQ3
import Derived.Test.YtimdepgenefkmaaA18
set_option maxRecDepth 8000
set_option linter.unusedVariables false
set_option linter.unusedSimpArgs false
namespace Go.Proofs.Ytimdepgenefkmaa
open Go Go.RowKit

def Od.old (o : Od) : Slot.Old := ⟨o.live, o.page, o.ts, o.npg, o.nsl.toNat, ⟨o.delta.toArray⟩⟩
theorem old_av (o : Od) : Slot.Old.av o.old = o.av := rfl
abbrev olds (l : List Od) : List Slot.Old := l.map Od.old
theorem olds_av (l : List Od) : (olds l).map Slot.Old.av = l.map Od.av := by rw [olds, List.map_map]; rfl
theorem undo_av (u : Ud) : Slot.undoAV u.lsn (olds u.olds) = u.av := by
  show AV.agg [_, .vsl _ _] = AV.agg [_, .vsl _ _]
  rw [olds_av, List.length_map]
theorem undo_av2 (n : Nat) (l : List Od) : Slot.undoAV n (olds l) = Ud.av ⟨n, l⟩ := undo_av ⟨n, l⟩
theorem olds_set (l : List Od) (i : Nat) (o : Od) : (olds l).set i o.old = olds (l.set i o) := by rw [olds, ← List.map_set]
theorem old_zero : Od.zero.old = Slot.Old.zero := rfl

def addU (u : Ud) (o : Od) : Ud × Int × Int :=
  let r := Slot.addP u.lsn (olds u.olds) o.old
  if r.2.2.2 = 0 then (⟨u.lsn, if r.2.2.1 = (u.olds.length : Int) then u.olds ++ [o] else u.olds.set r.2.2.1.toNat o⟩, r.2.2.1, 0) else (⟨0, []⟩, 0, r.2.2.2)
theorem addP_bad {lsn : Int} {xs : List Slot.Old} {o : Slot.Old} (h : (Slot.addP lsn xs o).2.2.2 ≠ 0) : Slot.addP lsn xs o = (0, [], 0, (Slot.addP lsn xs o).2.2.2) := by
  unfold Slot.addP at h ⊢
  split
  · rfl
  · simp only at h ⊢
    split
    · rfl
    · rename_i h1 h2
      rw [if_neg h1] at h
      simp only [if_neg h2] at h
      split at h <;> exact absurd rfl h
theorem addU_av (u : Ud) (o : Od) : Slot.addAV (Slot.addP u.lsn (olds u.olds) o.old) = .tuple [(addU u o).1.av, .int .u8 (addU u o).2.1, .int .i64 (addU u o).2.2] := by
  by_cases h : (Slot.addP u.lsn (olds u.olds) o.old).2.2.2 = 0
  · obtain ⟨ys, p, he, _, _, _, hc⟩ := Slot.add_ok h
    have hU : addU u o = (⟨u.lsn, if p = (u.olds.length : Int) then u.olds ++ [o] else u.olds.set p.toNat o⟩, p, 0) := by
      unfold addU; rw [he]; rfl
    rw [he, hU]
    have key : ys = olds (if p = (u.olds.length : Int) then u.olds ++ [o] else u.olds.set p.toNat o) := by
      rcases hc with ⟨hp, hy, _⟩ | ⟨i, hp, hd, hy, _⟩
      · rw [List.length_map] at hp
        rw [if_pos hp, hy]; simp [olds]
      · have hlt : i < (olds u.olds).length := Slot.deadAt_lt hd
        rw [List.length_map] at hlt
        rw [if_neg (by omega), hy, hp, Int.toNat_natCast, olds_set]
    rw [key]
    generalize (if p = (u.olds.length : Int) then u.olds ++ [o] else u.olds.set p.toNat o) = L
    exact congrArg (fun x => AV.tuple [x, .int .u8 p, .int .i64 0]) (undo_av2 u.lsn L)
  · have hU : addU u o = (⟨0, []⟩, 0, (Slot.addP u.lsn (olds u.olds) o.old).2.2.2) := by
      unfold addU; rw [if_neg h]
    rw [hU, addP_bad h]
    rfl
theorem args_uo {u : Ud} {o : Od} : ∀ x, x ∈ [u.av, o.av] → ∀ vs, x ≠ .tuple vs := fun x hx vs h => by
  simp only [List.mem_cons, List.not_mem_nil, or_false] at hx
  rcases hx with rfl | rfl <;> cases h
theorem addU_spec (u : Ud) (o : Od) (hl : u.olds.length ≤ 9223372036854775807) : ACall Try.prog 36 [u.av, o.av] [] (.tuple [(addU u o).1.av, .int .u8 (addU u o).2.1, .int .i64 (addU u o).2.2]) [] := by
  have h := Slot.add_spec u.lsn (olds u.olds) o.old (by rw [List.length_map]; exact hl)
  rw [undo_av, addU_av, old_av] at h
  exact h
theorem addU_ok {u : Ud} {o : Od} (hu : u.Ok) (ho : o.Ok) : (addU u o).1.Ok := by
  unfold addU
  simp only
  split
  · rename_i h
    obtain ⟨ys, p, he, hm, _, _, _⟩ := Slot.add_ok h
    have hml := (Slot.may_len hm).1
    rw [List.length_map] at hml
    refine ⟨hu.lsn, ?_, ?_⟩
    · simp only; split
      · rw [List.length_append]; simp only [List.length_singleton]; omega
      · rw [List.length_set]; omega
    · intro x hx
      simp only at hx
      split at hx
      · rcases List.mem_append.1 hx with hx | hx
        · exact hu.olds x hx
        · rw [List.mem_singleton.1 hx]; exact ho
      · rcases List.mem_or_eq_of_mem_set hx with hx | rfl
        · exact hu.olds x hx
        · exact ho
  · exact uzero_ok
def freeU (u : Ud) (k : Nat) : Ud × Int :=
  let r := Slot.freeP u.lsn (olds u.olds) k
  if r.2.2 = 0 then (⟨u.lsn, (u.olds.set k .zero).take (Slot.trimTo (olds (u.olds.set k .zero)) (u.olds.set k .zero).length)⟩, 0) else (⟨0, []⟩, r.2.2)
theorem od_zero_ok : Od.zero.Ok := ⟨by decide, by decide, by decide, by decide⟩
theorem freeU_av (u : Ud) (k : Nat) : Slot.freeAV (Slot.freeP u.lsn (olds u.olds) k) = .tuple [(freeU u k).1.av, .int .i64 (freeU u k).2] := by
  by_cases h : (Slot.getP (olds u.olds) k).2 = false ∨ Slot.may (olds u.olds) = false
  · have he : Slot.freeP u.lsn (olds u.olds) k = (0, [], 1) := by unfold Slot.freeP; rw [if_pos h]
    have hU : freeU u k = (⟨0, []⟩, 1) := by unfold freeU; rw [he]; rfl
    rw [he, hU]; rfl
  · have he : Slot.freeP u.lsn (olds u.olds) k = ((u.lsn : Int), olds ((u.olds.set k .zero).take (Slot.trimTo (olds (u.olds.set k .zero)) (u.olds.set k .zero).length)), 0) := by
      unfold Slot.freeP
      rw [if_neg h]
      simp only [Int.toNat_natCast]
      rw [← old_zero, olds_set]
      simp [olds, List.map_take]
    have hU : freeU u k = (⟨u.lsn, (u.olds.set k .zero).take (Slot.trimTo (olds (u.olds.set k .zero)) (u.olds.set k .zero).length)⟩, 0) := by unfold freeU; rw [he]; rfl
    rw [he, hU]
    generalize List.take (Slot.trimTo (olds (u.olds.set k .zero)) (u.olds.set k .zero).length) (u.olds.set k .zero) = L
    exact congrArg (fun x => AV.tuple [x, .int .i64 0]) (undo_av2 u.lsn L)
theorem freeU_spec (u : Ud) (k : Nat) (hk : k < 256) (hl : u.olds.length ≤ 9223372036854775807) : ACall Try.prog 37 [u.av, .int .u8 k] [] (.tuple [(freeU u k).1.av, .int .i64 (freeU u k).2]) [] := by
  have h := Slot.free_spec u.lsn k (olds u.olds) (by omega) (by omega) (by rw [List.length_map]; exact hl)
  rw [undo_av, freeU_av] at h
  exact h
theorem freeU_ok {u : Ud} {k : Nat} (hu : u.Ok) : (freeU u k).1.Ok := by
  unfold freeU
  simp only
  split
  · refine ⟨hu.lsn, ?_, fun x hx => ?_⟩
    · have := hu.len
      simp only [List.length_take, List.length_set]; omega
    · rcases List.mem_or_eq_of_mem_set (List.mem_of_mem_take hx) with hx | rfl
      · exact hu.olds x hx
      · exact od_zero_ok
  · exact uzero_ok
def cutU (u : Ud) (k : Nat) : Ud × Int :=
  let r := Slot.cutP u.lsn (olds u.olds) k
  if r.2.2 = 0 then (⟨u.lsn, u.olds.set k { (u.olds.getD k .zero) with npg := 0, nsl := 0 }⟩, 0) else (⟨0, []⟩, r.2.2)
theorem cutU_av (u : Ud) (k : Nat) : Slot.freeAV (Slot.cutP u.lsn (olds u.olds) k) = .tuple [(cutU u k).1.av, .int .i64 (cutU u k).2] := by
  by_cases h : (Slot.getP (olds u.olds) k).2 = false ∨ Slot.may (olds u.olds) = false
  · have he : Slot.cutP u.lsn (olds u.olds) k = (0, [], 1) := by unfold Slot.cutP; rw [if_pos h]
    have hU : cutU u k = (⟨0, []⟩, 1) := by unfold cutU; rw [he]; rfl
    rw [he, hU]; rfl
  · have hg : (Slot.getP (olds u.olds) k).1.cut = Od.old { (u.olds.getD k .zero) with npg := 0, nsl := 0 } := by
      have h2 : (Slot.getP (olds u.olds) k).2 = true := by
        cases hh : (Slot.getP (olds u.olds) k).2
        · exact absurd (.inl hh) h
        · rfl
      cases hx : u.olds[k]? with
      | none => simp [Slot.getP, olds, hx] at h2
      | some o =>
        rw [List.getD_eq_getElem?_getD, hx]
        simp only [Slot.getP, olds, Int.toNat_natCast, List.getElem?_map, hx, Option.map_some] at h2 ⊢
        cases hl : o.old.live
        · rw [hl] at h2; simp at h2
        · simp only [if_true]; rfl
    have he : Slot.cutP u.lsn (olds u.olds) k = ((u.lsn : Int), olds (u.olds.set k { (u.olds.getD k .zero) with npg := 0, nsl := 0 }), 0) := by
      unfold Slot.cutP
      rw [if_neg h, hg, Int.toNat_natCast, olds_set]
    have hU : cutU u k = (⟨u.lsn, u.olds.set k { (u.olds.getD k .zero) with npg := 0, nsl := 0 }⟩, 0) := by unfold cutU; rw [he]; rfl
    rw [he, hU]
    generalize u.olds.set k { (u.olds.getD k .zero) with npg := 0, nsl := 0 } = L
    exact congrArg (fun x => AV.tuple [x, .int .i64 0]) (undo_av2 u.lsn L)
theorem cutU_spec (u : Ud) (k : Nat) (hk : k < 256) (hl : u.olds.length ≤ 9223372036854775807) : ACall Try.prog 38 [u.av, .int .u8 k] [] (.tuple [(cutU u k).1.av, .int .i64 (cutU u k).2]) [] := by
  have h := Slot.cut_spec u.lsn k (olds u.olds) (by omega) (by omega) (by rw [List.length_map]; exact hl)
  rw [undo_av, cutU_av] at h
  exact h
theorem cutU_ok {u : Ud} {k : Nat} (hu : u.Ok) : (cutU u k).1.Ok := by
  unfold cutU
  simp only
  split
  · have hg : (u.olds.getD k .zero).Ok := by
      rw [List.getD_eq_getElem?_getD]
      cases hx : u.olds[k]? with
      | none => exact od_zero_ok
      | some o => exact hu.olds o (List.mem_of_getElem? hx)
    refine ⟨hu.lsn, by simp only [List.length_set]; exact hu.len, fun x hx => ?_⟩
    rcases List.mem_or_eq_of_mem_set hx with hx | rfl
    · exact hu.olds x hx
    · exact ⟨hg.page, hg.ts, by show (0 : Nat) < 65536; decide, hg.delta⟩
  · exact uzero_ok
end Go.Proofs.Ytimdepgenefkmaa
