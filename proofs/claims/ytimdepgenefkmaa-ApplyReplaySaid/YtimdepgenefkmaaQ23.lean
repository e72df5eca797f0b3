import Derived.Test.YtimdepgenefkmaaQ22
import Derived.Test.YtimdepgenefkmaaA19
set_option maxRecDepth 8000
set_option linter.unusedVariables false
set_option linter.unusedSimpArgs false
namespace Go.Proofs.Ytimdepgenefkmaa.Slot
open Go Go.RowKit

theorem may_app {xs : List Old} {o : Old} (hm : may xs = true) (hl : o.live = true) (hs : o.delta.size ≤ 66) : may (xs ++ [o]) = true ↔ ¬ (xs.length = 15 ∨ 224 < sizeOf' xs + 11 + o.delta.size) := by
  have h := may_iff.1 hm
  have hko : okOld o = true := by simp [okOld, hl, hs]
  have hco : o.cost = 10 + o.delta.size := by simp [Old.cost, hl]
  have hsz : sizeOf' (xs ++ [o]) = sizeOf' xs + 11 + o.delta.size := by
    simp only [sizeOf', List.map_append, List.sum_append, List.map_cons, List.map_nil, List.sum_cons, List.sum_nil, hco]; omega
  have h1 := h.1
  rw [may_iff, hsz]
  constructor
  · rintro ⟨a, _, _, d⟩
    rw [List.length_append, List.length_singleton] at a
    omega
  · intro a
    exact ⟨by rw [List.length_append, List.length_singleton]; omega, by simp [lastOk, hl], by rw [List.all_append, h.2.2.1]; simp [hko], by omega⟩
theorem lastOk_set {xs : List Old} {i : Nat} {o : Old} (h : lastOk xs = true) (hl : o.live = true) : lastOk (xs.set i o) = true := by
  unfold lastOk at h ⊢
  rw [List.length_set, List.getElem?_set]
  by_cases hi : i = xs.length - 1
  · rw [if_pos hi]
    by_cases hk : i < xs.length
    · simp [hk, hl]
    · simp [hk]
  · rw [if_neg hi]; exact h
theorem may_set {xs : List Old} {o : Old} {i : Nat} (hm : may xs = true) (hd : deadAt xs = some i) (hl : o.live = true) (hs : o.delta.size ≤ 66) : may (xs.set i o) = true ↔ ¬ (224 < sizeOf' xs + 10 + o.delta.size) := by
  have h := may_iff.1 hm
  have hko : okOld o = true := by simp [okOld, hl, hs]
  have hco : o.cost = 10 + o.delta.size := by simp [Old.cost, hl]
  obtain ⟨d, hg, hdl⟩ := deadAt_get hd
  have hdc : d.cost = 0 := by simp [Old.cost, hdl]
  have hsz := sizeOf_set o hg
  have h1 := h.1
  rw [may_iff]
  constructor
  · rintro ⟨_, _, _, d⟩
    omega
  · intro a
    refine ⟨by rw [List.length_set]; exact h1, lastOk_set h.2.1 hl, ?_, by omega⟩
    rw [List.all_eq_true]
    intro x hx
    rcases List.mem_or_eq_of_mem_set hx with hx | rfl
    · exact List.all_eq_true.1 h.2.2.1 x hx
    · exact hko
theorem add_both (lsn : Int) (xs : List Old) (o : Old) : addR lsn xs o = addP lsn xs o := by
  unfold addR addP
  by_cases hc : may xs = false ∨ o.live = false ∨ 66 < o.delta.size
  · rw [if_pos hc, if_pos hc]
  rw [if_neg hc, if_neg hc]
  have hm : may xs = true := by
    cases h : may xs
    · exact absurd (.inl h) hc
    · rfl
  have hl : o.live = true := by
    cases h : o.live
    · exact absurd (.inr (.inl h)) hc
    · rfl
  have hs : o.delta.size ≤ 66 := by
    rcases Nat.lt_or_ge 66 o.delta.size with h | h
    · exact absurd (.inr (.inr h)) hc
    · exact h
  have hnot2 : ¬ ((o.delta.size : Int) < 0 ∨ 66 < (o.delta.size : Int) ∨ may xs = false) := by simp only [hm, Bool.true_eq_false, or_false]; omega
  simp only [place, if_neg hnot2]
  cases hd : deadAt xs with
  | none =>
    have hfd : firstDead xs = xs.length := by rw [firstDead, hd]; rfl
    have hi := may_app hm hl hs
    simp only [hfd, if_true]
    by_cases hx : xs.length = 15 ∨ 224 < sizeOf' xs + 11 + o.delta.size
    · have hf : may (xs ++ [o]) = false := by
        cases hh : may (xs ++ [o])
        · rfl
        · exact absurd hx (hi.1 hh)
      have hx2 : xs.length = 15 ∨ 224 < (sizeOf' xs : Int) + 11 + (o.delta.size : Int) := by omega
      rw [if_pos hf, if_pos hx2]
      rfl
    · have ht := hi.2 hx
      have hx2 : ¬ (xs.length = 15 ∨ 224 < (sizeOf' xs : Int) + 11 + (o.delta.size : Int)) := by omega
      rw [if_neg (by rw [ht]; simp), if_neg hx2, if_neg (by omega), if_pos rfl]
  | some i =>
    have hfd : firstDead xs = i := by rw [firstDead, hd]; rfl
    have hlt := deadAt_lt hd
    have hne : ¬ (i = xs.length) := by omega
    have hi := may_set hm hd hl hs
    simp only [hfd, if_neg hne]
    by_cases hx : 224 < sizeOf' xs + 10 + o.delta.size
    · have hf : may (xs.set i o) = false := by
        cases hh : may (xs.set i o)
        · rfl
        · exact absurd hx (hi.1 hh)
      have hx2 : 224 < (sizeOf' xs : Int) + 10 + (o.delta.size : Int) := by omega
      rw [if_pos hf, if_pos hx2]
      rfl
    · have ht := hi.2 hx
      have hx2 : ¬ (224 < (sizeOf' xs : Int) + 10 + (o.delta.size : Int)) := by omega
      rw [if_neg (by rw [ht]; simp), if_neg hx2, if_neg (by omega), if_neg (by omega), Int.toNat_natCast]
end Go.Proofs.Ytimdepgenefkmaa.Slot
namespace Go.Proofs.Ytimdepgenefkmaa
open Go Go.RowKit

theorem od_same (o : Od) : o.old.same .zero = o.eqb .zero := by
  rw [Bool.eq_iff_iff, Slot.same_iff, Od.eqb_iff]
  constructor
  · intro h
    obtain ⟨a, b, c, d, e, f⟩ := o
    have h : (⟨a, (b : Int), (c : Int), (d : Int), (e.toNat : Int), ⟨f.toArray⟩⟩ : Slot.Old) = ⟨false, 0, 0, 0, 0, ⟨#[]⟩⟩ := h
    simp only [Slot.Old.mk.injEq] at h
    obtain ⟨h1, h2, h3, h4, h5, h6⟩ := h
    have h7 := congrArg (fun x => x.data.toList) h6
    simp only at h7
    show (⟨a, b, c, d, e, f⟩ : Od) = ⟨false, 0, 0, 0, 0, []⟩
    have h8 : e = 0 := UInt8.toNat_inj.1 (by show e.toNat = 0; omega)
    subst h8 h1
    obtain rfl : b = 0 := by omega
    obtain rfl : c = 0 := by omega
    obtain rfl : d = 0 := by omega
    simpa using h7
  · rintro rfl; rfl
theorem od_fit (o : Od) : Slot.okOld o.old = o.fit := by
  have : o.old.delta.size = o.delta.length := str_bytes _
  unfold Slot.okOld Od.fit
  rw [od_same, this]; rfl
theorem od_cost (o : Od) : 1 + o.old.cost = o.size := by
  have h : o.old.delta.size = o.delta.length := str_bytes _
  unfold Slot.Old.cost Od.size
  rw [h]
  show 1 + (if o.live then _ else _) = _
  split <;> omega
theorem olds_sum (l : List Od) : Slot.sizeOf' (olds l) = 16 + sumS l := by
  unfold Slot.sizeOf'
  congr 1
  induction l with
  | nil => rfl
  | cons o l ih =>
    simp only [olds, List.map_cons, List.sum_cons] at ih ⊢
    rw [ih, od_cost]; rfl
theorem olds_last (l : List Od) : Slot.lastOk (olds l) = lastLive l := by
  unfold Slot.lastOk lastLive
  rw [List.getLast?_eq_getElem?, olds, List.length_map, List.getElem?_map]
  cases l[l.length - 1]? <;> rfl
theorem may_olds (n : Nat) (l : List Od) : Slot.may (olds l) = mayP ⟨n, l⟩ := by
  unfold Slot.may mayP
  rw [olds_sum, olds_last]
  have h1 : (olds l).all Slot.okOld = l.all Od.fit := by
    rw [olds, List.all_map]
    congr 1
    funext o; exact od_fit o
  rw [h1, olds, List.length_map]
theorem add_may {u : Ud} {o : Od} {n : Nat} (h : (addU u o).2.2 = 0) : mayP ⟨n, (addU u o).1.olds⟩ = true := by
  rw [← may_olds]
  unfold addU at h ⊢
  by_cases hc : (Slot.addP u.lsn (olds u.olds) o.old).2.2.2 = 0
  · obtain ⟨ys, p, he, hm, _⟩ := Slot.keep_add hc
    obtain ⟨ys', p', he', _, _, _, hcs⟩ := Slot.add_ok hc
    rw [he] at he'; cases he'
    simp only [he, if_true] at h ⊢
    have key : ys = olds (if p = (u.olds.length : Int) then u.olds ++ [o] else u.olds.set p.toNat o) := by
      rcases hcs with ⟨hp, hy, _⟩ | ⟨i, hp, hd, hy, _⟩
      · rw [List.length_map] at hp
        rw [if_pos hp, hy]; simp [olds]
      · have hlt : i < (olds u.olds).length := Slot.deadAt_lt hd
        rw [List.length_map] at hlt
        rw [if_neg (by omega), hy, hp, Int.toNat_natCast, olds_set]
    rw [← key]; exact hm
  · simp only [if_neg hc] at h; exact absurd h hc
theorem free_may {u : Ud} {k n : Nat} (h : (freeU u k).2 = 0) : mayP ⟨n, (freeU u k).1.olds⟩ = true := by
  rw [← may_olds]
  unfold freeU at h ⊢
  by_cases hc : (Slot.freeP u.lsn (olds u.olds) k).2.2 = 0
  · obtain ⟨ys, he, hm, _⟩ := Slot.keep_free (by omega) hc
    simp only [if_pos hc]
    have hc2 : ¬ ((Slot.getP (olds u.olds) k).2 = false ∨ Slot.may (olds u.olds) = false) := fun hb => by
      unfold Slot.freeP at hc
      rw [if_pos hb] at hc; cases hc
    unfold Slot.freeP at he
    rw [if_neg hc2] at he
    simp only [Int.toNat_natCast, Prod.mk.injEq, true_and, and_true] at he
    rw [← old_zero, olds_set] at he
    rw [← he] at hm
    rw [olds, List.map_take]
    simpa [olds] using hm
  · simp only [if_neg hc] at h; exact absurd h hc
theorem cut_may {u : Ud} {k n : Nat} (h : (cutU u k).2 = 0) : mayP ⟨n, (cutU u k).1.olds⟩ = true := by
  rw [← may_olds]
  have hav := cutU_av u k
  have hcd : (Slot.cutP u.lsn (olds u.olds) k).2.2 = 0 := by
    unfold cutU at h
    by_cases hc : (Slot.cutP u.lsn (olds u.olds) k).2.2 = 0
    · exact hc
    · simp only [if_neg hc] at h; exact absurd h hc
  obtain ⟨ys, he, hm, _⟩ := Slot.keep_cut (by omega) hcd
  rw [he, h] at hav
  have hav : AV.tuple [Slot.undoAV u.lsn ys, .int .i64 0] = .tuple [(cutU u k).1.av, .int .i64 0] := hav
  rw [← undo_av] at hav
  simp only [AV.tuple.injEq, List.cons.injEq, AV.agg.injEq, AV.vsl.injEq, and_true] at hav
  obtain ⟨_, h2, _⟩ := hav
  have hy : ys = olds (cutU u k).1.olds := by
    refine (List.map_inj_right (fun x y hxy => ?_)).1 h2
    obtain ⟨a, b, c, d, e, f⟩ := x
    obtain ⟨a', b', c', d', e', f'⟩ := y
    simp only [AV.agg.injEq, List.cons.injEq, AV.bool.injEq, AV.int.injEq, AV.str.injEq, true_and, and_true] at hxy
    obtain ⟨h1, h2, h3, ⟨h4, h5⟩, h6⟩ := hxy
    rw [h1, h2, h3, h4, h5, h6]
  rw [← hy]; exact hm
theorem step_may {u v : Ud} {r : Rc} {n : Nat} (hu : mayP u = true) (h : stepU u r = some v) : mayP ⟨n, v.olds⟩ = true := by
  unfold stepU at h
  split at h
  · split at h
    · rename_i hc; cases h; exact add_may hc.1
    · cases h
  split at h
  · split at h
    · rename_i hc; cases h; exact free_may hc
    · cases h
  split at h
  · split at h
    · rename_i hc; cases h; exact cut_may hc
    · cases h
  · cases h; exact hu
end Go.Proofs.Ytimdepgenefkmaa
