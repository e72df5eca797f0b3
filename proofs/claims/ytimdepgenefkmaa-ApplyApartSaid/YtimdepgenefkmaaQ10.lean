/- Laws of replaying. -/
import Derived.Test.YtimdepgenefkmaaQ9
set_option maxRecDepth 8000
set_option linter.unusedVariables false
set_option linter.unusedSimpArgs false
namespace Go.Proofs.Ytimdepgenefkmaa
open Go Go.RowKit

theorem lsnOf_put {no : Nat} (hno : no < 65536) {d : Dt} (hd : d.Ok) : lsnOf (putData no d) = d.lsn := by
  have h := (dt_back hno hd).1
  have h2 : (dtOf (putData no d)).lsn = lsnOf (putData no d) := rfl
  rw [← h2, h]
theorem redo_good {uu : Bool} {no : Nat} (hno : no < 65536) {p : List UInt8} (hp : p.length = 224) {e : En} (he : e.Ok) (h : (redoP uu no p e).2 = 0) : rightP uu no (redoP uu no p e).1 = true ∧ lsnOf (redoP uu no p e).1 = e.lsn := by
  have hI : (if e.rc.kind = 1 then e.rc.image else p).length = 224 := by split; exact he.rc.image; exact hp
  have data : ∀ d : Dt, d.Ok → rightP false no (putData no d) = true ∧ lsnOf (putData no d) = d.lsn := fun d hd => by
    refine ⟨?_, lsnOf_put hno hd⟩
    unfold rightP
    rw [if_neg Bool.false_ne_true]; exact (dt_back hno hd).2
  unfold redoP at h ⊢
  obtain ⟨q, hq⟩ : ∃ q, (if e.rc.kind = 1 then e.rc.image else p) = q := ⟨_, rfl⟩
  rw [hq] at hI h ⊢
  by_cases c1 : mayR e.rc = false ∨ e.rc.kind = 6 ∨ ¬ (e.rc.undo = uu ∧ e.rc.no = no)
  · rw [if_pos c1] at h; exact absurd h (by decide)
  rw [if_neg c1] at h ⊢
  cases uu
  · rw [if_neg Bool.false_ne_true] at h ⊢
    by_cases c2 : (getData no q).2 = false
    · rw [if_pos c2] at h; exact absurd h (by decide)
    rw [if_neg c2] at h ⊢
    by_cases c3 : e.rc.kind = 2
    · rw [if_pos c3] at h ⊢
      by_cases c4 : (dApplyR (getData no p).1.body e.rc.delta).2 = 0
      · rw [if_pos c4]
        exact data _ ⟨he.lsn, he.rc.ts, he.rc.ppg, dApplyR_len (getData_dt hp).body⟩
      · rw [if_neg c4] at h; exact absurd h (by decide)
    · rw [if_neg c3]
      have hd := getData_dt (no := no) hI
      exact data _ ⟨he.lsn, hd.ts, hd.pg, hd.body⟩
  · rw [if_pos rfl] at h ⊢
    unfold undoP at h ⊢
    cases hg : getUndo no q with
    | none => rw [hg] at h; exact absurd h (show ¬ ((2 : Int) = 0) by decide)
    | some u =>
      rw [hg] at h
      simp only at h ⊢
      cases hs : stepU u e.rc with
      | none => rw [hs] at h; exact absurd h (show ¬ ((2 : Int) = 0) by decide)
      | some v =>
        rw [hs] at h
        simp only at h ⊢
        have hv := stepU_ok (getUndo_ok hI hg).1 he.rc hs
        have hw : Ud.Ok ⟨e.lsn, v.olds⟩ := ⟨he.lsn, hv.len, hv.olds⟩
        cases hm : mayP ⟨e.lsn, v.olds⟩
        · rw [hm] at h; exact absurd h (by decide)
        have hb := getUndo_put hno hw hm
        refine ⟨?_, ?_⟩
        · unfold rightP; rw [if_pos rfl, hb]; rfl
        · exact (getUndo_ok putUndo_len hb).2.2.symm
theorem replay_append (uu : Bool) (no : Nat) (p : List UInt8) (a b : List En) : replayP uu no p (a ++ b) = replayP uu no (replayP uu no p a) b := by rw [replayP, List.foldl_append]; rfl
theorem replay_fix {uu : Bool} {no : Nat} {p : List UInt8} : ∀ {l : List En}, (∀ e, e ∈ l → stepR uu no p e = p) → replayP uu no p l = p
  | [], _ => rfl
  | e :: l, h => by
    show replayP uu no (stepR uu no p e) l = p
    rw [h e (List.mem_cons_self ..)]
    exact replay_fix fun x hx => h x (List.mem_cons_of_mem _ hx)
theorem stepR_two (uu : Bool) (no : Nat) (p : List UInt8) (e : En) : stepR uu no p e = p ∨ stepR uu no p e = appR uu no p e := by
  unfold stepR
  repeat' split
  all_goals first | exact .inl rfl | exact .inr rfl
/-- What was gone over is gone over again without a change, where the numbers do not fall. -/
theorem replay_idem {uu : Bool} {no : Nat} (hno : no < 65536) {p : List UInt8} (hp : p.length = 224) : ∀ (k : Nat) (l : List En), l.length = k → (∀ e, e ∈ l → e.Ok) → l.Pairwise (fun a b => a.lsn ≤ b.lsn) → ∀ e, e ∈ l → stepR uu no (replayP uu no p l) e = replayP uu no p l
  | 0, l, hk, _, _, e, he => by
    rw [List.length_eq_zero_iff.1 hk] at he; cases he
  | k + 1, l, hk, hl, hs, e, he => by
    obtain ⟨m, x, rfl⟩ : ∃ m x, l = m ++ [x] := by
      have hne : l ≠ [] := fun h => by rw [h] at hk; cases hk
      exact ⟨l.dropLast, l.getLast hne, (List.dropLast_concat_getLast hne).symm⟩
    have hm : m.length = k := by simpa using hk
    have hlm : ∀ e, e ∈ m → e.Ok := fun y hy => hl y (List.mem_append_left _ hy)
    have hxo : x.Ok := hl x (by simp)
    have hsm := (List.pairwise_append.1 hs).1
    have hsx : ∀ y, y ∈ m → y.lsn ≤ x.lsn := fun y hy => (List.pairwise_append.1 hs).2.2 y hy x (by simp)
    have ih := replay_idem (uu := uu) hno hp k m hm hlm hsm
    have hql : (replayP uu no p m).length = 224 := replay_len hp hlm
    rw [replay_append]
    show stepR uu no (stepR uu no (replayP uu no p m) x) e = stepR uu no (replayP uu no p m) x
    obtain ⟨q, hq⟩ : ∃ q, replayP uu no p m = q := ⟨_, rfl⟩
    rw [hq] at ih hql ⊢
    by_cases hr : stepR uu no q x = q
    · rw [hr]
      rcases List.mem_append.1 he with he | he
      · exact ih e he
      · rw [List.mem_singleton.1 he]; exact hr
    · have hgd : rightP uu no (stepR uu no q x) = true ∧ lsnOf (stepR uu no q x) = x.lsn := by
        have hap : stepR uu no q x = appR uu no q x := (stepR_two uu no q x).resolve_left hr
        rw [hap] at hr ⊢
        unfold appR at hr ⊢
        split at hr
        · rename_i h0
          rw [if_pos h0]
          exact redo_good hno hql hxo h0
        · exact absurd rfl hr
      obtain ⟨r, hr2⟩ : ∃ r, stepR uu no q x = r := ⟨_, rfl⟩
      rw [hr2] at hgd ⊢
      have hle : e.lsn ≤ lsnOf r := by
        rw [hgd.2]
        rcases List.mem_append.1 he with he | he
        · exact hsx e he
        · rw [List.mem_singleton.1 he]; exact Nat.le_refl _
      unfold stepR
      split
      · rfl
      · simp only [hgd.1, hle, if_true]
theorem replay_twice {uu : Bool} {no : Nat} (hno : no < 65536) {p : List UInt8} (hp : p.length = 224) {l : List En} (hl : ∀ e, e ∈ l → e.Ok) (hs : l.Pairwise (fun a b => a.lsn ≤ b.lsn)) (k : Nat) : replayP uu no (replayP uu no p (l.take k)) l = replayP uu no p l := by
  have h := replay_idem (uu := uu) hno hp _ (l.take k) rfl (fun e he => hl e (List.mem_of_mem_take he)) (hs.sublist (List.take_sublist _ _))
  conv => lhs; rw [← List.take_append_drop k l]
  conv => rhs; rw [← List.take_append_drop k l]
  rw [replay_append, replay_append]
  have hT : (List.take k l ++ List.drop k l).take k = l.take k := by rw [List.take_append_drop]
  rw [hT, replay_fix h]
theorem fewL_rise : ∀ (i : Nat) (l : List En), (fewL i l).Pairwise (fun a b => a.lsn ≤ b.lsn) ∧ ∀ e, e ∈ fewL i l → i < e.lsn
  | _, [] => ⟨.nil, fun e h => by cases h⟩
  | i, x :: r => by
    obtain ⟨h1, h2⟩ := fewL_rise (i + 1) r
    refine ⟨.cons (fun e he => ?_) h1, fun e he => ?_⟩
    · have := h2 e he
      show i + 1 ≤ e.lsn; omega
    · rcases List.mem_cons.1 he with rfl | he
      · show i < i + 1; omega
      · have := h2 e he; omega
end Go.Proofs.Ytimdepgenefkmaa
