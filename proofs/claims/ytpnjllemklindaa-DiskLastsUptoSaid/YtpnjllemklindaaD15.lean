/- Disks in the loops of laws: their names are taken back. -/
import Derived.Test.YtpnjllemklindaaD13
set_option linter.unusedVariables false
set_option linter.unusedSimpArgs false
namespace Go.Proofs.Ytpnjllemklindaa
open Go Go.RowKit

section
variable {π : Nat → Nat} {S : Nat → Prop}
mutual
theorem AV.ren_fix (h : ∀ n, S n → π n = n) : ∀ {v : AV}, AV.on S v → AV.ren π v = v
  | .ptr n _ _, hv => by simp only [AV.ren]; rw [h n hv]
  | .sl n _ _ _ _ _ _, hv => by simp only [AV.ren]; rw [h n hv]
  | .mapv n, hv => by simp only [AV.ren]; rw [h n hv]
  | .vptr r _ _, hv => by simp only [AV.ren, AV.ren_fix h (v := r) hv]
  | .vsl es _, hv => by simp only [AV.ren, AV.renL_fix h (vs := es) hv]
  | .func _ cs, hv => by simp only [AV.ren, AV.renL_fix h (vs := cs) hv]
  | .iface _ v, hv => by simp only [AV.ren, AV.ren_fix h (v := v) hv]
  | .agg vs, hv => by simp only [AV.ren, AV.renL_fix h (vs := vs) hv]
  | .tuple vs, hv => by simp only [AV.ren, AV.renL_fix h (vs := vs) hv]
  | .undef, _ | .bool _, _ | .int _ _, _ | .str _, _ | .nilptr, _ | .nilsl, _ | .nilmap, _ | .nilfunc, _ | .niliface, _ => rfl
theorem AV.renL_fix (h : ∀ n, S n → π n = n) : ∀ {vs : List AV}, AV.onL S vs → AV.renL π vs = vs
  | [], _ => rfl
  | v :: vs, hv => by simp only [AV.renL, AV.ren_fix h (v := v) hv.1, AV.renL_fix h (vs := vs) hv.2]
end
def onTL (S : Nat → Prop) (t : Env) : Prop := ∀ e, e ∈ t → AV.on S e.2
def onHL (S : Nat → Prop) (H : Heap) : Prop := ∀ e, e ∈ H → S e.1 ∧ e.2.on S
theorem onTL.onT {t : Env} (h : onTL S t) : onT S t := by
  intro d v hv
  induction t with
  | nil => simp [look] at hv
  | cons x r ih =>
    obtain ⟨k, u⟩ := x
    simp only [look] at hv
    split at hv
    · cases hv; exact h (k, v) (by simp)
    · exact ih (fun e he => h e (by simp [he])) hv
theorem onHL.onH {H : Heap} (h : onHL S H) : onH S H := by
  intro d v hv
  induction H with
  | nil => simp [Heap.get] at hv
  | cons x r ih =>
    obtain ⟨k, u⟩ := x
    simp only [Heap.get] at hv
    split at hv
    · rename_i hd; cases hv; subst hd; exact h (_, v) (by simp)
    · exact ih (fun e he => h e (by simp [he])) hv
theorem Env.ren_fix (h : ∀ n, S n → π n = n) {t : Env} (ht : onTL S t) : t.ren π = t := by
  unfold Env.ren
  conv => rhs; rw [← List.map_id t]
  apply List.map_congr_left
  rintro ⟨k, v⟩ hx
  simp only [id, AV.ren_fix h (ht (k, v) hx)]
theorem Heap.ren_fix (h : ∀ n, S n → π n = n) {H : Heap} (hH : onHL S H) : H.ren π = H := by
  unfold Heap.ren
  conv => rhs; rw [← List.map_id H]
  apply List.map_congr_left
  rintro ⟨k, b⟩ hx
  obtain ⟨h1, h2⟩ := hH (k, b) hx
  simp only [id]
  rw [h k h1]
  congr 1
  cases b with
  | cells v => simp only [ABlk.ren]; rw [AV.ren_fix h h2]
  | map es =>
    simp only [ABlk.ren]
    congr 1
    conv => rhs; rw [← List.map_id es]
    apply List.map_congr_left
    intro x hx
    simp only [id]
    rw [AV.ren_fix h (h2 x hx).1, AV.ren_fix h (h2 x hx).2]
  | raw _ _ => rfl
end
theorem onTL_nil {S : Nat → Prop} : onTL S [] := fun e h => by simp at h
theorem onTL_cons {S : Nat → Prop} {d : Nat} {v : AV} {t : Env} (h : AV.on S v) (ht : onTL S t) : onTL S ((d, v) :: t) := fun e he => by
  rcases List.mem_cons.1 he with rfl | he
  · exact h
  · exact ht e he
theorem onHL_nil {S : Nat → Prop} : onHL S [] := fun e h => by simp at h
theorem onHL_cons {S : Nat → Prop} {d : Nat} {b : ABlk} {t : Heap} (h1 : S d) (h : b.on S) (ht : onHL S t) : onHL S ((d, b) :: t) := fun e he => by
  rcases List.mem_cons.1 he with rfl | he
  · exact ⟨h1, h⟩
  · exact ht e he
def renD (s q m n : Nat) : Nat := if n = s then 102 else if n = q then 103 else if n = m then 104 else n
theorem diskG_on {d : DS} {a b s q m : Nat} {S : Nat → Prop} (ha : S a) (hb : S b) (hs : S s) (hq : S q) (hm : S m) : onH S (diskG d a b s q m) := by
  intro n c h
  have hn := get_map h
  refine ⟨by rcases names_diskG.1 hn with rfl | rfl | rfl | ⟨rfl, _⟩ | ⟨rfl, _⟩ <;> assumption, ?_⟩
  have key : ∀ e, e ∈ diskG d a b s q m → e.2.on S := by
    intro e he
    simp only [diskG, List.mem_cons, List.mem_append] at he
    rcases he with rfl | rfl | rfl | he | he
    · exact ⟨trivial, hb, hs, on_pendV fun _ => hm, by cases d.fails <;> first | trivial | exact hq, trivial, trivial, trivial, trivial⟩
    · exact on_mapW _ _
    · exact on_mapW _ _
    · cases hf : d.fails with
      | none => rw [hf] at he; simp [failB] at he
      | some l => rw [hf] at he; simp only [failB, List.mem_singleton] at he; subst he; exact on_mapF _ _
    · cases hp : d.pend with
      | nil => rw [hp] at he; simp [pendB] at he
      | cons w r => rw [hp] at he; simp only [pendB, List.mem_singleton] at he; subst he; exact on_wr _ _
  have : ∀ H : Heap, Heap.get H n = some c → (n, c) ∈ H := by
    intro H
    induction H with
    | nil => intro h; simp [Heap.get] at h
    | cons x r ih =>
      obtain ⟨k, u⟩ := x
      intro h
      simp only [Heap.get] at h
      split at h
      · rename_i e; cases h; subst e; simp
      · exact List.mem_cons_of_mem _ (ih h)
  exact key _ (this _ h)
theorem Wk.disk {n nx : Nat} {t : Env} {X : Heap} {d : DS} {s q m : Nat} (hnd : s ≠ q ∧ s ≠ m ∧ q ≠ m) (hge : 102 ≤ s ∧ 102 ≤ q ∧ 102 ≤ m) (ht : onTL (fun k => k < 102) t) (hX : onHL (fun k => k < 100) X) :
    Wk ⟨n, t, diskG d 100 101 s q m ++ X, nx⟩ ⟨n, t, diskG d 100 101 102 103 104 ++ X, 105⟩ := by
  have hlow : ∀ k, k < 102 → renD s q m k = k := fun k hk => by unfold renD; rw [if_neg (by omega), if_neg (by omega), if_neg (by omega)]
  have r1 : renD s q m s = 102 := by unfold renD; rw [if_pos rfl]
  have r2 : renD s q m q = 103 := by unfold renD; rw [if_neg (Ne.symm hnd.1), if_pos rfl]
  have r3 : renD s q m m = 104 := by unfold renD; rw [if_neg (Ne.symm hnd.2.1), if_neg (Ne.symm hnd.2.2), if_pos rfl]
  have h := Wk.ren (n := n) (nx := nx) (K := 105) (t := t) (H := diskG d 100 101 s q m ++ X) (renD s q m) [100, 101, s, q, m] (fun k hk => hlow k (by omega)) (fun k hk _ => ?_) (by omega) (fun a b ha hb hab => ?_) (fun k v hv => ?_) (fun k c hc => ?_)
  · have e : Heap.ren (renD s q m) (diskG d 100 101 s q m ++ X) = diskG d 100 101 102 103 104 ++ X := by
      have e1 : ∀ x y : Heap, Heap.ren (renD s q m) (x ++ y) = Heap.ren (renD s q m) x ++ Heap.ren (renD s q m) y := fun x y => by simp [Heap.ren]
      rw [e1, ren_disk, Heap.ren_fix (S := fun k => k < 100) (fun k hk => hlow k (by omega)) hX, hlow 100 (by omega), hlow 101 (by omega), r1, r2, r3]
    rw [Env.ren_fix (S := fun k => k < 102) hlow ht, e] at h
    exact h
  · simp only [List.mem_cons, List.not_mem_nil, or_false] at hk
    rcases hk with rfl | rfl | rfl | rfl | rfl
    · rw [hlow 100 (by omega)]; omega
    · rw [hlow 101 (by omega)]; omega
    · rw [r1]; omega
    · rw [r2]; omega
    · rw [r3]; omega
  · simp only [List.mem_cons, List.not_mem_nil, or_false] at ha hb
    have g1 := hlow 100 (by omega)
    have g2 := hlow 101 (by omega)
    rcases ha with rfl | rfl | rfl | rfl | rfl <;> rcases hb with rfl | rfl | rfl | rfl | rfl <;> simp only [g1, g2, r1, r2, r3] at hab <;> first | rfl | omega
  · exact on_mono (fun j hj => by
      have hj : j < 102 := hj
      by_cases h1 : j < 100
      · exact .inr h1
      · left
        have : j = 100 ∨ j = 101 := by omega
        rcases this with rfl | rfl <;> simp) (ht.onT k v hv)
  · rw [get_append] at hc
    cases hg : Heap.get (diskG d 100 101 s q m) k with
    | some x =>
      rw [hg] at hc; cases hc
      exact diskG_on (S := fun k => k ∈ [100, 101, s, q, m] ∨ k < 100) (.inl (by simp)) (.inl (by simp)) (.inl (by simp)) (.inl (by simp)) (.inl (by simp)) k _ hg
    | none =>
      rw [hg] at hc
      obtain ⟨h1, h2⟩ := hX.onH k c hc
      refine ⟨.inr h1, ?_⟩
      cases c with
      | cells v => exact on_mono (fun j hj => .inr hj) h2
      | map es => exact fun x hx => ⟨on_mono (fun j hj => .inr hj) (h2 x hx).1, on_mono (fun j hj => .inr hj) (h2 x hx).2⟩
      | raw _ _ => trivial
theorem do_at {a b s q m x : Nat} (h6 : Six a b s q m x) (d : DS) (hd : d.Ok) (ho : d.ops < 1000000) (hp : d.pend.length + 4 ≤ 1000000) (o : DOp) (hk : o.Ok) : ACall Try.prog 22 [.ptr a 0 [], o.av] (diskG d a b s q m) (readAV (d.doP o)) (diskG (d.doP o).2.2 a b (if o.kind = 4 then x else s) (if o.kind = 3 then x else q) (if o.kind = 1 ∧ (d.writeP o.block (filL o.byte 256)).2.pend ≠ d.pend then x else m)) := by
  have h := ACall.disk a b s q m x h6.nd (args := [o.av]) (do_spec d hd ho hp o hk) ⟨on_op _ _, trivial⟩ ⟨on_bytes _ _, trivial, trivial⟩
  have e1 : permN [a, b, s, q, m, x] (d.doS o) = if o.kind = 4 then x else s := by unfold DS.doS; split <;> rfl
  have e2 : permN [a, b, s, q, m, x] (d.doQ o) = if o.kind = 3 then x else q := by unfold DS.doQ; split <;> rfl
  have e3 : permN [a, b, s, q, m, x] (d.doM o) = if o.kind = 1 ∧ (d.writeP o.block (filL o.byte 256)).2.pend ≠ d.pend then x else m := by unfold DS.doM; split <;> rfl
  rw [e1, e2, e3] at h
  exact h
theorem doP_fails {d : DS} {o : DOp} (h : o.kind ≠ 3) (h4 : o.kind ≠ 4) : (d.doP o).2.2.fails = d.fails := by
  unfold DS.doP
  split
  · exact (readP_same _).1
  · split
    · exact writeP_fails _ _ _
    · split
      · exact syncP_fails _
      · rfl
theorem opP_fuse {d : DS} (hf : d.fuse = 0) (hd : d.down = false) : d.opP.2.down = false ∧ d.opP.2.fuse = 0 := by
  have h := opP_same d
  refine ⟨?_, h.2.2.2.2.2.1.trans hf⟩
  unfold DS.opP
  rw [if_neg (by rw [hf]; omega)]
  split <;> exact hd
/-- A call changes no more than this. -/
theorem doP_ok {d : DS} (hd : d.Ok) (ho : d.ops < 1000000) (hp : d.pend.length + 4 ≤ 1000000) {o : DOp} (hk : o.Ok) : (d.doP o).2.2.Ok ∧ (d.doP o).2.2.n = d.n ∧ (d.doP o).2.2.ops ≤ d.ops + 1 ∧ (d.doP o).2.2.pend.length ≤ d.pend.length + 4 := by
  have hop := opP_ok hd ho
  obtain ⟨q1, q2, q3, q4, q5, q6, q7⟩ := opP_same d
  unfold DS.doP
  split
  · unfold DS.readP
    split
    · exact ⟨hd, rfl, Nat.le_succ _, Nat.le_add_right _ _⟩
    · split
      · exact ⟨hd, rfl, Nat.le_succ _, Nat.le_add_right _ _⟩
      · split <;> exact ⟨hop, q1, by show d.opP.2.ops ≤ _; omega, by show d.opP.2.pend.length ≤ _; rw [q4]; omega⟩
  · split
    · unfold DS.writeP
      split
      · exact ⟨hd, rfl, Nat.le_succ _, Nat.le_add_right _ _⟩
      · split
        · exact ⟨hd, rfl, Nat.le_succ _, Nat.le_add_right _ _⟩
        · rename_i hb
          split
          · exact ⟨hop, q1, by show d.opP.2.ops ≤ _; omega, by show d.opP.2.pend.length ≤ _; rw [q4]; omega⟩
          · refine ⟨wr_ok hop (by omega) (filL_len _ _) 4 (by omega) (by rw [q4]; omega), q1, by show d.opP.2.ops ≤ _; omega, ?_⟩
            show (wrPN d.opP.2.pend _ _ 4).length ≤ _
            rw [wrPN_len, q4]; omega
    · split
      · unfold DS.syncP
        split
        · exact ⟨hd, rfl, Nat.le_succ _, Nat.le_add_right _ _⟩
        · split
          · exact ⟨hop, q1, by show d.opP.2.ops ≤ _; omega, by show d.opP.2.pend.length ≤ _; rw [q4]; omega⟩
          · exact ⟨settle_ok hop _ _, q1, by show d.opP.2.ops ≤ _; omega, by show (0 : Nat) ≤ _; omega⟩
      · split
        · exact ⟨plan_ok hd hk.fails _, rfl, by show (0 : Nat) ≤ _; omega, by show d.pend.length ≤ _; omega⟩
        · split
          · exact ⟨crash_ok hd _, rfl, by show (0 : Nat) ≤ _; omega, by show (0 : Nat) ≤ _; omega⟩
          · exact ⟨hd, rfl, Nat.le_succ _, Nat.le_add_right _ _⟩
end Go.Proofs.Ytpnjllemklindaa
