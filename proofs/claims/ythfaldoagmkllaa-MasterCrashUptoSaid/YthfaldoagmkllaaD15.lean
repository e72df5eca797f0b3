/- Disks in the loops of laws: their names are taken back. -/
import Derived.Test.YthfaldoagmkllaaD11
import Derived.Test.YthfaldoagmkllaaF40
set_option linter.unusedVariables false
set_option linter.unusedSimpArgs false
namespace Go.Proofs.Ythfaldoagmkllaa
open Go Go.RowKit

theorem diskG_on {d : DS} {a b s q m : Nat} {S : Nat → Prop} (ha : S a) (hb : S b) (hs : S s) (hq : S q) (hm : S m) : onH S (diskG d a b s q m) := by
  intro n c h
  have hn := get_map h
  refine ⟨by rcases names_diskG.1 hn with rfl | rfl | rfl | ⟨rfl, _⟩ | ⟨rfl, _⟩ <;> assumption, ?_⟩
  have key : ∀ e, e ∈ diskG d a b s q m → e.2.on S := by
    intro e he
    simp only [diskG, List.mem_cons, List.mem_append] at he
    rcases he with rfl | rfl | rfl | he | he
    · exact ⟨trivial, hb, hs, on_pendV fun _ => hm, by cases d.fails <;> first | trivial | exact hq, trivial, trivial, trivial, trivial⟩
    · exact on_mapW _ _
    · exact on_mapW _ _
    · cases hf : d.fails with
      | none => rw [hf] at he; simp [failB] at he
      | some l => rw [hf] at he; simp only [failB, List.mem_singleton] at he; subst he; exact on_mapF _ _
    · cases hp : d.pend with
      | nil => rw [hp] at he; simp [pendB] at he
      | cons w r => rw [hp] at he; simp only [pendB, List.mem_singleton] at he; subst he; exact on_wr _ _
  have : ∀ H : Heap, Heap.get H n = some c → (n, c) ∈ H := by
    intro H
    induction H with
    | nil => intro h; simp [Heap.get] at h
    | cons x r ih =>
      obtain ⟨k, u⟩ := x
      intro h
      simp only [Heap.get] at h
      split at h
      · rename_i e; cases h; subst e; simp
      · exact List.mem_cons_of_mem _ (ih h)
  exact key _ (this _ h)
theorem Wk.disk {n nx : Nat} {t : Env} {X : Heap} {d : DS} {s q m : Nat} (hnd : s ≠ q ∧ s ≠ m ∧ q ≠ m) (hge : 102 ≤ s ∧ 102 ≤ q ∧ 102 ≤ m) (ht : onTL (fun k => k < 102) t) (hX : onHL (fun k => k < 100) X) :
    Wk ⟨n, t, diskG d 100 101 s q m ++ X, nx⟩ ⟨n, t, diskG d 100 101 102 103 104 ++ X, 105⟩ := by
  have hlow : ∀ k, k < 102 → renD s q m k = k := fun k hk => by unfold renD; rw [if_neg (by omega), if_neg (by omega), if_neg (by omega)]
  have r1 : renD s q m s = 102 := by unfold renD; rw [if_pos rfl]
  have r2 : renD s q m q = 103 := by unfold renD; rw [if_neg (Ne.symm hnd.1), if_pos rfl]
  have r3 : renD s q m m = 104 := by unfold renD; rw [if_neg (Ne.symm hnd.2.1), if_neg (Ne.symm hnd.2.2), if_pos rfl]
  have h := Wk.ren (n := n) (nx := nx) (K := 105) (t := t) (H := diskG d 100 101 s q m ++ X) (renD s q m) [100, 101, s, q, m] (fun k hk => hlow k (by omega)) (fun k hk _ => ?_) (by omega) (fun a b ha hb hab => ?_) (fun k v hv => ?_) (fun k c hc => ?_)
  · have e : Heap.ren (renD s q m) (diskG d 100 101 s q m ++ X) = diskG d 100 101 102 103 104 ++ X := by
      have e1 : ∀ x y : Heap, Heap.ren (renD s q m) (x ++ y) = Heap.ren (renD s q m) x ++ Heap.ren (renD s q m) y := fun x y => by simp [Heap.ren]
      rw [e1, ren_disk, Heap.ren_fix (S := fun k => k < 100) (fun k hk => hlow k (by omega)) hX, hlow 100 (by omega), hlow 101 (by omega), r1, r2, r3]
    rw [Env.ren_fix (S := fun k => k < 102) hlow ht, e] at h
    exact h
  · simp only [List.mem_cons, List.not_mem_nil, or_false] at hk
    rcases hk with rfl | rfl | rfl | rfl | rfl
    · rw [hlow 100 (by omega)]; omega
    · rw [hlow 101 (by omega)]; omega
    · rw [r1]; omega
    · rw [r2]; omega
    · rw [r3]; omega
  · simp only [List.mem_cons, List.not_mem_nil, or_false] at ha hb
    have g1 := hlow 100 (by omega)
    have g2 := hlow 101 (by omega)
    rcases ha with rfl | rfl | rfl | rfl | rfl <;> rcases hb with rfl | rfl | rfl | rfl | rfl <;> simp only [g1, g2, r1, r2, r3] at hab <;> first | rfl | omega
  · exact on_mono (fun j hj => by
      have hj : j < 102 := hj
      by_cases h1 : j < 100
      · exact .inr h1
      · left
        have : j = 100 ∨ j = 101 := by omega
        rcases this with rfl | rfl <;> simp) (ht.onT k v hv)
  · rw [get_append] at hc
    cases hg : Heap.get (diskG d 100 101 s q m) k with
    | some x =>
      rw [hg] at hc; cases hc
      exact diskG_on (S := fun k => k ∈ [100, 101, s, q, m] ∨ k < 100) (.inl (by simp)) (.inl (by simp)) (.inl (by simp)) (.inl (by simp)) (.inl (by simp)) k _ hg
    | none =>
      rw [hg] at hc
      obtain ⟨h1, h2⟩ := hX.onH k c hc
      refine ⟨.inr h1, ?_⟩
      cases c with
      | cells v => exact on_mono (fun j hj => .inr hj) h2
      | map es => exact fun x hx => ⟨on_mono (fun j hj => .inr hj) (h2 x hx).1, on_mono (fun j hj => .inr hj) (h2 x hx).2⟩
      | raw _ _ => trivial
theorem opP_fuse {d : DS} (hf : d.fuse = 0) (hd : d.down = false) : d.opP.2.down = false ∧ d.opP.2.fuse = 0 := by
  have h := opP_same d
  refine ⟨?_, h.2.2.2.2.2.1.trans hf⟩
  unfold DS.opP
  rw [if_neg (by rw [hf]; omega)]
  split <;> exact hd
end Go.Proofs.Ythfaldoagmkllaa
