/- Names taken back at the end of a round. -/
import Derived.Test.YtipbgaahpchhbaaF39
set_option linter.unusedVariables false
set_option linter.unusedSimpArgs false
namespace Go.Proofs.Ytipbgaahpchhbaa
open Go Go.RowKit

section
variable {π : Nat → Nat} {S : Nat → Prop}
mutual
theorem AV.ren_fix (h : ∀ n, S n → π n = n) : ∀ {v : AV}, AV.on S v → AV.ren π v = v
  | .ptr n _ _, hv => by simp only [AV.ren]; rw [h n hv]
  | .sl n _ _ _ _ _ _, hv => by simp only [AV.ren]; rw [h n hv]
  | .mapv n, hv => by simp only [AV.ren]; rw [h n hv]
  | .vptr r _ _, hv => by simp only [AV.ren, AV.ren_fix h (v := r) hv]
  | .vsl es _, hv => by simp only [AV.ren, AV.renL_fix h (vs := es) hv]
  | .func _ cs, hv => by simp only [AV.ren, AV.renL_fix h (vs := cs) hv]
  | .iface _ v, hv => by simp only [AV.ren, AV.ren_fix h (v := v) hv]
  | .agg vs, hv => by simp only [AV.ren, AV.renL_fix h (vs := vs) hv]
  | .tuple vs, hv => by simp only [AV.ren, AV.renL_fix h (vs := vs) hv]
  | .undef, _ | .bool _, _ | .int _ _, _ | .str _, _ | .nilptr, _ | .nilsl, _ | .nilmap, _ | .nilfunc, _ | .niliface, _ => rfl
theorem AV.renL_fix (h : ∀ n, S n → π n = n) : ∀ {vs : List AV}, AV.onL S vs → AV.renL π vs = vs
  | [], _ => rfl
  | v :: vs, hv => by simp only [AV.renL, AV.ren_fix h (v := v) hv.1, AV.renL_fix h (vs := vs) hv.2]
end
def onTL (S : Nat → Prop) (t : Env) : Prop := ∀ e, e ∈ t → AV.on S e.2
def onHL (S : Nat → Prop) (H : Heap) : Prop := ∀ e, e ∈ H → S e.1 ∧ e.2.on S
theorem onTL.onT {t : Env} (h : onTL S t) : onT S t := by
  intro d v hv
  induction t with
  | nil => simp [look] at hv
  | cons x r ih =>
    obtain ⟨k, u⟩ := x
    simp only [look] at hv
    split at hv
    · cases hv; exact h (k, v) (by simp)
    · exact ih (fun e he => h e (by simp [he])) hv
theorem onHL.onH {H : Heap} (h : onHL S H) : onH S H := by
  intro d v hv
  induction H with
  | nil => simp [Heap.get] at hv
  | cons x r ih =>
    obtain ⟨k, u⟩ := x
    simp only [Heap.get] at hv
    split at hv
    · rename_i hd; cases hv; subst hd; exact h (_, v) (by simp)
    · exact ih (fun e he => h e (by simp [he])) hv
theorem Env.ren_fix (h : ∀ n, S n → π n = n) {t : Env} (ht : onTL S t) : t.ren π = t := by
  unfold Env.ren
  conv => rhs; rw [← List.map_id t]
  apply List.map_congr_left
  rintro ⟨k, v⟩ hx
  simp only [id, AV.ren_fix h (ht (k, v) hx)]
theorem Heap.ren_fix (h : ∀ n, S n → π n = n) {H : Heap} (hH : onHL S H) : H.ren π = H := by
  unfold Heap.ren
  conv => rhs; rw [← List.map_id H]
  apply List.map_congr_left
  rintro ⟨k, b⟩ hx
  obtain ⟨h1, h2⟩ := hH (k, b) hx
  simp only [id]
  rw [h k h1]
  congr 1
  cases b with
  | cells v => simp only [ABlk.ren]; rw [AV.ren_fix h h2]
  | map es =>
    simp only [ABlk.ren]
    congr 1
    conv => rhs; rw [← List.map_id es]
    apply List.map_congr_left
    intro x hx
    simp only [id]
    rw [AV.ren_fix h (h2 x hx).1, AV.ren_fix h (h2 x hx).2]
  | raw _ _ => rfl
end
theorem onTL_nil {S : Nat → Prop} : onTL S [] := fun e h => by simp at h
theorem onTL_cons {S : Nat → Prop} {d : Nat} {v : AV} {t : Env} (h : AV.on S v) (ht : onTL S t) : onTL S ((d, v) :: t) := fun e he => by
  rcases List.mem_cons.1 he with rfl | he
  · exact h
  · exact ht e he
theorem onHL_nil {S : Nat → Prop} : onHL S [] := fun e h => by simp at h
theorem onHL_cons {S : Nat → Prop} {d : Nat} {b : ABlk} {t : Heap} (h1 : S d) (h : b.on S) (ht : onHL S t) : onHL S ((d, b) :: t) := fun e he => by
  rcases List.mem_cons.1 he with rfl | he
  · exact ⟨h1, h⟩
  · exact ht e he
def renD (s q m n : Nat) : Nat := if n = s then 102 else if n = q then 103 else if n = m then 104 else n
theorem onTL.mono {S S' : Nat → Prop} (h : ∀ k, S k → S' k) {t : Env} (ht : onTL S t) : onTL S' t := fun e he => on_mono h (ht e he)
/-- Names changed by a list of pairs. -/
def rnL : List (Nat × Nat) → Nat → Nat
  | [], k => k
  | q :: r, k => if k = q.1 then q.2 else rnL r k
def okN (ps : List (Nat × Nat)) (K k : Nat) : Prop := (k < K ∧ k ∉ ps.map (·.2)) ∨ k ∈ ps.map (·.1)
theorem rnL_not : ∀ {ps : List (Nat × Nat)} {k : Nat}, k ∉ ps.map (·.1) → rnL ps k = k
  | [], _, _ => rfl
  | q :: r, k, h => by
    rw [List.map_cons, List.mem_cons] at h
    rw [rnL, if_neg (fun e => h (.inl e)), rnL_not (fun e => h (.inr e))]
theorem rnL_in : ∀ {ps : List (Nat × Nat)} {k : Nat}, k ∈ ps.map (·.1) → rnL ps k ∈ ps.map (·.2)
  | [], _, h => by simp at h
  | q :: r, k, h => by
    rw [List.map_cons, List.mem_cons] at h
    rw [rnL, List.map_cons]
    split
    · exact List.mem_cons_self
    · exact List.mem_cons_of_mem _ (rnL_in (h.resolve_left (by assumption)))
theorem rnL_inj : ∀ {ps : List (Nat × Nat)}, (ps.map (·.2)).Nodup → ∀ {a b : Nat}, a ∈ ps.map (·.1) → b ∈ ps.map (·.1) → rnL ps a = rnL ps b → a = b
  | [], _, a, b, h, _, _ => by simp at h
  | q :: r, hn, a, b, ha, hb, he => by
    rw [List.map_cons, List.nodup_cons] at hn
    rw [List.map_cons, List.mem_cons] at ha hb
    rw [rnL, rnL] at he
    split at he <;> split at he
    · omega
    · rename_i h1 h2
      exact absurd (he ▸ rnL_in (hb.resolve_left h2)) hn.1
    · rename_i h1 h2
      exact absurd (he ▸ rnL_in (ha.resolve_left h1)) hn.1
    · rename_i h1 h2
      exact rnL_inj hn.2 (ha.resolve_left h1) (hb.resolve_left h2) he
theorem Wk.rens {n nx K : Nat} {t : Env} {H : Heap} (ps : List (Nat × Nat)) (hK : 100 ≤ K) (h1 : ∀ q, q ∈ ps → K ≤ q.1 ∧ 100 ≤ q.2 ∧ q.2 < K) (hn : (ps.map (·.2)).Nodup)
    (ht : onTL (okN ps K) t) (hH : onHL (okN ps K) H) : Wk ⟨n, t, H, nx⟩ ⟨n, t.ren (rnL ps), H.ren (rnL ps), K⟩ := by
  have hA : ∀ k, k ∈ ps.map (·.1) → K ≤ k := fun k h => by
    obtain ⟨q, hq, rfl⟩ := List.mem_map.1 h; exact (h1 q hq).1
  have hB : ∀ k, k ∈ ps.map (·.2) → 100 ≤ k ∧ k < K := fun k h => by
    obtain ⟨q, hq, rfl⟩ := List.mem_map.1 h; exact (h1 q hq).2
  have low : ∀ k, k < K → rnL ps k = k := fun k h => rnL_not fun hk => by have := hA k hk; omega
  have mem : ∀ k, k ∈ ps.map (·.1) ++ (List.range K).filter (fun j => decide (j ∉ ps.map (·.2))) ↔ okN ps K k := fun k => by
    simp only [List.mem_append, List.mem_filter, List.mem_range, decide_eq_true_eq, okN]
    exact or_comm
  refine Wk.ren (rnL ps) (ps.map (·.1) ++ (List.range K).filter (fun j => decide (j ∉ ps.map (·.2)))) (fun m hm => low m (by omega)) (fun m hm h => ?_) hK (fun a b ha hb he => ?_) ?_ ?_
  · rcases (mem m).1 hm with h2 | h2
    · rw [low m h2.1]; exact ⟨h, h2.1⟩
    · exact hB _ (rnL_in h2)
  · rcases (mem a).1 ha with ha | ha <;> rcases (mem b).1 hb with hb | hb
    · rwa [low a ha.1, low b hb.1] at he
    · rw [low a ha.1] at he
      exact absurd (he ▸ rnL_in hb) ha.2
    · rw [low b hb.1] at he
      exact absurd (he ▸ rnL_in ha) hb.2
    · exact rnL_inj hn ha hb he
  · intro d v hv
    exact on_mono (fun k hk => .inl ((mem k).2 hk)) (ht.onT d v hv)
  · refine onHL.onH fun e he => ?_
    obtain ⟨h2, h3⟩ := hH e he
    refine ⟨.inl ((mem _).2 h2), ?_⟩
    cases hb : e.2 with
    | cells v => rw [hb] at h3; exact on_mono (fun k hk => .inl ((mem k).2 hk)) h3
    | map es => rw [hb] at h3; exact fun x hx => ⟨on_mono (fun k hk => .inl ((mem k).2 hk)) (h3 x hx).1, on_mono (fun k hk => .inl ((mem k).2 hk)) (h3 x hx).2⟩
    | raw _ _ => trivial
/-- The same, where no variable holds a changed name. -/
theorem Wk.rensT {n nx K : Nat} {t : Env} {H H' : Heap} (ps : List (Nat × Nat)) (hK : 100 ≤ K) (h1 : ∀ q, q ∈ ps → K ≤ q.1 ∧ 100 ≤ q.2 ∧ q.2 < K) (hn : (ps.map (·.2)).Nodup)
    (ht : onTL (fun k => k < K ∧ k ∉ ps.map (·.2)) t) (hH : onHL (okN ps K) H) (he : H.ren (rnL ps) = H') : Wk ⟨n, t, H, nx⟩ ⟨n, t, H', K⟩ := by
  have h := Wk.rens (n := n) (nx := nx) ps hK h1 hn (ht.mono fun k hk => .inl hk) hH
  rw [he, Env.ren_fix (S := fun k => k < K ∧ k ∉ ps.map (·.2)) (fun k hk => rnL_not fun hm => ?_) ht] at h
  · exact h
  · obtain ⟨q, hq, e⟩ := List.mem_map.1 hm
    have h2 := (h1 q hq).1
    have h3 := hk.1
    omega
end Go.Proofs.Ytipbgaahpchhbaa
