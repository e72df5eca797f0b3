/- Writes that last; what a crash leaves of blocks that weren't written over. -/
import Derived.Test.YtpnjllemklindaaD20
set_option linter.unusedVariables false
set_option linter.unusedSimpArgs false
namespace Go.Proofs.Ytpnjllemklindaa
open Go Go.RowKit

theorem sz32 : szOf Try.prog 32 = some 65536 := by kernel_rfl
theorem ag32 : isAggT Try.prog 32 = some true := by kernel_rfl
theorem ea32 : elA Try.prog 32 = some (256, 256) := by kernel_rfl
set_option maxRecDepth 100000 in
theorem z32 : ZeroIs Try.prog 32 (.agg (List.replicate 256 (.agg (bytesAV (zb 256))))) := ZeroIs.agg' (cs := Array.replicate 65536 (.int .u8 0)) (by kernel_rfl) (by kernel_rfl)
def Z2 (T : TypeId) : Option AV := if T = 32 then some (.agg (List.replicate 256 (.agg (bytesAV (zb 256))))) else Z T
theorem hZ2 : ∀ T z, Z2 T = some z → ZeroIs Try.prog T z := by
  intro T z h
  unfold Z2 at h
  split at h
  · rename_i e; cases h; subst e; exact z32
  · exact hZ T z h
def was0 : List AV := List.replicate 256 (.agg (bytesAV (zb 256)))
theorem Z2_32 : Z2 32 = some (.agg was0) := rfl
theorem emz23 : elemM Try.prog Z2 23 = some (.bool false, 1, 1) := by kernel_rfl
structure Ls (i : Nat) (d : DS) : Prop where
  ok : d.Ok
  n3 : d.n = 300
  ops : d.ops ≤ i
  pend : d.pend.length ≤ 4 * i
  fails : d.fails = none
  fuse : d.fuse = 0
  down : d.down = false
  lag : Lag d
theorem ls_new : Ls 0 (DS.new 300) := ⟨new_ok (by omega) (by omega), rfl, Nat.le_refl _, Nat.le_refl _, rfl, rfl, rfl, fun k => rfl⟩
theorem ls_op {i : Nat} {d : DS} (h : Ls i d) : d.opP = (0, { d with ops := d.ops + 1 }) := by
  unfold DS.opP
  rw [if_neg (by rw [h.fuse]; omega), h.fails]; rfl
def wrD (d : DS) (b : Nat) (x : List UInt8) : DS := ({ d with ops := d.ops + 1 } : DS).wr b x 4
theorem ls_write {i : Nat} {d : DS} (h : Ls i d) (hi : i < 1000) {b : Nat} (hb : b < 256) {x : List UInt8} (hx : x.length = 256) : d.writeP (b : Int) x = (0, wrD d b x) ∧ Ls (i + 1) (wrD d b x) := by
  have h1 := h.ops
  have h2 := h.pend
  have hop := ls_op h
  have ho := opP_ok h.ok (by omega)
  have hlo := lag_op h.lag
  rw [hop] at ho hlo
  have hl : (wrD d b x).pend.length = d.pend.length + 4 := wrPN_len _ _ _ _
  constructor
  · unfold DS.writeP
    rw [if_neg (by rw [h.down]; decide), if_neg (by rw [h.n3]; omega), hop]; rfl
  · exact ⟨wr_ok ho (by show b < d.n; rw [h.n3]; omega) hx 4 (by omega) (by show d.pend.length + 4 ≤ _; omega), h.n3, by show d.ops + 1 ≤ i + 1; omega, by rw [hl]; omega, h.fails, h.fuse, h.down, lag_wr hlo b x 4⟩
theorem wrPN_mem {p : List Wr} {b : Nat} {x : List UInt8} : ∀ i w, w ∈ wrPN p b x i → w ∈ p ∨ w.1.1 = b
  | 0, w, h => .inl h
  | i + 1, w, h => by
    rw [wrPN, List.mem_append, List.mem_singleton] at h
    rcases h with h | rfl
    · exact wrPN_mem i w h
    · exact .inr rfl
theorem ls_sync {i : Nat} {d : DS} (h : Ls i d) (hi : i < 1000) : d.syncP.1 = 0 ∧ Ls (i + 1) d.syncP.2 ∧ d.syncP.2.pend = [] := by
  have hop := ls_op h
  have h1 := h.ops
  have ho := opP_ok h.ok (by omega)
  have hlo := lag_op h.lag
  have e : d.syncP = (0, ({ d with ops := d.ops + 1 } : DS).settle [] true) := by
    unfold DS.syncP
    rw [if_neg (by rw [h.down]; decide), hop]; rfl
  rw [hop] at ho hlo
  rw [e]
  refine ⟨rfl, ⟨settle_ok ho _ _, h.n3, by show d.ops + 1 ≤ i + 1; omega, Nat.zero_le _, h.fails, h.fuse, h.down, fun k => ?_⟩, rfl⟩
  exact hlo k
/-- Behind the sync: what was written is marked. -/
structure Lw (d0 : DS) (ov : List Bool) (i : Nat) (d : DS) : Prop where
  ls : Ls i d
  sure : d.sure = d0.sure
  mark : ∀ w, w ∈ d.pend → ov[w.1.1]? = some true
theorem lw_write {d0 : DS} {ov : List Bool} {i : Nat} {d : DS} (h : Lw d0 ov i d) (hi : i < 1000) {b : Nat} (hb : b < 256) (ho : ov.length = 256) {x : List UInt8} (hx : x.length = 256) : Lw d0 (ov.set b true) (i + 1) (wrD d b x) := by
  refine ⟨(ls_write h.ls hi hb hx).2, h.sure, fun w hw => ?_⟩
  rcases wrPN_mem 4 w hw with hw | hw
  · have := h.mark w hw
    rw [List.getElem?_set]
    split
    · rename_i e; subst e; rw [if_pos (by omega)]
    · exact this
  · rw [hw, List.getElem?_set, if_pos rfl, if_pos (by omega)]
theorem setN_other {l p : List Wr} {keep : List Bool} {k : Pl} (h : ∀ w, w ∈ p → w.1 ≠ k) : ∀ i, aGet (setN l p keep false i) k = aGet l k
  | 0 => rfl
  | i + 1 => by
    have ih := setN_other (l := l) (keep := keep) h i
    simp only [setN]
    cases hp : p[i]? with
    | none => exact ih
    | some w =>
      simp only
      split
      · rw [aGet_put, if_neg (h w (List.mem_of_getElem? hp))]; exact ih
      · exact ih
theorem lw_seen {d0 : DS} {ov : List Bool} {i j0 : Nat} {d : DS} (h0 : Ls j0 d0) (hp0 : d0.pend = []) (h : Lw d0 ov i d) (keep : List Bool) {b : Nat} (hb : ov[b]? = some false) : gatherP (d.crashP keep).seen b = gatherP d0.seen b := by
  have hc := crash_ok h.ls.ok keep
  refine gat_congr hc.seen h0.ok.seen fun j hj => ?_
  show aGet (setN d.sure d.pend keep false d.pend.length) (b, j) = _
  rw [setN_other (fun w hw e => by
    have := h.mark w hw
    rw [e] at this
    have this : ov[b]? = some true := this
    rw [hb] at this; cases this), h.sure, h0.lag (b, j), hp0]
  rfl
def bL (m : List Wr) (d : DS) (k : Nat) : List (List UInt8) := (List.range k).map (fun b => d.readL m ((b : Nat) : Int)) ++ List.replicate (256 - k) (zb 256)
theorem bL_len (m : List Wr) (d : DS) {k : Nat} (h : k ≤ 256) : (bL m d k).length = 256 := by simp [bL]; omega
theorem bL_set (m : List Wr) (d : DS) {k : Nat} (h : k < 256) : (bL m d k).set k (d.readL m ((k : Nat) : Int)) = bL m d (k + 1) := by
  unfold bL
  rw [List.set_append_right _ _ (by simp), List.length_map, List.length_range, Nat.sub_self, show 256 - k = (256 - (k + 1)) + 1 by omega, List.replicate_succ, List.range_succ]
  simp
theorem bL_get (m : List Wr) (d : DS) {b : Nat} (h : b < 256) : (bL m d 256)[b]? = some (d.readL m ((b : Nat) : Int)) := by
  unfold bL
  rw [List.getElem?_append_left (by simpa using h)]
  simp [h]
theorem bL_256 {n : Nat} {m : List Wr} (hm : ∀ w, w ∈ m → wrOk n w) (d : DS) {k : Nat} : ∀ x, x ∈ bL m d k → x.length = 256 := by
  intro x hx
  simp only [bL, List.mem_append, List.mem_map, List.mem_replicate] at hx
  rcases hx with ⟨b, _, rfl⟩ | ⟨_, rfl⟩
  · exact readL_256 hm d _
  · exact zb_len 256
def renM (m n : Nat) : Nat := if n = m then 104 else n
/-- The name of what is pending is taken back, beside two blocks more. -/
theorem Wk.diskM {n nx : Nat} {t : Env} {X : Heap} {d : DS} {m : Nat} (hm : m = 104 ∨ 107 ≤ m) (ht : onTL (fun k => k < 104 ∨ k = 105 ∨ k = 106) t) (hX : onHL (fun k => k = 105 ∨ k = 106) X) :
    Wk ⟨n, t, diskG d 100 101 102 103 m ++ X, nx⟩ ⟨n, t, diskG d 100 101 102 103 104 ++ X, 107⟩ := by
  have hlow : ∀ k, k ≠ m → renM m k = k := fun k hk => by unfold renM; rw [if_neg hk]
  have r3 : renM m m = 104 := by unfold renM; rw [if_pos rfl]
  have h := Wk.ren (n := n) (nx := nx) (K := 107) (t := t) (H := diskG d 100 101 102 103 m ++ X) (renM m) [100, 101, 102, 103, m, 105, 106] (fun k hk => hlow k (by omega)) (fun k hk _ => ?_) (by omega) (fun a b ha hb hab => ?_) (fun k v hv => ?_) (fun k c hc => ?_)
  · have e : Heap.ren (renM m) (diskG d 100 101 102 103 m ++ X) = diskG d 100 101 102 103 104 ++ X := by
      have e1 : ∀ x y : Heap, Heap.ren (renM m) (x ++ y) = Heap.ren (renM m) x ++ Heap.ren (renM m) y := fun x y => by simp [Heap.ren]
      rw [e1, ren_disk, Heap.ren_fix (S := fun k => k = 105 ∨ k = 106) (fun k hk => hlow k (by omega)) hX, hlow 100 (by omega), hlow 101 (by omega), hlow 102 (by omega), hlow 103 (by omega), r3]
    rw [Env.ren_fix (S := fun k => k < 104 ∨ k = 105 ∨ k = 106) (fun k hk => hlow k (by omega)) ht, e] at h
    exact h
  · simp only [List.mem_cons, List.not_mem_nil, or_false] at hk
    unfold renM
    split <;> omega
  · simp only [List.mem_cons, List.not_mem_nil, or_false] at ha hb
    unfold renM at hab
    split at hab <;> split at hab <;> omega
  · refine on_mono (fun j hj => ?_) (ht.onT k v hv)
    have hj : j < 104 ∨ j = 105 ∨ j = 106 := hj
    by_cases h1 : j < 100
    · exact .inr h1
    · left
      have : j = 100 ∨ j = 101 ∨ j = 102 ∨ j = 103 ∨ j = 105 ∨ j = 106 := by omega
      rcases this with rfl | rfl | rfl | rfl | rfl | rfl <;> simp
  · rw [get_append] at hc
    cases hg : Heap.get (diskG d 100 101 102 103 m) k with
    | some x =>
      rw [hg] at hc; cases hc
      exact diskG_on (S := fun k => k ∈ [100, 101, 102, 103, m, 105, 106] ∨ k < 100) (.inl (by simp)) (.inl (by simp)) (.inl (by simp)) (.inl (by simp)) (.inl (by simp)) k _ hg
    | none =>
      rw [hg] at hc
      obtain ⟨h1, h2⟩ := hX.onH k c hc
      have key : ∀ j, (j = 105 ∨ j = 106) → (j ∈ [100, 101, 102, 103, m, 105, 106] ∨ j < 100) := fun j hj => by
        left; rcases hj with rfl | rfl <;> simp
      refine ⟨key k h1, ?_⟩
      cases c with
      | cells v => exact on_mono key h2
      | map es => exact fun x hx => ⟨on_mono key (h2 x hx).1, on_mono key (h2 x hx).2⟩
      | raw _ _ => trivial
end Go.Proofs.Ytpnjllemklindaa
