/- The disk's contracts, wherever it lies; the watchman. -/
import Derived.Test.YthfaldoagmkllaaD10
set_option linter.unusedVariables false
set_option linter.unusedSimpArgs false
namespace Go.Proofs.Ythfaldoagmkllaa
open Go Go.RowKit

structure Six (a b s q m x : Nat) : Prop where
  nd : [a, b, s, q, m, x].Nodup
section
variable {a b s q m x : Nat} (h6 : Six a b s q m x) (d : DS)
include h6
theorem read_at (hd : d.Ok) (ho : d.ops < 1000000) (k : Int) : ACall Try.prog 35 [.ptr a 0 [], .int .i64 k] (diskG d a b s q m) (readAV (d.readP k)) (diskG (d.readP k).2.2 a b s q m) :=
  ACall.disk a b s q m x h6.nd (args := [.int .i64 k]) (read_spec d hd ho k) ⟨trivial, trivial⟩ ⟨on_bytes _ _, trivial, trivial⟩
theorem sync_at (hd : d.Ok) (ho : d.ops < 1000000) : ACall Try.prog 36 [.ptr a 0 []] (diskG d a b s q m) (.int .i64 (d.syncP.1 : Nat)) (diskG d.syncP.2 a b s q m) := ACall.disk a b s q m x h6.nd (args := []) (sync_spec d hd ho) trivial trivial
theorem write_at (hd : d.Ok) (ho : d.ops < 1000000) (hp : d.pend.length + 4 ≤ 1000000) (k : Int) (l : List UInt8) (hl : l.length = 256) :
    ACall Try.prog 20 [.ptr a 0 [], .int .i64 k, arrAV l] (diskG d a b s q m) (.int .i64 ((d.writeP k l).1 : Nat)) (diskG (d.writeP k l).2 a b s q (if (d.writeP k l).2.pend = d.pend then m else x)) := by
  have h1 := ACall.swap 17 (by omega) (write_spec d hd ho hp k l hl) ⟨trivial, on_bytes _ _, trivial⟩ trivial
  have h2 := ACall.disk a b s q m x h6.nd (args := [.int .i64 k, arrAV l]) h1 ⟨trivial, on_bytes _ _, trivial⟩ trivial
  by_cases h : (d.writeP k l).2.pend = d.pend
  · simp only [h, if_true] at h2 ⊢; exact h2
  · simp only [h, if_false] at h2 ⊢; exact h2
theorem plan_at (hd : d.Ok) (fs : List Int) (hf : ∀ f, f ∈ fs → flOk f) (hl : fs.length ≤ 9223372036854775807) (fuse : Int) : ACall Try.prog 21 [.ptr a 0 [], intsAV fs, .int .i64 fuse] (diskG d a b s q m) (.tuple []) (diskG (d.planP fs fuse) a b s x m) :=
  ACall.disk a b s q m x h6.nd (args := [intsAV fs, .int .i64 fuse]) (plan_spec d hd fs hf hl fuse) ⟨on_ints _ _, trivial, trivial⟩ trivial
theorem crash_at (hd : d.Ok) (keep : List Bool) (hk : keep.length ≤ 9223372036854775807) : ACall Try.prog 22 [.ptr a 0 [], boolsAV keep] (diskG d a b s q m) (.tuple []) (diskG (d.crashP keep) a b x q m) := by
  have h1 := ACall.swap 100 (by omega) (crash_spec d hd keep hk) ⟨on_bools _ _, trivial⟩ trivial
  exact ACall.disk a b s q m x h6.nd (args := [boolsAV keep]) h1 ⟨on_bools _ _, trivial⟩ trivial
end
theorem fok17 : fnOk Try.prog 17 = true := by kernel_rfl
theorem fok35 : fnOk Try.prog 35 = true := by kernel_rfl
theorem new_at (n : Nat) (h1 : 1 ≤ n) (h2 : n ≤ 2048) : ACall Try.prog 17 [.int .i64 n] [] (.ptr 100 0 []) (diskG (DS.new n) 100 101 102 103 104) :=
  ACall.perm [101, 102, 100] (by decide) (new_spec n h1 h2)
theorem six (x : Nat) (h : 105 ≤ x) : Six 100 101 102 103 104 x := ⟨by simp; omega⟩
theorem six' (m x : Nat) (h : 104 ≤ m) (h2 : 104 ≤ x) (h3 : m ≠ x) : Six 100 101 102 103 m x := ⟨by simp; omega⟩
theorem new_put {n : Nat} : ∀ k x, Heap.get (diskG (DS.new n) 100 101 102 103 104) k = some x → k ∉ ([] : Heap).map (·.1) → 100 ≤ k ∧ k < 105 := by
  intro k x h _
  rcases names_diskG.1 (get_map h) with h | h | h | ⟨h, _⟩ | ⟨h, _⟩ <;> omega

theorem sec_layL {b s : List UInt8} {i j : Nat} (hb : b.length = 256) (hs : s.length = 64) (hi : i < 4) (hj : j < 4) : sec (layL b i s) j = if j = i then s else sec b j := by
  apply List.ext_getElem?
  intro k
  rcases Nat.lt_or_ge k 64 with hk | hk
  · rw [sec_get hk]
    unfold layL
    by_cases h : j = i
    · subst h
      rw [if_pos rfl, List.append_assoc, List.getElem?_append_right (by simp; omega), List.getElem?_append_left (by simp; omega)]
      congr 1
      rw [List.length_take]; omega
    · rw [if_neg h, sec_get hk]
      rcases Nat.lt_or_ge j i with h1 | h1
      · rw [List.append_assoc, List.getElem?_append_left (by simp; omega), List.getElem?_take, if_pos (by omega)]
      · rw [List.getElem?_append_right (by simp; omega), List.getElem?_drop]
        congr 1
        simp only [List.length_append, List.length_take]; omega
  · have h1 : (sec (layL b i s) j).length = 64 := sec_len (layL_len hb hs hi) hj
    rw [List.getElem?_eq_none (by omega), List.getElem?_eq_none]
    split
    · omega
    · rw [sec_len hb hj]; exact hk
theorem sec_gatN {n : Nat} {l : List Wr} (hl : ∀ w, w ∈ l → wrOk n w) (b : Nat) : ∀ i, i ≤ 4 → ∀ j, j < i → sec (gatN l b i) j = secOf l (b, j)
  | 0, _, j, h => by omega
  | i + 1, hi, j, h => by
    rw [gatN, sec_layL (gatN_len hl b i (by omega)) (secOf_len hl _) (by omega) (by omega)]
    by_cases hj : j = i
    · subst hj; rw [if_pos rfl]
    · rw [if_neg hj]; exact sec_gatN hl b i (by omega) j (by omega)
theorem gat_eq {n : Nat} {l : List Wr} (hl : ∀ w, w ∈ l → wrOk n w) {b : Nat} {x : List UInt8} (hx : x.length = 256) (h : ∀ j, j < 4 → secOf l (b, j) = sec x j) : gatherP l b = x :=
  sec_all (gatN_len hl b 4 (by omega)) hx fun j hj => by rw [sec_gatN hl b 4 (by omega) j hj, h j hj]
theorem gat_congr {n n' : Nat} {l l' : List Wr} (hl : ∀ w, w ∈ l → wrOk n w) (hl' : ∀ w, w ∈ l' → wrOk n' w) {b : Nat} (h : ∀ j, j < 4 → aGet l (b, j) = aGet l' (b, j)) : gatherP l b = gatherP l' b :=
  gat_eq hl (gatN_len hl' b 4 (by omega)) fun j hj => by rw [sec_gatN hl' b 4 (by omega) j hj, secOf, secOf, h j hj]
theorem aGet_wrSN (l : List Wr) (b : Nat) (x : List UInt8) : ∀ i k, aGet (wrSN l b x i) k = if k.1 = b ∧ k.2 < i then some (sec x k.2) else aGet l k
  | 0, k => by simp [wrSN]
  | i + 1, k => by
    obtain ⟨k1, k2⟩ := k
    rw [wrSN, aGet_put, aGet_wrSN l b x i]
    by_cases h : (b, i) = (k1, k2)
    · cases h; simp
    · rw [if_neg h]
      by_cases h2 : k1 = b ∧ k2 < i
      · rw [if_pos h2, if_pos ⟨h2.1, by have := h2.2; show k2 < i + 1; omega⟩]
      · rw [if_neg h2, if_neg]
        rintro ⟨h3, h4⟩
        have h3 : k1 = b := h3
        have h4 : k2 < i + 1 := h4
        apply h2
        refine ⟨h3, ?_⟩
        rcases Nat.lt_or_ge k2 i with h5 | h5
        · exact h5
        · exact absurd (show (b, i) = (k1, k2) by rw [h3, show k2 = i by omega]) h
theorem gat_wr {d : DS} (hd : d.Ok) {b : Nat} {x : List UInt8} (hb : b < d.n) (hx : x.length = 256) (hp : d.pend.length + 4 ≤ 1000000) (c : Nat) : gatherP (d.wr b x 4).seen c = if c = b then x else gatherP d.seen c := by
  have hw := wr_ok hd hb hx 4 (by omega) (by omega)
  by_cases h : c = b
  · rw [if_pos h]
    refine gat_eq hw.seen hx fun j hj => ?_
    show (aGet (wrSN d.seen b x 4) (c, j)).getD _ = _
    rw [aGet_wrSN, if_pos ⟨h, hj⟩]; rfl
  · rw [if_neg h]
    refine gat_congr hw.seen hd.seen fun j hj => ?_
    show aGet (wrSN d.seen b x 4) (c, j) = _
    rw [aGet_wrSN, if_neg fun h2 => h h2.1]

end Go.Proofs.Ythfaldoagmkllaa
