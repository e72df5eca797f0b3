/- A store that the power may end, and what is loaded behind it. -/
import Derived.Test.YthfaldoagmkllaaE14
set_option linter.unusedVariables false
set_option linter.unusedSimpArgs false
namespace Go.Proofs.Ythfaldoagmkllaa
open Go Go.RowKit

theorem wrPN_get (b : Nat) (x : List UInt8) {i j : Nat} (h : i < j) : (wrPN [] b x j)[i]? = some ((b, i), sec x i) := by
  induction j with
  | zero => omega
  | succ j ih =>
    rw [wrPN]
    by_cases hi : i < j
    · rw [List.getElem?_append_left (by rw [wrPN_len]; simp; omega)]
      exact ih hi
    · have : i = j := by omega
      subst this
      rw [List.getElem?_append_right (by rw [wrPN_len]; simp)]
      simp [wrPN_len]
theorem aGet_setN (l : List Wr) (b : Nat) (x : List UInt8) (keep : List Bool) (all : Bool) : ∀ i, i ≤ 4 → ∀ k : Pl, aGet (setN l (wrPN [] b x 4) keep all i) k = if k.1 = b ∧ k.2 < i ∧ (all || keep.getD k.2 false) = true then some (sec x k.2) else aGet l k
  | 0, _, k => by simp [setN]
  | i + 1, hi, k => by
    obtain ⟨k1, k2⟩ := k
    have ih := aGet_setN l b x keep all i (by omega) (k1, k2)
    rw [setN, wrPN_get b x (by omega)]
    simp only at ih ⊢
    cases hkp : (all || keep.getD i false)
    · rw [if_neg (by simp), ih]
      by_cases h2 : k1 = b ∧ k2 < i ∧ (all || keep.getD k2 false) = true
      · rw [if_pos h2, if_pos ⟨h2.1, by omega, h2.2.2⟩]
      · rw [if_neg h2, if_neg]
        rintro ⟨h3, h4, h5⟩
        refine h2 ⟨h3, ?_, h5⟩
        rcases Nat.lt_or_ge k2 i with h6 | h6
        · exact h6
        · have : k2 = i := by omega
          subst this
          rw [hkp] at h5; cases h5
    · rw [if_pos rfl, aGet_put, ih]
      by_cases h : (b, i) = (k1, k2)
      · cases h
        rw [if_pos rfl, if_pos ⟨rfl, by omega, hkp⟩]
      · rw [if_neg h]
        by_cases h2 : k1 = b ∧ k2 < i ∧ (all || keep.getD k2 false) = true
        · rw [if_pos h2, if_pos ⟨h2.1, by omega, h2.2.2⟩]
        · rw [if_neg h2, if_neg]
          rintro ⟨h3, h4, h5⟩
          refine h2 ⟨h3, ?_, h5⟩
          rcases Nat.lt_or_ge k2 i with h6 | h6
          · exact h6
          · exact absurd (show (b, i) = (k1, k2) by rw [h3, show k2 = i by omega]) h
/-- The blocks of a disk of which the last write was settled. -/
theorem gat_settle {n : Nat} {l : List Wr} (hl : ∀ w, w ∈ l → wrOk n w) {b : Nat} {x : List UInt8} (hx : x.length = 256) {keep : List Bool} {all : Bool} (hl' : ∀ w, w ∈ setN l (wrPN [] b x 4) keep all 4 → wrOk n w) (c : Nat) :
    gatherP (setN l (wrPN [] b x 4) keep all 4) c = if c = b then mixP (fun j => all || keep.getD j false) (gatherP l b) x 4 else gatherP l c := by
  have hL := gatN_len hl b 4 (by omega)
  by_cases h : c = b
  · subst h
    rw [if_pos rfl]
    refine gat_eq hl' (mix_len hL hx 4 (Nat.le_refl _)) fun j hj => ?_
    rw [mix_sec hL hx 4 (Nat.le_refl _) j hj, secOf, aGet_setN l c x keep all 4 (Nat.le_refl _)]
    cases hk : (all || keep.getD j false)
    · rw [if_neg (by rintro ⟨_, _, h3⟩; cases h3), if_neg (by simp), sec_gatN hl c 4 (by omega) j hj]
      rfl
    · rw [if_pos ⟨rfl, hj, rfl⟩, if_pos rfl]; rfl
  · rw [if_neg h]
    refine gat_congr hl' hl fun j hj => ?_
    rw [aGet_setN l b x keep all 4 (Nat.le_refl _), if_neg (fun h2 => h h2.1)]
/-- What is known of a disk with an older master at one place. -/
structure Cr (keep : List Bool) (d : DS) (at_ : Nat) (old : Ms) : Prop where
  ok : d.Ok
  n : d.n = 3
  down : d.down = false
  pend : d.pend = []
  fails : d.fails = none
  fuse : d.fuse = 0
  ops : d.ops ≤ 2
  same : ∀ c, gatherP d.sure c = gatherP d.seen c
  at2 : at_ < 2
  mok : old.Ok
  may : mayM old = true
  here : gatherP d.seen at_ = packM old
  there : ∀ m, unpackM (gatherP d.seen (1 - at_)) = some m → m.seq < old.seq
  stamps : ∀ j, j < 4 → keep.getD j false = false → stampAt (gatherP d.seen (1 - at_)) j < old.seq
theorem stamp_pack {m : Ms} (hm : m.Ok) (hy : mayM m = true) {j : Nat} (hj : j < 4) : stampAt (packM m) j = m.seq := by
  have hp : packM m = sealL m.seq (msPay m) 4 := by unfold packM; rw [hy, if_pos rfl]
  rw [hp, stamp_sec, sec_seal m.seq (msPay_len m) 4 (Nat.le_refl _) j hj, stamp_part hm.seq (msPay_len m) hj]
theorem unpack_stamp {b : List UInt8} {m : Ms} (h : unpackM b = some m) {j : Nat} (hj : j < 4) : stampAt b j = m.seq := by
  obtain ⟨h1, h2, h3⟩ := unpack_some h
  rw [← h3]; exact stamp_pack h1 h2 hj
/-- Two masters are loaded: the newer one. -/
theorem pick_new {at_ : Nat} (ha : at_ < 2) {g : Nat → List UInt8} {old next : Ms} (h1 : unpackM (g at_) = some old) (h2 : unpackM (g (1 - at_)) = some next) (h : old.seq < next.seq) : pickM (unpackM (g 0)) (unpackM (g 1)) = (next, ((1 - at_ : Nat) : Int), 0) := by
  have : at_ = 0 ∨ at_ = 1 := by omega
  rcases this with rfl | rfl
  · have h2 : unpackM (g 1) = some next := h2
    rw [h1, h2]
    show (if old.seq < next.seq then (next, (1 : Int), 0) else (old, (0 : Int), 0)) = _
    rw [if_pos h]; rfl
  · have h2 : unpackM (g 0) = some next := h2
    rw [h1, h2]
    show (if next.seq < old.seq then (old, (1 : Int), 0) else (next, (0 : Int), 0)) = _
    rw [if_neg (by omega)]; rfl
theorem pick_old {at_ : Nat} (ha : at_ < 2) {g : Nat → List UInt8} {old : Ms} (h1 : unpackM (g at_) = some old) (h2 : ∀ m, unpackM (g (1 - at_)) = some m → m.seq < old.seq) : pickM (unpackM (g 0)) (unpackM (g 1)) = (old, (at_ : Int), 0) := by
  have : at_ = 0 ∨ at_ = 1 := by omega
  rcases this with rfl | rfl
  · have h2 : ∀ m, unpackM (g 1) = some m → m.seq < old.seq := h2
    rw [h1]
    cases h3 : unpackM (g 1) with
    | none => rfl
    | some m =>
      have := h2 m h3
      show (if old.seq < m.seq then (m, (1 : Int), 0) else (old, (0 : Int), 0)) = _
      rw [if_neg (by omega)]; rfl
  · have h2 : ∀ m, unpackM (g 0) = some m → m.seq < old.seq := h2
    rw [h1]
    cases h3 : unpackM (g 0) with
    | none => rfl
    | some m =>
      have := h2 m h3
      show (if m.seq < old.seq then (old, (1 : Int), 0) else (m, (0 : Int), 0)) = _
      rw [if_pos this]; rfl
/-- A block of which some sectors were written over by a newer master's. -/
theorem mix_torn {keep : List Bool} {x : List UInt8} (hx : x.length = 256) {old next : Ms} (hn : next.Ok) (hy : mayM next = true) (hs : old.seq < next.seq) (hst : ∀ j, j < 4 → keep.getD j false = false → stampAt x j < old.seq) :
    (mixP (fun j => false || keep.getD j false) x (packM next) 4 = packM next) ∨ (mixP (fun j => false || keep.getD j false) x (packM next) 4 = x) ∨
    (unpackM (mixP (fun j => false || keep.getD j false) x (packM next) 4) = none ∧ ∀ j, j < 4 → keep.getD j false = false → stampAt (mixP (fun j => false || keep.getD j false) x (packM next) 4) j < old.seq) := by
  have hl := packM_len next
  have sj : ∀ j, j < 4 → stampAt (mixP (fun j => false || keep.getD j false) x (packM next) 4) j = if keep.getD j false then next.seq else stampAt x j := fun j hj => by
    rw [stamp_sec, mix_sec hx hl 4 (Nat.le_refl _) j hj, Bool.false_or]
    cases hk : keep.getD j false
    · rw [if_neg (by simp), if_neg (by simp), stamp_sec]
    · rw [if_pos rfl, if_pos rfl, ← stamp_sec, stamp_pack hn hy hj]
  by_cases ha : ∀ j, j < 4 → keep.getD j false = true
  · left
    have := mix_all (f := fun j => false || keep.getD j false) (x := true) hx hl 4 (Nat.le_refl _) (fun j hj => by rw [Bool.false_or]; exact ha j hj)
    rw [this, if_pos rfl, List.take_of_length_le (by omega)]
  by_cases hb : ∀ j, j < 4 → keep.getD j false = false
  · right; left
    have := mix_all (f := fun j => false || keep.getD j false) (x := false) hx hl 4 (Nat.le_refl _) (fun j hj => by rw [Bool.false_or]; exact hb j hj)
    rw [this, if_neg (by simp), List.take_of_length_le (by omega)]
  right; right
  refine ⟨?_, fun j hj hk => ?_⟩
  · cases hu : unpackM (mixP (fun j => false || keep.getD j false) x (packM next) 4) with
    | none => rfl
    | some m =>
      exfalso
      have e := fun j hj => unpack_stamp hu (j := j) hj
      apply ha
      intro j hj
      cases hk : keep.getD j false
      · exfalso
        apply hb
        intro i hi
        cases hki : keep.getD i false
        · rfl
        · have e1 := e j hj
          have e2 := e i hi
          rw [sj j hj, hk, if_neg (by simp)] at e1
          rw [sj i hi, hki, if_pos rfl] at e2
          have := hst j hj hk
          omega
      · rfl
  · rw [sj j hj, hk, if_neg (by simp)]
    exact hst j hj hk
end Go.Proofs.Ythfaldoagmkllaa
