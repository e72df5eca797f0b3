/- What was packed is unpacked; sectors of two blocks. -/
import Derived.Test.YthfaldoagmkllaaC12
set_option linter.unusedVariables false
set_option linter.unusedSimpArgs false
namespace Go.Proofs.Ythfaldoagmkllaa
open Go Go.RowKit

def sec (l : List UInt8) (j : Nat) : List UInt8 := (l.drop (64 * j)).take 64
theorem sec_len {l : List UInt8} {j : Nat} (hl : l.length = 256) (hj : j < 4) : (sec l j).length = 64 := by
  simp only [sec, List.length_take, List.length_drop]; omega
theorem sec_seal (st : Nat) {p : List UInt8} (hp : p.length = 224) : ∀ n, n ≤ 4 → ∀ j, j < n → sec (sealL st p n) j = sealPart st p j
  | 0, _, j, h => by omega
  | n + 1, hn, j, h => by
    have hl := sealL_len st hp n (by omega)
    have hpn := sealPart_len st hp (show n < 4 by omega)
    unfold sec
    simp only [sealL]
    by_cases hj : j = n
    · subst hj
      rw [List.drop_append, List.drop_eq_nil_of_le (by omega), hl, Nat.sub_self, List.drop_zero, List.nil_append, List.take_of_length_le (by omega)]
    · rw [List.drop_append_of_le_length (by omega), List.take_append_of_le_length (by rw [List.length_drop]; omega)]
      exact sec_seal st hp n (by omega) j (by omega)
theorem stamp_sec (l : List UInt8) (j : Nat) : stampAt l j = getL ((sec l j).drop 56) := by
  unfold stampAt sec
  rw [List.drop_take, List.drop_drop]
theorem part_sec (l : List UInt8) (j : Nat) : (l.drop (64 * j)).take 56 = (sec l j).take 56 := by
  unfold sec
  rw [List.take_take]; rfl
theorem stamp_part {st : Nat} {p : List UInt8} {j : Nat} (hs : st < 18446744073709551616) (hp : p.length = 224) (hj : j < 4) : getL ((sealPart st p j).drop 56) = st := by
  have h : ((p.drop (56 * j)).take 56).length = 56 := by simp only [List.length_take, List.length_drop]; omega
  unfold sealPart
  rw [List.drop_append, List.drop_eq_nil_of_le (by omega), h, Nat.sub_self, List.drop_zero, List.nil_append, getL_put]
  exact Nat.mod_eq_of_lt hs
theorem parts_seal (st : Nat) {p : List UInt8} (hp : p.length = 224) : ∀ n, n ≤ 4 → partsL (sealL st p 4) n = p.take (56 * n)
  | 0, _ => by simp [partsL]
  | n + 1, h => by
    have h56 : ((p.drop (56 * n)).take 56).length = 56 := by simp only [List.length_take, List.length_drop]; omega
    rw [partsL, parts_seal st hp n (by omega), part_sec, sec_seal st hp 4 (Nat.le_refl _) n (by omega), sealPart, List.take_append_of_le_length (by omega), List.take_take, Nat.min_self, show 56 * (n + 1) = 56 * n + 56 by omega, List.take_add]
theorem open_seal {st : Nat} {p : List UInt8} (hs : st < 18446744073709551616) (hp : p.length = 224) : openP (sealL st p 4) = (st, p, true) := by
  have h : ∀ j, j < 4 → stampAt (sealL st p 4) j = st := fun j hj => by
    rw [stamp_sec, sec_seal st hp 4 (Nat.le_refl _) j hj, stamp_part hs hp hj]
  have hok : openOk (sealL st p 4) = true := by simp [openOk, h 0 (by omega), h 1 (by omega), h 2 (by omega), h 3 (by omega)]
  rw [openP, hok, if_pos rfl, h 0 (by omega), parts_seal st hp 4 (Nat.le_refl _), List.take_of_length_le (by omega)]
/-- Sectors of two blocks, as bits tell. -/
def mixP (f : Nat → Bool) (a b : List UInt8) : Nat → List UInt8
  | 0 => []
  | n + 1 => mixP f a b n ++ (if f n then sec b n else sec a n)
theorem mix_len {f : Nat → Bool} {a b : List UInt8} (ha : a.length = 256) (hb : b.length = 256) : ∀ n, n ≤ 4 → (mixP f a b n).length = 64 * n
  | 0, _ => rfl
  | n + 1, h => by
    simp only [mixP, List.length_append, mix_len ha hb n (by omega)]
    split
    · rw [sec_len hb (by omega)]; omega
    · rw [sec_len ha (by omega)]; omega
theorem mix_keep {a : List UInt8} (ha : a.length = 256) {i : Nat} (hi : i < 4) : a.drop (64 * i) = sec a i ++ a.drop (64 * (i + 1)) := by
  unfold sec
  rw [show 64 * (i + 1) = 64 * i + 64 by omega, ← List.drop_drop, List.take_append_drop]
def layL (b : List UInt8) (i : Nat) (s : List UInt8) : List UInt8 := b.take (64 * i) ++ s ++ b.drop (64 * i + 64)
theorem mix_lay {f : Nat → Bool} {a b : List UInt8} (ha : a.length = 256) (hb : b.length = 256) {i : Nat} (hi : i < 4) : layL (mixP f a b i ++ a.drop (64 * i)) i (sec b i) = mixP f a b i ++ sec b i ++ a.drop (64 * (i + 1)) := by
  have hl := mix_len (f := f) ha hb i (by omega)
  unfold layL
  rw [List.take_append_of_le_length (by omega), List.take_of_length_le (by omega), List.drop_append, List.drop_eq_nil_of_le (by omega), hl, List.nil_append, List.drop_drop]
  congr 2
  omega
theorem mix_sec {f : Nat → Bool} {a b : List UInt8} (ha : a.length = 256) (hb : b.length = 256) : ∀ n, n ≤ 4 → ∀ j, j < n → sec (mixP f a b n) j = if f j then sec b j else sec a j
  | 0, _, j, h => by omega
  | n + 1, hn, j, h => by
    have hl := mix_len (f := f) ha hb n (by omega)
    have hx : (if f n then sec b n else sec a n).length = 64 := by
      split
      · exact sec_len hb (by omega)
      · exact sec_len ha (by omega)
    by_cases hj : j = n
    · subst hj
      unfold sec at *
      simp only [mixP]
      unfold sec
      rw [List.drop_append, List.drop_eq_nil_of_le (by omega), hl, Nat.sub_self, List.drop_zero, List.nil_append, List.take_of_length_le (by omega)]
    · have ih := mix_sec ha hb n (by omega) j (by omega) (f := f)
      rw [← ih]
      simp only [mixP]
      generalize (if f n then sec b n else sec a n) = x at hx
      unfold sec
      rw [List.drop_append_of_le_length (by omega), List.take_append_of_le_length (by rw [List.length_drop]; omega)]
theorem mix_all {f : Nat → Bool} {a b : List UInt8} {x : Bool} (ha : a.length = 256) (hb : b.length = 256) : ∀ n, n ≤ 4 → (∀ j, j < n → f j = x) → mixP f a b n = (if x then b else a).take (64 * n)
  | 0, _, _ => by simp [mixP]
  | n + 1, hn, h => by
    rw [mixP, mix_all ha hb n (by omega) (fun j hj => h j (by omega)), h n (by omega), show 64 * (n + 1) = 64 * n + 64 by omega, List.take_add]
    cases x <;> rfl
/-- Where both were sealed: a block of both of them is none, but of one stamp. -/
theorem mix_open {f : Nat → Bool} {sa sb : Nat} {pa pb : List UInt8} (h1 : sa < 18446744073709551616) (h2 : sb < 18446744073709551616) (hpa : pa.length = 224) (hpb : pb.length = 224) {i j : Nat} (hi : i < 4) (hj : j < 4) (hfi : f i = false) (hfj : f j = true)
    (ho : openOk (mixP f (sealL sa pa 4) (sealL sb pb 4) 4) = true) : sa = sb := by
  have ha : (sealL sa pa 4).length = 256 := sealL_len sa hpa 4 (Nat.le_refl _)
  have hb : (sealL sb pb 4).length = 256 := sealL_len sb hpb 4 (Nat.le_refl _)
  have st : ∀ k, k < 4 → stampAt (mixP f (sealL sa pa 4) (sealL sb pb 4) 4) k = if f k then sb else sa := fun k hk => by
    rw [stamp_sec, mix_sec ha hb 4 (Nat.le_refl _) k hk]
    split
    · rw [sec_seal sb hpb 4 (Nat.le_refl _) k hk, stamp_part h2 hpb hk]
    · rw [sec_seal sa hpa 4 (Nat.le_refl _) k hk, stamp_part h1 hpa hk]
  have eq0 : ∀ k, k < 4 → stampAt (mixP f (sealL sa pa 4) (sealL sb pb 4) 4) k = stampAt (mixP f (sealL sa pa 4) (sealL sb pb 4) 4) 0 := fun k hk => by
    simp only [openOk, Bool.and_eq_true, beq_iff_eq] at ho
    have : k = 0 ∨ k = 1 ∨ k = 2 ∨ k = 3 := by omega
    rcases this with rfl | rfl | rfl | rfl
    · rfl
    · exact ho.1.1
    · exact ho.1.2
    · exact ho.2
  have e1 := (eq0 i hi).trans (eq0 j hj).symm
  rw [st i hi, st j hj, hfi, hfj] at e1
  simpa using e1
end Go.Proofs.Ythfaldoagmkllaa
