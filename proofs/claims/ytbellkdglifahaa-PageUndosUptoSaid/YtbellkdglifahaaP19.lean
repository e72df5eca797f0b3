/- A page in which a burst of bits was turned. -/
import Derived.Test.YtbellkdglifahaaP18
set_option linter.unusedVariables false
set_option linter.unusedSimpArgs false
namespace Go.Proofs.Ytbellkdglifahaa
open Go Go.RowKit

def tuL (p : List UInt8) (k x : Nat) : Nat → List UInt8
  | 0 => p
  | i + 1 => (tuL p k x i).set (k + i) ((tuL p k x i).getD (k + i) 0 ^^^ UInt8.ofNat (x / 2 ^ (8 * i)))
theorem tuL_len (p : List UInt8) (k x : Nat) : ∀ i, (tuL p k x i).length = p.length
  | 0 => rfl
  | i + 1 => by rw [tuL, List.length_set, tuL_len p k x i]
theorem xor_mul (a b n : Nat) : (a ^^^ b) * 2 ^ n = (a * 2 ^ n) ^^^ (b * 2 ^ n) := by
  rw [← Nat.shiftLeft_eq, ← Nat.shiftLeft_eq, ← Nat.shiftLeft_eq, Nat.shiftLeft_xor_distrib]
theorem getL_cons_xor (b : UInt8) (l : List UInt8) : getL (b :: l) = b.toNat ^^^ (256 * getL l) := (xor_byte b.toNat_lt).symm
theorem getL_set (v : UInt8) : ∀ (l : List UInt8) (j : Nat), j < l.length → getL (l.set j (l.getD j 0 ^^^ v)) = getL l ^^^ (v.toNat * 2 ^ (8 * j))
  | [], j, h => by simp at h
  | b :: l, 0, _ => by
    show getL ((b ^^^ v) :: l) = _
    rw [getL_cons_xor, getL_cons_xor, UInt8.toNat_xor, Nat.mul_zero, Nat.pow_zero, Nat.mul_one, Nat.xor_assoc, Nat.xor_comm v.toNat, ← Nat.xor_assoc]
  | b :: l, j + 1, h => by
    have ih := getL_set v l j (by simpa using h)
    show getL (b :: (l.set j (l.getD j 0 ^^^ v))) = _
    rw [getL_cons_xor, getL_cons_xor, ih]
    have e : 256 * (getL l ^^^ v.toNat * 2 ^ (8 * j)) = 256 * getL l ^^^ (v.toNat * 2 ^ (8 * (j + 1))) := by
      have := xor_mul (getL l) (v.toNat * 2 ^ (8 * j)) 8
      rw [show 2 ^ 8 = 256 by decide] at this
      rw [Nat.mul_comm, this, Nat.mul_comm 256, Nat.mul_assoc, Nat.mul_add, Nat.mul_one, Nat.pow_add]
    rw [e, ← Nat.xor_assoc]
def partX (x : Nat) : Nat → Nat
  | 0 => 0
  | i + 1 => partX x i ^^^ ((UInt8.ofNat (x / 2 ^ (8 * i))).toNat * 2 ^ (8 * i))
theorem getL_tu {p : List UInt8} {k : Nat} (x : Nat) : ∀ i, k + i ≤ p.length → getL (tuL p k x i) = getL p ^^^ (partX x i * 2 ^ (8 * k))
  | 0, _ => by simp [tuL, partX]
  | i + 1, h => by
    rw [tuL, getL_set _ _ _ (by rw [tuL_len]; omega), getL_tu x i (by omega), partX, xor_mul, Nat.xor_assoc, Nat.mul_add, Nat.pow_add, Nat.mul_assoc, Nat.mul_comm (2 ^ (8 * i))]
theorem partX_eq (x : Nat) : ∀ i, partX x i = x % 2 ^ (8 * i)
  | 0 => by simp [partX, Nat.mod_one]
  | i + 1 => by
    rw [partX, partX_eq x i]
    apply Nat.eq_of_testBit_eq
    intro j
    have e : (UInt8.ofNat (x / 2 ^ (8 * i))).toNat * 2 ^ (8 * i) = ((x >>> (8 * i)) % 2 ^ 8) <<< (8 * i) := by
      rw [Nat.shiftLeft_eq, Nat.shiftRight_eq_div_pow]; simp
    rw [e, Nat.testBit_xor, Nat.testBit_mod_two_pow, Nat.testBit_shiftLeft, Nat.testBit_mod_two_pow, Nat.testBit_shiftRight, Nat.testBit_mod_two_pow]
    by_cases h1 : j < 8 * i
    · have : ¬ (8 * i ≤ j) := by omega
      have h2 : j < 8 * (i + 1) := by omega
      simp [h1, this, h2]
    · have h2 : 8 * i ≤ j := by omega
      by_cases h3 : j < 8 * (i + 1)
      · have h4 : j - 8 * i < 8 := by omega
        have h5 : 8 * i + (j - 8 * i) = j := by omega
        simp [h1, h2, h3, h4, h5]
      · have h4 : ¬ (j - 8 * i < 8) := by omega
        simp [h1, h2, h3, h4]
def shown (p : List UInt8) : List UInt8 := p.take 3 ++ (zb 4 ++ p.drop 7)
theorem shown_len {p : List UInt8} (h : 7 ≤ p.length) : (shown p).length = p.length := by
  simp only [shown, List.length_append, List.length_take, List.length_drop, zb_len]; omega
theorem shown_get {p : List UInt8} (h : 7 ≤ p.length) {j : Nat} (hj : 7 ≤ j) : (shown p)[j]? = p[j]? := by
  unfold shown
  rw [List.getElem?_append_right (by simp; omega), List.getElem?_append_right (by simp [zb_len]; omega), List.getElem?_drop]
  congr 1
  simp [zb_len]; omega
theorem shown_set {p : List UInt8} (h : 7 ≤ p.length) {j : Nat} (hj : 7 ≤ j) (v : UInt8) : shown (p.set j v) = (shown p).set j v := by
  have h3 : (p.take 3).length = 3 := by rw [List.length_take]; omega
  have h4 : (zb 4).length = 4 := zb_len 4
  unfold shown
  rw [List.take_set_of_le (by omega), List.drop_set, if_neg (by omega), List.set_append_right _ _ (by omega), List.set_append_right _ _ (by omega), h3, h4, show j - 3 - 4 = j - 7 by omega]
theorem shown_tu {p : List UInt8} (h : 7 ≤ p.length) {k x : Nat} (hk : 7 ≤ k) : ∀ i, shown (tuL p k x i) = tuL (shown p) k x i
  | 0 => rfl
  | i + 1 => by
    have hl : 7 ≤ (tuL p k x i).length := by rw [tuL_len]; exact h
    rw [tuL, tuL, shown_set hl (by omega), shown_tu h hk i, ← shown_tu h hk i, List.getD_eq_getElem?_getD, List.getD_eq_getElem?_getD, shown_get hl (by omega)]
/-- What opened no longer does. -/
theorem turned_shut {kd : UInt8} {no k b s : Nat} {p : List UInt8} (hp : p.length = 224) (hk : 7 ≤ k) (hk2 : k + 5 ≤ 224) (hb : b ≠ 0) (hb2 : b < 4294967296) (hs : s < 8) (ho : opensP kd no p = true) (kd' : UInt8) (no' : Nat) : opensP kd' no' (tuL p k (b * 2 ^ s) 5) = false := by
  have hx : b * 2 ^ s < 2 ^ 40 := by
    have h1 : (2 : Nat) ^ s ≤ 2 ^ 7 := Nat.pow_le_pow_right (by decide) (by omega)
    have h2 : b * 2 ^ s ≤ 4294967295 * 2 ^ 7 := Nat.mul_le_mul (by omega) h1
    have h3 : (4294967295 : Nat) * 2 ^ 7 < 2 ^ 40 := by decide
    omega
  have hpx : partX (b * 2 ^ s) 5 = b * 2 ^ s := by rw [partX_eq, Nat.mod_eq_of_lt hx]
  have hsl := shown_len (p := p) (by omega)
  have hg : getL (shown (tuL p k (b * 2 ^ s) 5)) = getL (shown p) ^^^ (b * 2 ^ (s + 8 * k)) := by
    rw [shown_tu (by omega) hk, getL_tu _ 5 (by rw [hsl]; omega), hpx, Nat.pow_add, Nat.mul_assoc]
  have hne := crc_burst (m := shown p) (m' := shown (tuL p k (b * 2 ^ s) 5)) (by rw [shown_len (by rw [tuL_len]; omega), tuL_len, hsl]) hb hb2 (s := s + 8 * k) (by rw [hsl, hp]; omega) hg
  have hnum : getL (((tuL p k (b * 2 ^ s) 5).drop 3).take 4) = getL ((p.drop 3).take 4) := by
    have key : ∀ i, ((tuL p k (b * 2 ^ s) i).drop 3).take 4 = (p.drop 3).take 4 := fun i => by
      induction i with
      | zero => rfl
      | succ i ih =>
        rw [tuL, List.drop_set, if_neg (by omega), List.take_set_of_le (by omega)]
        exact ih
    rw [key 5]
  simp only [opensP, Bool.and_eq_true, beq_iff_eq] at ho
  have h3 : getL ((p.drop 3).take 4) = crcSum (shown p) := by have := ho.2; unfold pgSum at this; unfold shown; omega
  simp only [opensP]
  have : ((getL (((tuL p k (b * 2 ^ s) 5).drop 3).take 4) : Int) == (pgSum (tuL p k (b * 2 ^ s) 5) : Int)) = false := by
    rw [hnum, h3]
    simp only [beq_eq_false_iff_ne, ne_eq]
    intro h
    apply hne
    unfold pgSum at h
    unfold shown at h ⊢
    omega
  rw [this, Bool.and_false]
end Go.Proofs.Ytbellkdglifahaa
