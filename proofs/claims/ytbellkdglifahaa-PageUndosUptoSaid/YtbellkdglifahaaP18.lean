/- Bits of a text that are turned within 32 side by side turn its sum. -/
import Derived.Test.YtbellkdglifahaaP17
set_option linter.unusedVariables false
set_option linter.unusedSimpArgs false
namespace Go.Proofs.Ytbellkdglifahaa
open Go Go.RowKit

theorem crcStep_xor (a b : Nat) : crcStep (a ^^^ b) = crcStep a ^^^ crcStep b := by
  have hd : (a ^^^ b) / 2 = (a / 2) ^^^ (b / 2) := by
    apply Nat.eq_of_testBit_eq
    intro i
    simp [Nat.testBit_div_two]
  have hm : (a ^^^ b) % 2 = (a % 2 + b % 2) % 2 := by
    have h := Nat.testBit_xor a b 0
    simp only [Nat.testBit_zero] at h
    rcases Nat.mod_two_eq_zero_or_one a with ha | ha <;> rcases Nat.mod_two_eq_zero_or_one b with hb | hb <;> rcases Nat.mod_two_eq_zero_or_one (a ^^^ b) with hc | hc <;> simp [ha, hb, hc] at h ⊢
  unfold crcStep
  rw [hd, hm]
  rcases Nat.mod_two_eq_zero_or_one a with ha | ha <;> rcases Nat.mod_two_eq_zero_or_one b with hb | hb <;> rw [ha, hb]
  · simp
  · simp [Nat.xor_assoc]
  · simp only [Nat.add_zero, if_true, Nat.zero_ne_one, if_false]
    rw [Nat.xor_assoc, Nat.xor_assoc, Nat.xor_comm poly]
  · simp only [if_true]
    rw [if_neg (by decide), Nat.xor_assoc, Nat.xor_comm (b / 2) poly, ← Nat.xor_assoc poly, Nat.xor_self, Nat.zero_xor]
theorem crcBits_xor (a b : Nat) : ∀ n, crcBits n (a ^^^ b) = crcBits n a ^^^ crcBits n b
  | 0 => rfl
  | n + 1 => by rw [crcBits, crcBits, crcBits, crcBits_xor a b n, crcStep_xor]
theorem crcBits_add (r : Nat) : ∀ m n, crcBits (m + n) r = crcBits m (crcBits n r)
  | 0, n => by rw [Nat.zero_add]; rfl
  | m + 1, n => by rw [Nat.add_right_comm, crcBits, crcBits, crcBits_add r m n]
theorem crcBits_shift (y : Nat) : ∀ n, crcBits n (y * 2 ^ n) = y
  | 0 => by simp [crcBits]
  | n + 1 => by
    rw [crcBits_add _ n 1, show crcBits 1 (y * 2 ^ (n + 1)) = crcStep (y * 2 ^ (n + 1)) from rfl]
    have e : y * 2 ^ (n + 1) = (y * 2 ^ n) * 2 := by rw [Nat.pow_succ, Nat.mul_assoc]
    rw [e, crcStep, if_neg (by omega), Nat.mul_div_cancel (y * 2 ^ n) (show 0 < 2 by decide), crcBits_shift y n]
theorem xor_zero_eq {a b : Nat} (h : a ^^^ b = 0) : a = b := by
  have := congrArg (fun x => x ^^^ b) h
  simp only [Nat.xor_assoc, Nat.xor_self, Nat.xor_zero, Nat.zero_xor] at this
  exact this
theorem xor_byte {b g : Nat} (hb : b < 256) : b ^^^ (256 * g) = b + 256 * g := by
  have h1 : b + 256 * g = (g * 256) ||| b := by rw [or_add hb]; omega
  rw [h1]
  apply Nat.eq_of_testBit_eq
  intro i
  have e256 : (256 : Nat) = 2 ^ 8 := by decide
  rw [Nat.testBit_xor, Nat.testBit_or, Nat.mul_comm g 256]
  have h2 : 8 ≤ i → b.testBit i = false := fun h => Nat.testBit_lt_two_pow (Nat.lt_of_lt_of_le (e256 ▸ hb) (Nat.pow_le_pow_right (by omega) h))
  have h3 : ¬ 8 ≤ i → (256 * g).testBit i = false := fun h => by
    have e : 256 * g = g <<< 8 := by rw [Nat.shiftLeft_eq]; omega
    rw [e, Nat.testBit_shiftLeft]; simp [h]
  by_cases h : 8 ≤ i
  · rw [h2 h]; simp
  · rw [h3 h]; simp
theorem crcL_eq : ∀ (l : List UInt8) (r : Nat), crcL r l = crcBits (8 * l.length) (r ^^^ getL l)
  | [], r => by
    show r = crcBits 0 (r ^^^ 0)
    rw [Nat.xor_zero]; rfl
  | b :: l, r => by
    show crcL (crcBits 8 (r ^^^ b.toNat)) l = _
    rw [crcL_eq l, List.length_cons, Nat.mul_add, Nat.mul_one, crcBits_add, getL, ← xor_byte b.toNat_lt, ← Nat.xor_assoc, crcBits_xor (r ^^^ b.toNat) (256 * getL l) 8]
    have : crcBits 8 (256 * getL l) = getL l := by
      have h := crcBits_shift (getL l) 8
      rw [Nat.mul_comm] at h; exact h
    rw [this]
theorem crcStep_pos {r : Nat} (h0 : r ≠ 0) (h : r < 4294967296) : crcStep r ≠ 0 := by
  unfold crcStep
  split
  · intro e
    have := xor_zero_eq e
    have h2 : poly = 3988292384 := rfl
    omega
  · omega
theorem crcBits_pos {r : Nat} (h0 : r ≠ 0) (h : r < 4294967296) : ∀ n, crcBits n r ≠ 0
  | 0 => h0
  | n + 1 => crcStep_pos (crcBits_pos h0 h n) (crcBits_lt h n)
/-- Texts of one length that differ by a burst have unlike sums. -/
theorem crc_burst {m m' : List UInt8} (hl : m'.length = m.length) {x s : Nat} (hx : x ≠ 0) (hx2 : x < 4294967296) (hs : s ≤ 8 * m.length) (h : getL m' = getL m ^^^ (x * 2 ^ s)) : crcSum m' ≠ crcSum m := by
  have e : crcL 4294967295 m' = crcL 4294967295 m ^^^ crcBits (8 * m.length - s) x := by
    rw [crcL_eq, crcL_eq, hl, h, ← Nat.xor_assoc, crcBits_xor]
    congr 1
    obtain ⟨k, hk⟩ : ∃ k, 8 * m.length = k + s := ⟨8 * m.length - s, by omega⟩
    rw [hk, crcBits_add, crcBits_shift, Nat.add_sub_cancel]
  have h1 := crcL_lt (l := m) (r := 4294967295) (by decide)
  have h2 := crcL_lt (l := m') (r := 4294967295) (by decide)
  intro hc
  unfold crcSum at hc
  have h3 : crcL 4294967295 m' = crcL 4294967295 m := by omega
  rw [h3] at e
  have h4 : crcBits (8 * m.length - s) x = 0 := by
    have := congrArg (fun y => crcL 4294967295 m ^^^ y) e
    simp only [Nat.xor_self, ← Nat.xor_assoc, Nat.zero_xor] at this
    exact this.symm
  exact crcBits_pos hx hx2 _ h4
end Go.Proofs.Ytbellkdglifahaa
