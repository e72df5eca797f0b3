/- Unsigned numbers: bits and bytes as naturals. -/
import Derived.Test.YtbhhbadeabhfcaaF30
set_option linter.unusedVariables false
set_option linter.unusedSimpArgs false
namespace Go.Proofs.Ytbhhbadeabhfcaa
open Go Go.RowKit

theorem wrap_u8 (x : Nat) : IntKind.u8.wrap (x : Int) = ((x % 256 : Nat) : Int) := by
  simp [IntKind.wrap, IntKind.signed, IntKind.bits]
theorem wrap_u32 (x : Nat) : IntKind.u32.wrap (x : Int) = ((x % 4294967296 : Nat) : Int) := by
  simp [IntKind.wrap, IntKind.signed, IntKind.bits]
theorem wrap_u64 (x : Nat) : IntKind.u64.wrap (x : Int) = ((x % 18446744073709551616 : Nat) : Int) := by
  simp [IntKind.wrap, IntKind.signed, IntKind.bits]
theorem wrap_u16 (x : Nat) : IntKind.u16.wrap (x : Int) = ((x % 65536 : Nat) : Int) := by
  simp [IntKind.wrap, IntKind.signed, IntKind.bits]
theorem bShr_nat (k : IntKind) (v j : Nat) : bShr k (v : Int) (j : Int) = ((v / 2 ^ (min j k.bits) : Nat) : Int) := by
  simp only [bShr, Int.toNat_natCast]
  rw [Int.fdiv_eq_ediv_of_nonneg _ (by exact_mod_cast Nat.zero_le _)]
  norm_cast
theorem bShl_u64 (v j : Nat) : bShl .u64 (v : Int) (j : Int) = ((v * 2 ^ (min j 64) % 18446744073709551616 : Nat) : Int) := by
  have : (v : Int) * 2 ^ (min j 64) = ((v * 2 ^ (min j 64) : Nat) : Int) := by norm_cast
  simp only [bShl, Int.toNat_natCast]
  rw [show IntKind.u64.bits = 64 from rfl, this, wrap_u64]
theorem bOr_u64 {a b : Nat} (ha : a < 18446744073709551616) (hb : b < 18446744073709551616) : bOr .u64 (a : Int) (b : Int) = ((a ||| b : Nat) : Int) := by
  simp only [bOr, BitVec.ofInt_natCast]
  have h : (BitVec.ofNat IntKind.u64.bits a ||| BitVec.ofNat IntKind.u64.bits b).toNat = a ||| b := by
    show (BitVec.ofNat 64 a ||| BitVec.ofNat 64 b).toNat = _
    rw [BitVec.toNat_or, BitVec.toNat_ofNat, BitVec.toNat_ofNat, Nat.mod_eq_of_lt ha, Nat.mod_eq_of_lt hb]
  rw [h, wrap_u64, Nat.mod_eq_of_lt (Nat.or_lt_two_pow (n := 64) ha hb)]
theorem or_add {a b : Nat} (hb : b < 256) : (a * 256) ||| b = a * 256 + b := by
  have := Nat.shiftLeft_add_eq_or_of_lt (i := 8) (b := b) hb a
  rw [Nat.shiftLeft_eq] at this
  exact this.symm

/-- The lowest n bytes of a number; the number of bytes. -/
def putL (v n : Nat) : List UInt8 := (List.range n).map fun i => UInt8.ofNat (v / 2 ^ (8 * i))
theorem putL_len (v n : Nat) : (putL v n).length = n := by simp [putL]
def getL : List UInt8 → Nat
  | [] => 0
  | b :: r => b.toNat + 256 * getL r
theorem getL_lt : ∀ l : List UInt8, getL l < 2 ^ (8 * l.length)
  | [] => by simp [getL]
  | b :: r => by
    have h1 := getL_lt r
    have h2 := b.toNat_lt
    simp only [getL, List.length_cons]
    have : 2 ^ (8 * (r.length + 1)) = 256 * 2 ^ (8 * r.length) := by rw [Nat.mul_add, Nat.pow_add, Nat.mul_comm]
    rw [this]
    omega
theorem getL_put : ∀ (v n : Nat), getL (putL v n) = v % 2 ^ (8 * n)
  | v, 0 => by simp [putL, getL, Nat.mod_one]
  | v, n + 1 => by
    have e : putL v (n + 1) = UInt8.ofNat v :: putL (v / 256) n := by
      simp only [putL, List.range_succ_eq_map, List.map_cons, List.map_map]
      rw [Nat.mul_zero, Nat.pow_zero, Nat.div_one]
      congr 1
      apply List.map_congr_left
      intro i _
      simp only [Function.comp]
      congr 1
      rw [Nat.div_div_eq_div_mul]
      congr 1
      rw [show 8 * (i + 1) = 8 + 8 * i by omega, Nat.pow_add]
    rw [e, getL, getL_put (v / 256) n]
    have h1 : (UInt8.ofNat v).toNat = v % 256 := by simp
    rw [h1]
    have : 2 ^ (8 * (n + 1)) = 256 * 2 ^ (8 * n) := by rw [Nat.mul_add, Nat.pow_add, Nat.mul_comm]
    rw [this, Nat.mod_mul]
theorem zb_map (n : Nat) : List.replicate n (AV.int .u8 0) = (zb n).map byteAV := by
  rw [zb, List.map_replicate]; rfl
theorem str_bytes (l : List UInt8) : (ByteArray.mk l.toArray).size = l.length := by simp [ByteArray.size]
theorem layable_byteAV (b : UInt8) : (byteAV b).layable = true := rfl
end Go.Proofs.Ytbhhbadeabhfcaa
