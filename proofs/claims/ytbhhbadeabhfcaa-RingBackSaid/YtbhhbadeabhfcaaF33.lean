/- Bits of 32; the sum CRC-32, a bit at a time. -/
import Derived.Test.YtbhhbadeabhfcaaF32
set_option linter.unusedVariables false
set_option linter.unusedSimpArgs false
namespace Go.Proofs.Ytbhhbadeabhfcaa
open Go Go.RowKit

theorem unAV_neg {k : IntKind} {n : Int} : unAV .neg (.int k n) = some (.int k (k.wrap (0 - n))) := rfl
theorem unAV_xor {k : IntKind} {n : Int} : unAV .xor (.int k n) = some (.int k (bXor k (if k.signed then -1 else k.max) n)) := rfl
theorem bXor_u32 {a b : Nat} (ha : a < 4294967296) (hb : b < 4294967296) : bXor .u32 (a : Int) (b : Int) = ((a ^^^ b : Nat) : Int) := by
  simp only [bXor, BitVec.ofInt_natCast]
  have h : (BitVec.ofNat IntKind.u32.bits a ^^^ BitVec.ofNat IntKind.u32.bits b).toNat = a ^^^ b := by
    show (BitVec.ofNat 32 a ^^^ BitVec.ofNat 32 b).toNat = _
    rw [BitVec.toNat_xor, BitVec.toNat_ofNat, BitVec.toNat_ofNat, Nat.mod_eq_of_lt ha, Nat.mod_eq_of_lt hb]
  rw [h, wrap_u32, Nat.mod_eq_of_lt (Nat.xor_lt_two_pow (n := 32) ha hb)]
theorem bAnd_u32 {a b : Nat} (ha : a < 4294967296) (hb : b < 4294967296) : bAnd .u32 (a : Int) (b : Int) = ((a &&& b : Nat) : Int) := by
  simp only [bAnd, BitVec.ofInt_natCast]
  have h : (BitVec.ofNat IntKind.u32.bits a &&& BitVec.ofNat IntKind.u32.bits b).toNat = a &&& b := by
    show (BitVec.ofNat 32 a &&& BitVec.ofNat 32 b).toNat = _
    rw [BitVec.toNat_and, BitVec.toNat_ofNat, BitVec.toNat_ofNat, Nat.mod_eq_of_lt ha, Nat.mod_eq_of_lt hb]
  rw [h, wrap_u32, Nat.mod_eq_of_lt (Nat.lt_of_le_of_lt Nat.and_le_left ha)]
def poly : Nat := 3988292384
def crcStep (r : Nat) : Nat := if r % 2 = 1 then (r / 2) ^^^ poly else r / 2
theorem crcStep_lt {r : Nat} (h : r < 4294967296) : crcStep r < 4294967296 := by
  unfold crcStep
  split
  · exact Nat.xor_lt_two_pow (n := 32) (by omega) (by decide)
  · omega
def crcBits : Nat → Nat → Nat
  | 0, r => r
  | n + 1, r => crcStep (crcBits n r)
theorem crcBits_lt {r : Nat} (h : r < 4294967296) : ∀ n, crcBits n r < 4294967296
  | 0 => h
  | n + 1 => crcStep_lt (crcBits_lt h n)
def crcL (r : Nat) : List UInt8 → Nat
  | [] => r
  | b :: l => crcL (crcBits 8 (r ^^^ b.toNat)) l
theorem xor_byte_lt {r : Nat} (b : UInt8) (h : r < 4294967296) : r ^^^ b.toNat < 4294967296 :=
  Nat.xor_lt_two_pow (n := 32) h (Nat.lt_of_lt_of_le b.toNat_lt (by decide))
theorem crcL_lt : ∀ {l : List UInt8} {r : Nat}, r < 4294967296 → crcL r l < 4294967296
  | [], r, h => h
  | b :: l, r, h => crcL_lt (l := l) (crcBits_lt (xor_byte_lt b h) 8)
theorem crcL_append : ∀ (l k : List UInt8) (r : Nat), crcL r (l ++ k) = crcL (crcL r l) k
  | [], k, r => rfl
  | b :: l, k, r => crcL_append l k _
theorem crcL_take {l : List UInt8} {i : Nat} {b : UInt8} (h : l[i]? = some b) (r : Nat) : crcL r (l.take (i + 1)) = crcBits 8 (crcL r (l.take i) ^^^ b.toNat) := by
  rw [take_succ h, crcL_append]; rfl
def crcSum (l : List UInt8) : Nat := 4294967295 - crcL 4294967295 l
theorem crcSum_lt (l : List UInt8) : crcSum l < 4294967296 := by unfold crcSum; omega
theorem xor_all {r : Nat} (h : r < 4294967296) : 4294967295 ^^^ r = 4294967295 - r := by
  have h1 : (BitVec.ofNat 32 4294967295 ^^^ BitVec.ofNat 32 r) = ~~~ (BitVec.ofNat 32 r) := by
    rw [show BitVec.ofNat 32 4294967295 = BitVec.allOnes 32 from rfl, BitVec.allOnes_xor]
  have h2 := congrArg BitVec.toNat h1
  rw [BitVec.toNat_xor, BitVec.toNat_not, BitVec.toNat_ofNat, BitVec.toNat_ofNat, Nat.mod_eq_of_lt (show r < 2 ^ 32 from h)] at h2
  exact h2
end Go.Proofs.Ytbhhbadeabhfcaa
