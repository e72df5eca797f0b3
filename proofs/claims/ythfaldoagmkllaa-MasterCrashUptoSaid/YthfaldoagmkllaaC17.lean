/- The document's Get and Seal. -/
import Derived.Test.YthfaldoagmkllaaC14
import Derived.Test.YthfaldoagmkllaaM4
set_option linter.unusedVariables false
set_option linter.unusedSimpArgs false
namespace Go.Proofs.Ythfaldoagmkllaa
open Go Go.RowKit

theorem getL_append (l : List UInt8) (b : UInt8) : getL (l ++ [b]) = getL l + 2 ^ (8 * l.length) * b.toNat := by
  induction l with
  | nil => simp [getL]
  | cons a l ih =>
    simp only [List.cons_append, getL, ih, List.length_cons]
    have : 2 ^ (8 * (l.length + 1)) = 256 * 2 ^ (8 * l.length) := by rw [Nat.mul_add, Nat.pow_add, Nat.mul_comm]
    rw [this, Nat.mul_add, Nat.mul_assoc]; omega
theorem pow_256 (i : Nat) : 2 ^ (8 * (i + 1)) = 2 ^ (8 * i) * 256 := by rw [Nat.mul_add, Nat.pow_add]
/-- A byte more, in arithmetic of 64 bits. -/
theorem get_more {s : List UInt8} {o i : Nat} {b : UInt8} (hi : i < 8) (hb : s[o + i]? = some b) :
    IntKind.u64.wrap ((getL ((s.drop o).take i) : Int) + IntKind.u64.wrap (((2 ^ (8 * i) % 18446744073709551616 : Nat) : Int) * (b.toNat : Int))) = ((getL ((s.drop o).take (i + 1)) : Nat) : Int) ∧
    IntKind.u64.wrap (((2 ^ (8 * i) % 18446744073709551616 : Nat) : Int) * 256) = ((2 ^ (8 * (i + 1)) % 18446744073709551616 : Nat) : Int) := by
  have ho : o + i < s.length := by
    rcases Nat.lt_or_ge (o + i) s.length with h | h
    · exact h
    · rw [List.getElem?_eq_none h] at hb; cases hb
  have hp : 2 ^ (8 * i) < 18446744073709551616 := Nat.lt_of_lt_of_le (Nat.pow_lt_pow_right (by decide) (show 8 * i < 64 by omega)) (Nat.le_refl _)
  have hlen : ((s.drop o).take i).length = i := by rw [List.length_take, List.length_drop]; omega
  have hd : (s.drop o)[i]? = some b := by rw [List.getElem?_drop]; exact hb
  have e : (s.drop o).take (i + 1) = (s.drop o).take i ++ [b] := take_succ hd
  have hl2 : ((s.drop o).take (i + 1)).length = i + 1 := by rw [List.length_take, List.length_drop]; omega
  have hlt := getL_lt ((s.drop o).take (i + 1))
  rw [hl2] at hlt
  have hlt2 : getL ((s.drop o).take (i + 1)) < 18446744073709551616 := Nat.lt_of_lt_of_le hlt (Nat.pow_le_pow_right (show 0 < 2 by decide) (show 8 * (i + 1) ≤ 64 by omega))
  have hg : getL ((s.drop o).take (i + 1)) = getL ((s.drop o).take i) + 2 ^ (8 * i) * b.toNat := by rw [e, getL_append, hlen]
  rw [Nat.mod_eq_of_lt hp]
  constructor
  · have h1 : ((2 ^ (8 * i) : Nat) : Int) * (b.toNat : Int) = ((2 ^ (8 * i) * b.toNat : Nat) : Int) := (Int.natCast_mul _ _).symm
    rw [h1, wrap_u64, Nat.mod_eq_of_lt (by omega), show (getL ((s.drop o).take i) : Int) + ((2 ^ (8 * i) * b.toNat : Nat) : Int) = ((getL ((s.drop o).take i) + 2 ^ (8 * i) * b.toNat : Nat) : Int) from (Int.natCast_add _ _).symm, ← hg, wrap_u64, Nat.mod_eq_of_lt hlt2]
  · have h1 : ((2 ^ (8 * i) : Nat) : Int) * 256 = ((2 ^ (8 * i) * 256 : Nat) : Int) := (Int.natCast_mul _ _).symm
    rw [h1, wrap_u64, pow_256]

def rgSt (s : List UInt8) (o n i : Nat) : St := ⟨53, [(10, .int .i64 i), (9, .int .u64 (2 ^ (8 * i) % 18446744073709551616 : Nat)), (8, .int .u64 (getL ((s.drop o).take i))), (0, .str ⟨s.toArray⟩), (1, .int .i64 o), (2, .int .i64 n), (6, .int .u64 0), (7, .bool false)], [], 0⟩
theorem rget_spec (s : List UInt8) (o n : Nat) (hn : n ≤ 8) (h : o + n ≤ s.length) (hl : s.length ≤ 9223372036854775807) : ACall Try.prog 42 [.str ⟨s.toArray⟩, .int .i64 o, .int .i64 n] [] (.tuple [.int .u64 (getL ((s.drop o).take n)), .bool true]) [] := by
  refine ACall.run (Z := Z) (N := 53) mixed hZ Try.func42 rfl rfl (by kernel_rfl) (by simp) args_sii 0 ?_
  have d1 : decide ((n : Int) < 0) = false := decide_eq_false (by omega)
  have d2 : decide (8 < (n : Int)) = false := decide_eq_false (by omega)
  have d3 : decide ((o : Int) < 0) = false := decide_eq_false (by omega)
  have d4 : decide ((s.length : Int) < (o : Int)) = false := decide_eq_false (by omega)
  have d5 : IntKind.i64.wrap ((s.length : Int) - (o : Int)) = ((s.length - o : Nat) : Int) := by rw [wrap_i64 (by omega) (by omega)]; omega
  have d6 : decide (((s.length - o : Nat) : Int) < (n : Int)) = false := decide_eq_false (by omega)
  simp -dsimp -implicitDefEqProofs only [↓j0, ↓j1, ↓j2, ↓j7, ↓j9, ↓j12, ↓j13, ↓j14, ↓j15, ↓j16, j17, j18, j20, ↓j25, ↓j29, ↓j30, j32, j33, ↓j38, ↓j39, ↓j40, ↓j48, ↓j58, ↓j59, j83, ↓j89, j141, ↓j145, ↓j146, ↓j148, ↓j149, ↓j151, j155, j159, j161, argEnv, j163, j164, j172, j175, reduceCtorEq, ↓reduceIte, Nat.reduceAdd, Nat.reduceEqDiff, j185, j195, j196, j259, d1, d2, d3, d4, d5, d6, str_bytes]
  refine AWp.loopR (Z := Z) mixed hZ (by kernel_rfl) (fun k st => ∃ i, i + k = n ∧ st = rgSt s o n i) (n0 := n) (s0 := rgSt s o n 0) ?_ ⟨0, by omega, rfl⟩ ?_ rfl
  · exact Wk.sub (by simp -dsimp -implicitDefEqProofs only [↓j25, j167, j179, reduceCtorEq, ↓reduceIte, Nat.reduceMul, Nat.reduceEqDiff, j182, j183, j184, j202, j203, j204, j209, j223, Nat.reducePow] <;> simp [getL])
  rintro k st ⟨i, hi, rfl⟩
  refine ⟨rfl, ?_⟩
  rcases Nat.lt_or_ge i n with hlt | hge
  · have hd : decide ((i : Int) < (n : Int)) = true := decide_eq_true (by omega)
    obtain ⟨b, hb⟩ := list_get (xs := s) (i := o + i) (by omega)
    obtain ⟨m1, m2⟩ := get_more (s := s) (o := o) (show i < 8 by omega) hb
    have hw1 : IntKind.i64.wrap ((o : Int) + (i : Int)) = ((o + i : Nat) : Int) := by rw [wrap_i64 (by omega) (by omega)]; omega
    have hw2 : IntKind.i64.wrap ((i : Int) + 1) = ((i + 1 : Nat) : Int) := by rw [wrap_i64 (by omega) (by omega)]; omega
    have hbt : byteAt ⟨s.toArray⟩ ((o + i : Nat) : Int) = (b.toNat : Int) := by
      unfold byteAt
      rw [Int.toNat_natCast, Array.getD_eq_getD_getElem?, List.getElem?_toArray, hb]; rfl
    have hbl := b.toNat_lt
    have hwb : IntKind.u64.wrap (b.toNat : Int) = (b.toNat : Int) := by rw [wrap_u64, Nat.mod_eq_of_lt (by omega)]
    have hix : ((o + i : Nat) : Int) < (s.length : Int) := by omega
    simp -dsimp -implicitDefEqProofs only [↓j0, ↓j1, ↓j7, ↓j9, ↓j12, ↓j13, ↓j14, ↓j15, j17, j18, j20, ↓j25, ↓j29, ↓j30, j33, ↓j38, ↓j39, ↓j47, ↓j48, ↓j50, ↓j89, ↓j95, ↓j145, ↓j146, ↓j147, ↓j149, j154, j156, j159, j172, reduceCtorEq, ↓reduceIte, Nat.reduceEqDiff, j182, j185, j208, ↓j225, j259, j262, j459, rgSt, hd, hw1, hbt, hwb, hix, str_bytes, m1, m2]
    exact ⟨k - 1, rgSt s o n (i + 1), by omega, ⟨i + 1, by omega, rfl⟩, Wk.sub (by simp -dsimp -implicitDefEqProofs only [↓j25, reduceCtorEq, ↓reduceIte, Nat.reduceEqDiff, j182, j202, j203, j204, j223, hw2] <;> simp)⟩
  · have hin : i = n := by omega
    subst hin
    have hd : decide ((i : Int) < (i : Int)) = false := decide_eq_false (by omega)
    simp -dsimp -implicitDefEqProofs only [↓j0, ↓j1, ↓j7, ↓j10, ↓j11, ↓j12, ↓j13, ↓j15, j17, j18, j20, ↓j25, ↓j29, ↓j30, j32, ↓j38, ↓j39, ↓j48, ↓j89, ↓j145, ↓j146, ↓j148, ↓j149, j159, j172, reduceCtorEq, ↓reduceIte, Nat.reduceEqDiff, j185, rgSt, hd]
    exact Final.many (.inr rfl) (rs := [.tmp 6, .tmp 7]) (us := [.int .u64 (getL ((s.drop o).take i)), .bool true]) rfl ⟨⟨rfl, fun vs h => by cases h⟩, ⟨rfl, fun vs h => by cases h⟩, trivial⟩ (by simp) ⟨.same _ trivial, .same _ trivial, trivial⟩

theorem sec_get {l : List UInt8} {j k : Nat} (hk : k < 64) : (sec l j)[k]? = l[64 * j + k]? := by
  unfold sec
  rw [List.getElem?_take, if_pos hk, List.getElem?_drop]
theorem fillB_step {l : List UInt8} {n i : Nat} {x : UInt8} (hx : l[i]? = some x) (hi : i < n) : (l.take i ++ zb (n - i)).set i x = l.take (i + 1) ++ zb (n - (i + 1)) := by
  have hil : i < l.length := by
    rcases Nat.lt_or_ge i l.length with h | h
    · exact h
    · rw [List.getElem?_eq_none h] at hx; cases hx
  have e : zb (n - i) = 0 :: zb (n - (i + 1)) := by
    rw [zb, show n - i = (n - (i + 1)) + 1 by omega, List.replicate_succ]; rfl
  have hl : (l.take i).length = i := by rw [List.length_take]; omega
  rw [e, take_succ hx, List.set_append_right _ _ (by omega), hl, Nat.sub_self]
  simp
theorem fillB_len {l : List UInt8} {n i : Nat} (hl : n ≤ l.length) (hi : i ≤ n) : (l.take i ++ zb (n - i)).length = n := by
  rw [List.length_append, List.length_take, zb_len]; omega
theorem seal_get {st : Nat} {p : List UInt8} (hp : p.length = 224) {o : Nat} (ho : o < 256) :
    (o % 64 < 56 → (sealL st p 4)[o]? = p[56 * (o / 64) + o % 64]?) ∧ (¬ o % 64 < 56 → (sealL st p 4)[o]? = some (UInt8.ofNat (st / 2 ^ (8 * (o % 64 - 56))))) := by
  have e : (sealL st p 4)[o]? = (sealPart st p (o / 64))[o % 64]? := by
    rw [← sec_seal st hp 4 (Nat.le_refl _) (o / 64) (by omega), sec_get (by omega), show 64 * (o / 64) + o % 64 = o by omega]
  have h56 : ((p.drop (56 * (o / 64))).take 56).length = 56 := by simp only [List.length_take, List.length_drop]; omega
  rw [e]
  constructor
  · intro hk
    unfold sealPart
    rw [List.getElem?_append_left (by omega), List.getElem?_take, if_pos hk, List.getElem?_drop]
  · intro hk
    unfold sealPart
    rw [List.getElem?_append_right (by omega), h56]
    have h8 : o % 64 - 56 < 8 := by omega
    simp [putL, h8]
end Go.Proofs.Ythfaldoagmkllaa
