/- Numbers as bytes. -/
import Derived.Test.YthfaldoagmkllaaG2
set_option linter.unusedVariables false
set_option linter.unusedSimpArgs false
namespace Go.Proofs.Ythfaldoagmkllaa
open Go Go.RowKit

theorem args_ii {a b : Int} {k k' : IntKind} : ∀ x, x ∈ [AV.int k a, AV.int k' b] → AV.on (fun _ => False) x ∧ ∀ vs, x ≠ .tuple vs := fun x hx => by
  simp only [List.mem_cons, List.not_mem_nil, or_false] at hx
  rcases hx with rfl | rfl
  · exact ⟨trivial, fun vs h => by cases h⟩
  · exact ⟨trivial, fun vs h => by cases h⟩
theorem args_sii {s : ByteArray} {a b : Int} {k k' : IntKind} : ∀ x, x ∈ [AV.str s, AV.int k a, AV.int k' b] → AV.on (fun _ => False) x ∧ ∀ vs, x ≠ .tuple vs := fun x hx => by
  simp only [List.mem_cons, List.not_mem_nil, or_false] at hx
  rcases hx with rfl | rfl | rfl
  · exact ⟨trivial, fun vs h => by cases h⟩
  · exact ⟨trivial, fun vs h => by cases h⟩
  · exact ⟨trivial, fun vs h => by cases h⟩
theorem put_step (v n i : Nat) (h : i < n) : (putL v i ++ zb (n - i)).set i (UInt8.ofNat (v / 2 ^ (8 * i))) = putL v (i + 1) ++ zb (n - (i + 1)) := by
  have e : zb (n - i) = 0 :: zb (n - (i + 1)) := by
    rw [zb, show n - i = (n - (i + 1)) + 1 by omega, List.replicate_succ]; rfl
  have e2 : putL v (i + 1) = putL v i ++ [UInt8.ofNat (v / 2 ^ (8 * i))] := by simp [putL, List.range_succ]
  rw [e, e2, List.set_append_right _ _ (by rw [putL_len]; exact Nat.le_refl _), putL_len, Nat.sub_self]
  simp

def putSt (v n i : Nat) : St := ⟨31, [(17, .int .i64 i), (16, .int .i64 n), (5, .sl 0 0 [] 0 n n 1), (0, .int .u64 v), (4, .str ⟨#[]⟩)], [(0, .cells (.agg ((putL v i ++ zb (n - i)).map byteAV)))], 1⟩
theorem put_spec (v n : Nat) (hn : n ≤ 8) : ACall Try.prog 24 [.int .u64 v, .int .i64 n] [] (.str ⟨(putL v n).toArray⟩) [] := by
  refine ACall.run (Z := Z) (N := 31) mixed hZ Try.func24 rfl rfl (by kernel_rfl) (by simp) args_ii 0 ?_
  have d1 : decide ((n : Int) < 0) = false := decide_eq_false (by omega)
  have d2 : decide (8 < (n : Int)) = false := decide_eq_false (by omega)
  simp -dsimp -implicitDefEqProofs only [↓j0, ↓j1, ↓j2, ↓j7, ↓j9, ↓j12, ↓j13, ↓j15, j17, j18, j20, ↓j25, ↓j29, ↓j30, j32, j33, j34, ↓j38, ↓j39, ↓j40, ↓j48, ↓j75, j83, j88, ↓j89, ↓j145, ↓j146, ↓j148, ↓j149, ↓j151, j159, j161, argEnv, j163, j164, j172, j175, reduceCtorEq, ↓reduceIte, Nat.reduceEqDiff, j184, j185, j195, j196, j208, j232, j444, d1, d2]
  refine ⟨⟨by omega, by omega⟩, ?_⟩
  simp -dsimp -implicitDefEqProofs only [↓j0, ↓j1, ↓j7, ↓j12, ↓j14, ↓j15, ↓j16, j17, j18, j20, ↓j25, ↓j29, ↓j30, j33, ↓j38, ↓j39, ↓j58, ↓j61, j143, ↓j145, j171, j172, ↓reduceIte, j196, j207, j473, zb_map]
  refine AWp.loopR (Z := Z) mixed hZ (by kernel_rfl) (fun k s => ∃ i, i + k = n ∧ s = putSt v n i) (n0 := n) (s0 := putSt v n 0) ?_ ⟨0, by omega, rfl⟩ ?_ rfl
  · exact Wk.sub (by simp -dsimp -implicitDefEqProofs only [↓j25, ↓j27, j179, reduceCtorEq, ↓reduceIte, Nat.reduceEqDiff, j182, j183, j184, j202, j203, j204, j205, j209, j223, j233] <;> simp [putL])
  rintro k s ⟨i, hi, rfl⟩
  refine ⟨rfl, ?_⟩
  have hlen : (putL v i ++ zb (n - i)).length = n := by rw [List.length_append, putL_len, zb_len]; omega
  obtain ⟨l, hl⟩ : ∃ l, putL v i ++ zb (n - i) = l := ⟨_, rfl⟩
  rcases Nat.lt_or_ge i n with hlt | hge
  · have hd : decide ((i : Int) < (n : Int)) = true := decide_eq_true (by omega)
    have hilt : (i : Int) < (n : Int) := by omega
    have hstep := put_step v n i hlt
    rw [hl] at hstep hlen
    have hw8 : IntKind.i64.wrap (8 * (i : Int)) = ((8 * i : Nat) : Int) := by rw [wrap_i64 (by omega) (by omega)]; omega
    have hw1 : IntKind.i64.wrap ((i : Int) + 1) = ((i + 1 : Nat) : Int) := by rw [wrap_i64 (by omega) (by omega)]; omega
    have hneg : (((8 * i : Nat) : Int) < 0) = False := by simp; omega
    have hsh : bShr .u64 (v : Int) ((8 * i : Nat) : Int) = ((v / 2 ^ (8 * i) : Nat) : Int) := by
      rw [bShr_nat, show IntKind.u64.bits = 64 from rfl, Nat.min_eq_left (by omega)]
    have hby : AV.int .u8 (IntKind.u8.wrap ((v / 2 ^ (8 * i) : Nat) : Int)) = byteAV (UInt8.ofNat (v / 2 ^ (8 * i))) := by
      rw [wrap_u8, byteAV_of _ (Nat.mod_lt _ (by decide))]
      congr 1
      apply UInt8.toNat_inj.1
      simp
    obtain ⟨b, hb⟩ := list_get (xs := l) (i := i) (by omega)
    have hsz : AV.sizeL ((l.map byteAV).take i) = i * 1 := (unif_bytes l).sizeL_take (by simp; omega)
    have hset : (l.map byteAV).set i (byteAV (UInt8.ofNat (v / 2 ^ (8 * i)))) = (l.set i (UInt8.ofNat (v / 2 ^ (8 * i)))).map byteAV := by rw [List.map_set]
    simp -dsimp -implicitDefEqProofs only [↓j0, ↓j1, ↓j7, ↓j9, ↓j12, ↓j13, ↓j14, ↓j15, j17, j18, j19, j20, j21, j22, j23, ↓j25, ↓j27, ↓j29, ↓j30, j33, ↓j38, ↓j39, ↓j44, ↓j46, ↓j48, ↓j50, ↓j78, ↓j89, ↓j93, j114, j119, ↓j145, ↓j146, ↓j147, ↓j149, ↓j153, j154, j156, j159, AV.proj, AV.offOf, AV.upd, j171, j172, j177, reduceCtorEq, ↓reduceIte, Nat.reduceEqDiff, j182, j185, j186, j191, j196, j197, j206, j207, j208, ↓j225, ↓j244, ↓j245, j254, j256, j340, j461, putSt, hl, hw8, hneg, hsh, hby, hilt, hb, hsz, hset]
    exact ⟨k - 1, putSt v n (i + 1), by omega, ⟨i + 1, by omega, rfl⟩, Wk.sub (by rw [← hstep]; simp -dsimp -implicitDefEqProofs only [↓j25, ↓j27, reduceCtorEq, ↓reduceIte, Nat.reduceEqDiff, j182, j202, j203, j204, j205, j223, hw1] <;> simp)⟩
  · have hin : i = n := by omega
    subst hin
    have hd : decide ((i : Int) < (i : Int)) = false := decide_eq_false (by omega)
    have hz : zb (i - i) = [] := by simp [zb]
    have hT : (List.map byteAV (putL v i)).take i = List.map byteAV (putL v i) := List.take_of_length_le (by simp [putL_len])
    have hu := unif_bytes (putL v i)
    have hl2 := putL_len v i
    have hbo := bytesOf_bytes (putL v i)
    rw [hz, List.append_nil] at hl hlen
    simp -dsimp -implicitDefEqProofs only [↓j0, ↓j1, ↓j7, ↓j10, ↓j11, ↓j12, ↓j13, ↓j15, j17, j18, j20, ↓j25, ↓j27, ↓j29, ↓j38, ↓j39, ↓j48, ↓j50, ↓j89, ↓j106, j107, ↓j121, ↓j145, ↓j146, ↓j148, ↓j149, ↓j153, j159, AV.proj, AV.offOf, j171, j172, ↓reduceIte, Nat.reduceEqDiff, j182, j185, j196, j197, j222, j223, j227, j234, j259, j342, putSt, hz, hd, hT, hu, hl2, hbo]
    exact Final.one (.inr rfl) (r := .tmp 4) rfl ⟨rfl, fun vs h => by cases h⟩ (fun vs h => by cases h) (fun vs h => by cases h) (.same _ trivial)

theorem get_bound {at_ n len : Nat} (h : at_ + n ≤ len) (hl : len ≤ 9223372036854775807) : True := trivial
theorem get_step {s : List UInt8} {at_ n i : Nat} {b : UInt8} (h : s[at_ + i]? = some b) (hi : i < n) : getL ((s.drop (at_ + i)).take (n - i)) = b.toNat + 256 * getL ((s.drop (at_ + (i + 1))).take (n - (i + 1))) := by
  have hj : at_ + i < s.length := by
    rcases Nat.lt_or_ge (at_ + i) s.length with h1 | h1
    · exact h1
    · rw [List.getElem?_eq_none h1] at h; cases h
  have hb : s[at_ + i] = b := by
    rw [List.getElem?_eq_getElem hj] at h; exact Option.some.inj h
  rw [List.drop_eq_getElem_cons hj, hb, show n - i = (n - (i + 1)) + 1 by omega, List.take_succ_cons, getL]
  rfl
/-- The number of the n bytes at a place: from the last one down to the place i. -/
def getSt (s : List UInt8) (at_ n i : Nat) : St := ⟨50, [(9, .int .i64 ((i : Int) - 1)), (8, .int .u64 (getL ((s.drop (at_ + i)).take (n - i)))), (0, .str ⟨s.toArray⟩), (1, .int .i64 at_), (2, .int .i64 n), (6, .int .u64 0), (7, .bool false)], [], 0⟩
theorem get_spec (s : List UInt8) (at_ n : Nat) (hn : n ≤ 8) (h : at_ + n ≤ s.length) (hl : s.length ≤ 9223372036854775807) : ACall Try.prog 32 [.str ⟨s.toArray⟩, .int .i64 at_, .int .i64 n] [] (.tuple [.int .u64 (getL ((s.drop at_).take n)), .bool true]) [] := by
  refine ACall.run (Z := Z) (N := 50) mixed hZ Try.func32 rfl rfl (by kernel_rfl) (by simp) args_sii 0 ?_
  have d1 : decide ((n : Int) < 0) = false := decide_eq_false (by omega)
  have d2 : decide (8 < (n : Int)) = false := decide_eq_false (by omega)
  have d3 : decide ((at_ : Int) < 0) = false := decide_eq_false (by omega)
  have d4 : decide ((s.length : Int) < (at_ : Int)) = false := decide_eq_false (by omega)
  have d5 : IntKind.i64.wrap ((s.length : Int) - (at_ : Int)) = ((s.length - at_ : Nat) : Int) := by rw [wrap_i64 (by omega) (by omega)]; omega
  have d6 : decide (((s.length - at_ : Nat) : Int) < (n : Int)) = false := decide_eq_false (by omega)
  have d7 : IntKind.i64.wrap ((n : Int) - 1) = (n : Int) - 1 := wrap_i64 (by omega) (by omega)
  simp -dsimp -implicitDefEqProofs only [↓j0, ↓j1, ↓j2, ↓j7, ↓j9, ↓j12, ↓j13, ↓j14, ↓j15, ↓j16, j17, j18, j20, ↓j25, ↓j29, ↓j30, j32, j33, ↓j38, ↓j39, ↓j40, ↓j48, ↓j58, ↓j59, j83, ↓j89, j141, ↓j145, ↓j146, ↓j148, ↓j149, ↓j151, j155, j159, j161, argEnv, j163, j164, j172, j175, reduceCtorEq, ↓reduceIte, Nat.reduceAdd, Nat.reduceEqDiff, j185, j195, j196, j259, d1, d2, d3, d4, d5, d6, d7, str_bytes]
  refine AWp.loopR (Z := Z) mixed hZ (by kernel_rfl) (fun k st => k ≤ n ∧ st = getSt s at_ n k) (n0 := n) (s0 := getSt s at_ n n) ?_ ⟨Nat.le_refl _, rfl⟩ ?_ rfl
  · exact Wk.sub (by simp -dsimp -implicitDefEqProofs only [↓j25, j179, reduceCtorEq, ↓reduceIte, Nat.reduceEqDiff, j182, j183, j184, j202, j203, j204, j209, j223] <;> simp [getL])
  rintro k st ⟨hk, rfl⟩
  refine ⟨rfl, ?_⟩
  cases k with
  | zero =>
    have hd : decide ((0 : Int) ≤ ((0 : Nat) : Int) - 1) = false := rfl
    simp -dsimp -implicitDefEqProofs only [↓j0, ↓j1, ↓j7, ↓j10, ↓j11, ↓j12, ↓j13, ↓j15, j17, j18, j20, ↓j25, ↓j29, ↓j30, j32, j33, ↓j38, ↓j39, ↓j48, ↓j89, ↓j145, ↓j146, ↓j148, ↓j149, j162, j172, ↓reduceIte, Nat.reduceEqDiff, j185, j197, j233, getSt, hd]
    refine Final.many (.inr rfl) (rs := [.tmp 6, .tmp 7]) (us := [.int .u64 (getL ((s.drop at_).take n)), .bool true]) rfl ⟨⟨rfl, fun vs h => by cases h⟩, ⟨rfl, fun vs h => by cases h⟩, trivial⟩ (by simp) ⟨.same _ trivial, .same _ trivial, trivial⟩
  | succ k =>
    have hd : decide ((0 : Int) ≤ ((k + 1 : Nat) : Int) - 1) = true := decide_eq_true (by omega)
    obtain ⟨b, hb⟩ := list_get (xs := s) (i := at_ + k) (by omega)
    have hstep := get_step (n := n) hb (by omega)
    have hx : ((k + 1 : Nat) : Int) - 1 = (k : Int) := by omega
    have hw1 : IntKind.i64.wrap ((at_ : Int) + (k : Int)) = ((at_ + k : Nat) : Int) := by rw [wrap_i64 (by omega) (by omega)]; omega
    have hw2 : IntKind.i64.wrap ((k : Int) - 1) = (k : Int) - 1 := wrap_i64 (by omega) (by omega)
    have hlt := getL_lt ((s.drop (at_ + (k + 1))).take (n - (k + 1)))
    obtain ⟨g, hg⟩ : ∃ g, getL ((s.drop (at_ + (k + 1))).take (n - (k + 1))) = g := ⟨_, rfl⟩
    rw [hg] at hlt hstep
    have hg56 : g < 2 ^ 56 := by
      refine Nat.lt_of_lt_of_le hlt (Nat.pow_le_pow_right (by decide) ?_)
      have := List.length_take_le (n - (k + 1)) (s.drop (at_ + (k + 1)))
      omega
    have hbl := b.toNat_lt
    have hneg : ((8 : Int) < 0) = False := by simp
    have hsh : bShl .u64 (g : Int) 8 = ((g * 256 : Nat) : Int) := by
      have := bShl_u64 g 8
      rw [show min 8 64 = 8 from rfl, Nat.mod_eq_of_lt (by omega)] at this
      exact this
    have hor : bOr .u64 ((g * 256 : Nat) : Int) (b.toNat : Int) = ((b.toNat + 256 * g : Nat) : Int) := by
      rw [bOr_u64 (by omega) (by omega), or_add (by omega)]; congr 1; omega
    have hbt : byteAt ⟨s.toArray⟩ ((at_ + k : Nat) : Int) = (b.toNat : Int) := by
      unfold byteAt
      rw [Int.toNat_natCast, Array.getD_eq_getD_getElem?, List.getElem?_toArray, hb]; rfl
    have hwb : IntKind.u64.wrap (b.toNat : Int) = (b.toNat : Int) := by rw [wrap_u64, Nat.mod_eq_of_lt (by omega)]
    have hix : ((at_ + k : Nat) : Int) < (s.length : Int) := by omega
    simp -dsimp -implicitDefEqProofs only [↓j0, ↓j1, ↓j7, ↓j9, ↓j12, ↓j13, ↓j14, ↓j15, j17, j18, j20, ↓j25, ↓j29, ↓j30, j33, ↓j38, ↓j39, ↓j47, ↓j48, ↓j50, ↓j89, ↓j95, j111, j113, j118, ↓j145, ↓j146, ↓j147, ↓j149, j154, j155, j162, j172, reduceCtorEq, ↓reduceIte, Nat.reduceEqDiff, j182, j185, j186, j191, j208, ↓j225, j259, j262, j459, getSt, hg, hx, hw1, hw2, hneg, hsh, hor, hbt, hwb, str_bytes, hix]
    exact ⟨k, getSt s at_ n k, by omega, ⟨by omega, rfl⟩, Wk.sub (by simp -dsimp -implicitDefEqProofs only [↓j25, reduceCtorEq, ↓reduceIte, Nat.reduceEqDiff, j182, j202, j203, j204, j223, hstep] <;> simp)⟩
end Go.Proofs.Ythfaldoagmkllaa
