import Derived.Test.YtimdepgenefkmaaG2
import Derived.Test.YtimdepgenefkmaaM4
set_option maxRecDepth 8000
set_option linter.unusedVariables false
set_option linter.unusedSimpArgs false
section
namespace Go.Proofs.Ytimdepgenefkmaa
open Go Go.RowKit

theorem args_ii {a b : Int} {k k' : IntKind} : ∀ x, x ∈ [AV.int k a, AV.int k' b] → AV.on (fun _ => False) x ∧ ∀ vs, x ≠ .tuple vs := fun x hx => by
  simp only [List.mem_cons, List.not_mem_nil, or_false] at hx
  rcases hx with rfl | rfl
  · exact ⟨trivial, fun vs h => by cases h⟩
  · exact ⟨trivial, fun vs h => by cases h⟩
theorem args_sii {s : ByteArray} {a b : Int} {k k' : IntKind} : ∀ x, x ∈ [AV.str s, AV.int k a, AV.int k' b] → AV.on (fun _ => False) x ∧ ∀ vs, x ≠ .tuple vs := fun x hx => by
  simp only [List.mem_cons, List.not_mem_nil, or_false] at hx
  rcases hx with rfl | rfl | rfl
  · exact ⟨trivial, fun vs h => by cases h⟩
  · exact ⟨trivial, fun vs h => by cases h⟩
  · exact ⟨trivial, fun vs h => by cases h⟩
theorem put_step (v n i : Nat) (h : i < n) : (putL v i ++ zb (n - i)).set i (UInt8.ofNat (v / 2 ^ (8 * i))) = putL v (i + 1) ++ zb (n - (i + 1)) := by
  have e : zb (n - i) = 0 :: zb (n - (i + 1)) := by
    rw [zb, show n - i = (n - (i + 1)) + 1 by omega, List.replicate_succ]; rfl
  have e2 : putL v (i + 1) = putL v i ++ [UInt8.ofNat (v / 2 ^ (8 * i))] := by simp [putL, List.range_succ]
  rw [e, e2, List.set_append_right _ _ (by rw [putL_len]; exact Nat.le_refl _), putL_len, Nat.sub_self]
  simp

def putSt (v n i : Nat) : St := ⟨31, [(17, .int .i64 i), (16, .int .i64 n), (5, .sl 0 0 [] 0 n n 1), (0, .int .u64 v), (4, .str ⟨#[]⟩)], [(0, .cells (.agg ((putL v i ++ zb (n - i)).map byteAV)))], 1⟩
theorem put_spec (v n : Nat) (hn : n ≤ 8) : ACall Try.prog 43 [.int .u64 v, .int .i64 n] [] (.str ⟨(putL v n).toArray⟩) [] := by
  refine ACall.run (Z := Z) (N := 31) mixed hZ Try.func43 rfl rfl (by kernel_rfl) (by simp) args_ii 0 ?_
  have d1 : decide ((n : Int) < 0) = false := decide_eq_false (by omega)
  have d2 : decide (8 < (n : Int)) = false := decide_eq_false (by omega)
  simp -dsimp -implicitDefEqProofs only [↓j0, ↓j1, ↓j2, ↓j7, ↓j9, ↓j12, ↓j13, ↓j15, j17, j18, j20, ↓j25, ↓j29, ↓j30, j32, j33, j34, ↓j38, ↓j39, ↓j40, ↓j48, ↓j75, j83, j88, ↓j89, ↓j145, ↓j146, ↓j148, ↓j149, ↓j151, j159, j161, argEnv, j163, j164, j172, j175, reduceCtorEq, ↓reduceIte, Nat.reduceEqDiff, j184, j185, j195, j196, j208, j232, j455, d1, d2]
  refine ⟨⟨by omega, by omega⟩, ?_⟩
  simp -dsimp -implicitDefEqProofs only [↓j0, ↓j1, ↓j7, ↓j12, ↓j14, ↓j15, ↓j16, j17, j18, j20, ↓j25, ↓j29, ↓j30, j33, ↓j38, ↓j39, ↓j58, ↓j61, j143, ↓j145, j171, j172, ↓reduceIte, j196, j207, j480, zb_map]
  refine AWp.loopR (Z := Z) mixed hZ (by kernel_rfl) (fun k s => ∃ i, i + k = n ∧ s = putSt v n i) (n0 := n) (s0 := putSt v n 0) ?_ ⟨0, by omega, rfl⟩ ?_ rfl
  · exact Wk.sub (by simp -dsimp -implicitDefEqProofs only [↓j25, ↓j27, j179, reduceCtorEq, ↓reduceIte, Nat.reduceEqDiff, j182, j183, j184, j202, j203, j204, j205, j209, j223, j233] <;> simp [putL])
  rintro k s ⟨i, hi, rfl⟩
  refine ⟨rfl, ?_⟩
  have hlen : (putL v i ++ zb (n - i)).length = n := by rw [List.length_append, putL_len, zb_len]; omega
  obtain ⟨l, hl⟩ : ∃ l, putL v i ++ zb (n - i) = l := ⟨_, rfl⟩
  rcases Nat.lt_or_ge i n with hlt | hge
  · have hd : decide ((i : Int) < (n : Int)) = true := decide_eq_true (by omega)
    have hilt : (i : Int) < (n : Int) := by omega
    have hstep := put_step v n i hlt
    rw [hl] at hstep hlen
    have hw8 : IntKind.i64.wrap (8 * (i : Int)) = ((8 * i : Nat) : Int) := by rw [wrap_i64 (by omega) (by omega)]; omega
    have hw1 : IntKind.i64.wrap ((i : Int) + 1) = ((i + 1 : Nat) : Int) := by rw [wrap_i64 (by omega) (by omega)]; omega
    have hneg : (((8 * i : Nat) : Int) < 0) = False := by simp; omega
    have hsh : bShr .u64 (v : Int) ((8 * i : Nat) : Int) = ((v / 2 ^ (8 * i) : Nat) : Int) := by
      rw [bShr_nat, show IntKind.u64.bits = 64 from rfl, Nat.min_eq_left (by omega)]
    have hby : AV.int .u8 (IntKind.u8.wrap ((v / 2 ^ (8 * i) : Nat) : Int)) = byteAV (UInt8.ofNat (v / 2 ^ (8 * i))) := by
      rw [wrap_u8, byteAV_of _ (Nat.mod_lt _ (by decide))]
      congr 1
      apply UInt8.toNat_inj.1
      simp
    obtain ⟨b, hb⟩ := list_get (xs := l) (i := i) (by omega)
    have hsz : AV.sizeL ((l.map byteAV).take i) = i * 1 := (unif_bytes l).sizeL_take (by simp; omega)
    have hset : (l.map byteAV).set i (byteAV (UInt8.ofNat (v / 2 ^ (8 * i)))) = (l.set i (UInt8.ofNat (v / 2 ^ (8 * i)))).map byteAV := by rw [List.map_set]
    simp -dsimp -implicitDefEqProofs only [↓j0, ↓j1, ↓j7, ↓j9, ↓j12, ↓j13, ↓j14, ↓j15, j17, j18, j19, j20, j21, j22, j23, ↓j25, ↓j27, ↓j29, ↓j30, j33, ↓j38, ↓j39, ↓j44, ↓j46, ↓j48, ↓j50, ↓j78, ↓j89, ↓j93, j114, j119, ↓j145, ↓j146, ↓j147, ↓j149, ↓j153, j154, j156, j159, AV.proj, AV.offOf, AV.upd, j171, j172, j177, reduceCtorEq, ↓reduceIte, Nat.reduceEqDiff, j182, j185, j186, j191, j196, j197, j206, j207, j208, ↓j225, ↓j244, ↓j245, j254, j256, j401, j466, putSt, hl, hw8, hneg, hsh, hby, hilt, hb, hsz, hset]
    exact ⟨k - 1, putSt v n (i + 1), by omega, ⟨i + 1, by omega, rfl⟩, Wk.sub (by rw [← hstep]; simp -dsimp -implicitDefEqProofs only [↓j25, ↓j27, reduceCtorEq, ↓reduceIte, Nat.reduceEqDiff, j182, j202, j203, j204, j205, j223, hw1] <;> simp)⟩
  · have hin : i = n := by omega
    subst hin
    have hd : decide ((i : Int) < (i : Int)) = false := decide_eq_false (by omega)
    have hz : zb (i - i) = [] := by simp [zb]
    have hT : (List.map byteAV (putL v i)).take i = List.map byteAV (putL v i) := List.take_of_length_le (by simp [putL_len])
    have hu := unif_bytes (putL v i)
    have hl2 := putL_len v i
    have hbo := bytesOf_bytes (putL v i)
    rw [hz, List.append_nil] at hl hlen
    simp -dsimp -implicitDefEqProofs only [↓j0, ↓j1, ↓j7, ↓j10, ↓j11, ↓j12, ↓j13, ↓j15, j17, j18, j20, ↓j25, ↓j27, ↓j29, ↓j38, ↓j39, ↓j48, ↓j50, ↓j89, ↓j106, j107, ↓j121, ↓j145, ↓j146, ↓j148, ↓j149, ↓j153, j159, AV.proj, AV.offOf, j171, j172, ↓reduceIte, Nat.reduceEqDiff, j182, j185, j196, j197, j222, j223, j227, j234, j259, j403, putSt, hz, hd, hT, hu, hl2, hbo]
    exact Final.one (.inr rfl) (r := .tmp 4) rfl ⟨rfl, fun vs h => by cases h⟩ (fun vs h => by cases h) (fun vs h => by cases h) (.same _ trivial)

theorem get_step {s : List UInt8} {at_ n i : Nat} {b : UInt8} (h : s[at_ + i]? = some b) (hi : i < n) : getL ((s.drop (at_ + i)).take (n - i)) = b.toNat + 256 * getL ((s.drop (at_ + (i + 1))).take (n - (i + 1))) := by
  have hj : at_ + i < s.length := by
    rcases Nat.lt_or_ge (at_ + i) s.length with h1 | h1
    · exact h1
    · rw [List.getElem?_eq_none h1] at h; cases h
  have hb : s[at_ + i] = b := by
    rw [List.getElem?_eq_getElem hj] at h; exact Option.some.inj h
  rw [List.drop_eq_getElem_cons hj, hb, show n - i = (n - (i + 1)) + 1 by omega, List.take_succ_cons, getL]
  rfl
def getSt (s : List UInt8) (at_ n i : Nat) : St := ⟨50, [(9, .int .i64 ((i : Int) - 1)), (8, .int .u64 (getL ((s.drop (at_ + i)).take (n - i)))), (0, .str ⟨s.toArray⟩), (1, .int .i64 at_), (2, .int .i64 n), (6, .int .u64 0), (7, .bool false)], [], 0⟩
theorem get_spec (s : List UInt8) (at_ n : Nat) (hn : n ≤ 8) (h : at_ + n ≤ s.length) (hl : s.length ≤ 9223372036854775807) : ACall Try.prog 34 [.str ⟨s.toArray⟩, .int .i64 at_, .int .i64 n] [] (.tuple [.int .u64 (getL ((s.drop at_).take n)), .bool true]) [] := by
  refine ACall.run (Z := Z) (N := 50) mixed hZ Try.func34 rfl rfl (by kernel_rfl) (by simp) args_sii 0 ?_
  have d1 : decide ((n : Int) < 0) = false := decide_eq_false (by omega)
  have d2 : decide (8 < (n : Int)) = false := decide_eq_false (by omega)
  have d3 : decide ((at_ : Int) < 0) = false := decide_eq_false (by omega)
  have d4 : decide ((s.length : Int) < (at_ : Int)) = false := decide_eq_false (by omega)
  have d5 : IntKind.i64.wrap ((s.length : Int) - (at_ : Int)) = ((s.length - at_ : Nat) : Int) := by rw [wrap_i64 (by omega) (by omega)]; omega
  have d6 : decide (((s.length - at_ : Nat) : Int) < (n : Int)) = false := decide_eq_false (by omega)
  have d7 : IntKind.i64.wrap ((n : Int) - 1) = (n : Int) - 1 := wrap_i64 (by omega) (by omega)
  simp -dsimp -implicitDefEqProofs only [↓j0, ↓j1, ↓j2, ↓j7, ↓j9, ↓j12, ↓j13, ↓j14, ↓j15, ↓j16, j17, j18, j20, ↓j25, ↓j29, ↓j30, j32, j33, ↓j38, ↓j39, ↓j40, ↓j48, ↓j58, ↓j59, j83, ↓j89, j141, ↓j145, ↓j146, ↓j148, ↓j149, ↓j151, j155, j159, j161, argEnv, j163, j164, j172, j175, reduceCtorEq, ↓reduceIte, Nat.reduceAdd, Nat.reduceEqDiff, j185, j195, j196, j259, d1, d2, d3, d4, d5, d6, d7, str_bytes]
  refine AWp.loopR (Z := Z) mixed hZ (by kernel_rfl) (fun k st => k ≤ n ∧ st = getSt s at_ n k) (n0 := n) (s0 := getSt s at_ n n) ?_ ⟨Nat.le_refl _, rfl⟩ ?_ rfl
  · exact Wk.sub (by simp -dsimp -implicitDefEqProofs only [↓j25, j179, reduceCtorEq, ↓reduceIte, Nat.reduceEqDiff, j182, j183, j184, j202, j203, j204, j209, j223] <;> simp [getL])
  rintro k st ⟨hk, rfl⟩
  refine ⟨rfl, ?_⟩
  cases k with
  | zero =>
    have hd : decide ((0 : Int) ≤ ((0 : Nat) : Int) - 1) = false := rfl
    simp -dsimp -implicitDefEqProofs only [↓j0, ↓j1, ↓j7, ↓j10, ↓j11, ↓j12, ↓j13, ↓j15, j17, j18, j20, ↓j25, ↓j29, ↓j30, j32, j33, ↓j38, ↓j39, ↓j48, ↓j89, ↓j145, ↓j146, ↓j148, ↓j149, j162, j172, ↓reduceIte, Nat.reduceEqDiff, j185, j197, j233, getSt, hd]
    refine Final.many (.inr rfl) (rs := [.tmp 6, .tmp 7]) (us := [.int .u64 (getL ((s.drop at_).take n)), .bool true]) rfl ⟨⟨rfl, fun vs h => by cases h⟩, ⟨rfl, fun vs h => by cases h⟩, trivial⟩ (by simp) ⟨.same _ trivial, .same _ trivial, trivial⟩
  | succ k =>
    have hd : decide ((0 : Int) ≤ ((k + 1 : Nat) : Int) - 1) = true := decide_eq_true (by omega)
    obtain ⟨b, hb⟩ := list_get (xs := s) (i := at_ + k) (by omega)
    have hstep := get_step (n := n) hb (by omega)
    have hx : ((k + 1 : Nat) : Int) - 1 = (k : Int) := by omega
    have hw1 : IntKind.i64.wrap ((at_ : Int) + (k : Int)) = ((at_ + k : Nat) : Int) := by rw [wrap_i64 (by omega) (by omega)]; omega
    have hw2 : IntKind.i64.wrap ((k : Int) - 1) = (k : Int) - 1 := wrap_i64 (by omega) (by omega)
    have hlt := getL_lt ((s.drop (at_ + (k + 1))).take (n - (k + 1)))
    obtain ⟨g, hg⟩ : ∃ g, getL ((s.drop (at_ + (k + 1))).take (n - (k + 1))) = g := ⟨_, rfl⟩
    rw [hg] at hlt hstep
    have hg56 : g < 2 ^ 56 := by
      refine Nat.lt_of_lt_of_le hlt (Nat.pow_le_pow_right (by decide) ?_)
      have := List.length_take_le (n - (k + 1)) (s.drop (at_ + (k + 1)))
      omega
    have hbl := b.toNat_lt
    have hneg : ((8 : Int) < 0) = False := by simp
    have hsh : bShl .u64 (g : Int) 8 = ((g * 256 : Nat) : Int) := by
      have := bShl_u64 g 8
      rw [show min 8 64 = 8 from rfl, Nat.mod_eq_of_lt (by omega)] at this
      exact this
    have hor : bOr .u64 ((g * 256 : Nat) : Int) (b.toNat : Int) = ((b.toNat + 256 * g : Nat) : Int) := by
      rw [bOr_u64 (by omega) (by omega), or_add (by omega)]; congr 1; omega
    have hbt : byteAt ⟨s.toArray⟩ ((at_ + k : Nat) : Int) = (b.toNat : Int) := by
      unfold byteAt
      rw [Int.toNat_natCast, Array.getD_eq_getD_getElem?, List.getElem?_toArray, hb]; rfl
    have hwb : IntKind.u64.wrap (b.toNat : Int) = (b.toNat : Int) := by rw [wrap_u64, Nat.mod_eq_of_lt (by omega)]
    have hix : ((at_ + k : Nat) : Int) < (s.length : Int) := by omega
    simp -dsimp -implicitDefEqProofs only [↓j0, ↓j1, ↓j7, ↓j9, ↓j12, ↓j13, ↓j14, ↓j15, j17, j18, j20, ↓j25, ↓j29, ↓j30, j33, ↓j38, ↓j39, ↓j47, ↓j48, ↓j50, ↓j89, ↓j95, j111, j113, j118, ↓j145, ↓j146, ↓j147, ↓j149, j154, j155, j162, j172, reduceCtorEq, ↓reduceIte, Nat.reduceEqDiff, j182, j185, j186, j191, j208, ↓j225, j259, j280, j461, getSt, hg, hx, hw1, hw2, hneg, hsh, hor, hbt, hwb, str_bytes, hix]
    exact ⟨k, getSt s at_ n k, by omega, ⟨by omega, rfl⟩, Wk.sub (by simp -dsimp -implicitDefEqProofs only [↓j25, reduceCtorEq, ↓reduceIte, Nat.reduceEqDiff, j182, j202, j203, j204, j223, hstep] <;> simp)⟩
abbrev arrAV (l : List UInt8) : AV := .agg (l.map byteAV)
theorem putL_take (v k : Nat) : putL v (k + 1) = putL v k ++ [UInt8.ofNat (v / 2 ^ (8 * k))] := by simp [putL, List.range_succ]
theorem zb_add (a b : Nat) : zb (a + b) = zb a ++ zb b := by simp [zb, List.replicate_append_replicate]
theorem str_append (a b : List UInt8) : (ByteArray.mk a.toArray) ++ (ByteArray.mk b.toArray) = ByteArray.mk (a ++ b).toArray := by
  apply ByteArray.ext
  rw [ByteArray.data_append]
  simp
theorem notup {x y : AV} (hx : ∀ vs, x ≠ .tuple vs) (hy : ∀ vs, y ≠ .tuple vs) : ∀ z, z ∈ [x, y] → ∀ vs, z ≠ .tuple vs := fun z hz => by
  simp only [List.mem_cons, List.not_mem_nil, or_false] at hz
  rcases hz with rfl | rfl
  · exact hx
  · exact hy

theorem str_extract (l : List UInt8) (i j : Nat) : (ByteArray.mk l.toArray).extract i j = ByteArray.mk ((l.take j).drop i).toArray := by
  apply ByteArray.ext
  rw [ByteArray.data_extract]
  apply Array.ext'
  simp [List.extract_eq_take_drop, List.drop_take]
theorem args_arr {p : List UInt8} : ∀ x, x ∈ [arrAV p] → AV.on (fun _ => False) x ∧ ∀ vs, x ≠ .tuple vs := fun x hx => by
  simp only [List.mem_singleton] at hx
  subst hx
  exact ⟨on_bytes _ _, fun vs h => by cases h⟩
theorem fillB_step {l : List UInt8} {n i : Nat} {x : UInt8} (hx : l[i]? = some x) (hi : i < n) : (l.take i ++ zb (n - i)).set i x = l.take (i + 1) ++ zb (n - (i + 1)) := by
  have hil : i < l.length := by
    rcases Nat.lt_or_ge i l.length with h | h
    · exact h
    · rw [List.getElem?_eq_none h] at hx; cases hx
  have e : zb (n - i) = 0 :: zb (n - (i + 1)) := by
    rw [zb, show n - i = (n - (i + 1)) + 1 by omega, List.replicate_succ]; rfl
  have hl : (l.take i).length = i := by rw [List.length_take]; omega
  rw [e, take_succ hx, List.set_append_right _ _ (by omega), hl, Nat.sub_self]
  simp
theorem fillB_len {l : List UInt8} {n i : Nat} (hl : n ≤ l.length) (hi : i ≤ n) : (l.take i ++ zb (n - i)).length = n := by
  rw [List.length_append, List.length_take, zb_len]; omega
theorem pow_256 (i : Nat) : 2 ^ (8 * (i + 1)) = 2 ^ (8 * i) * 256 := by rw [Nat.mul_add, Nat.pow_add]
theorem getL_append (l : List UInt8) (b : UInt8) : getL (l ++ [b]) = getL l + 2 ^ (8 * l.length) * b.toNat := by
  induction l with
  | nil => simp [getL]
  | cons a l ih =>
    simp only [List.cons_append, getL, ih, List.length_cons]
    have : 2 ^ (8 * (l.length + 1)) = 256 * 2 ^ (8 * l.length) := by rw [Nat.mul_add, Nat.pow_add, Nat.mul_comm]
    rw [this, Nat.mul_add, Nat.mul_assoc]; omega
theorem get_more {s : List UInt8} {o i : Nat} {b : UInt8} (hi : i < 8) (hb : s[o + i]? = some b) :
    IntKind.u64.wrap ((getL ((s.drop o).take i) : Int) + IntKind.u64.wrap (((2 ^ (8 * i) % 18446744073709551616 : Nat) : Int) * (b.toNat : Int))) = ((getL ((s.drop o).take (i + 1)) : Nat) : Int) ∧
    IntKind.u64.wrap (((2 ^ (8 * i) % 18446744073709551616 : Nat) : Int) * 256) = ((2 ^ (8 * (i + 1)) % 18446744073709551616 : Nat) : Int) := by
  have ho : o + i < s.length := by
    rcases Nat.lt_or_ge (o + i) s.length with h | h
    · exact h
    · rw [List.getElem?_eq_none h] at hb; cases hb
  have hp : 2 ^ (8 * i) < 18446744073709551616 := Nat.lt_of_lt_of_le (Nat.pow_lt_pow_right (by decide) (show 8 * i < 64 by omega)) (Nat.le_refl _)
  have hlen : ((s.drop o).take i).length = i := by rw [List.length_take, List.length_drop]; omega
  have hd : (s.drop o)[i]? = some b := by rw [List.getElem?_drop]; exact hb
  have e : (s.drop o).take (i + 1) = (s.drop o).take i ++ [b] := take_succ hd
  have hl2 : ((s.drop o).take (i + 1)).length = i + 1 := by rw [List.length_take, List.length_drop]; omega
  have hlt := getL_lt ((s.drop o).take (i + 1))
  rw [hl2] at hlt
  have hlt2 : getL ((s.drop o).take (i + 1)) < 18446744073709551616 := Nat.lt_of_lt_of_le hlt (Nat.pow_le_pow_right (show 0 < 2 by decide) (show 8 * (i + 1) ≤ 64 by omega))
  have hg : getL ((s.drop o).take (i + 1)) = getL ((s.drop o).take i) + 2 ^ (8 * i) * b.toNat := by rw [e, getL_append, hlen]
  rw [Nat.mod_eq_of_lt hp]
  constructor
  · have h1 : ((2 ^ (8 * i) : Nat) : Int) * (b.toNat : Int) = ((2 ^ (8 * i) * b.toNat : Nat) : Int) := (Int.natCast_mul _ _).symm
    rw [h1, wrap_u64, Nat.mod_eq_of_lt (by omega), show (getL ((s.drop o).take i) : Int) + ((2 ^ (8 * i) * b.toNat : Nat) : Int) = ((getL ((s.drop o).take i) + 2 ^ (8 * i) * b.toNat : Nat) : Int) from (Int.natCast_add _ _).symm, ← hg, wrap_u64, Nat.mod_eq_of_lt hlt2]
  · have h1 : ((2 ^ (8 * i) : Nat) : Int) * 256 = ((2 ^ (8 * i) * 256 : Nat) : Int) := (Int.natCast_mul _ _).symm
    rw [h1, wrap_u64, pow_256]

theorem fok18 : fnOk Try.prog 18 = true := by kernel_rfl
theorem fok22 : fnOk Try.prog 22 = true := by kernel_rfl
theorem fok20 : fnOk Try.prog 20 = true := by kernel_rfl
theorem fok24 : fnOk Try.prog 24 = true := by kernel_rfl
theorem fok15 : fnOk Try.prog 15 = true := by kernel_rfl
theorem fok32 : fnOk Try.prog 32 = true := by kernel_rfl
theorem fok39 : fnOk Try.prog 39 = true := by kernel_rfl
theorem fok50 : fnOk Try.prog 50 = true := by kernel_rfl
theorem fok29 : fnOk Try.prog 29 = true := by kernel_rfl
theorem fok33 : fnOk Try.prog 33 = true := by kernel_rfl
theorem fok25 : fnOk Try.prog 25 = true := by kernel_rfl
theorem fok53 : fnOk Try.prog 53 = true := by kernel_rfl
theorem fok61 : fnOk Try.prog 61 = true := by kernel_rfl
theorem fok60 : fnOk Try.prog 60 = true := by kernel_rfl
theorem fok30 : fnOk Try.prog 30 = true := by kernel_rfl
theorem fok14 : fnOk Try.prog 14 = true := by kernel_rfl
theorem fok31 : fnOk Try.prog 31 = true := by kernel_rfl
theorem fok40 : fnOk Try.prog 40 = true := by kernel_rfl
theorem fok34 : fnOk Try.prog 34 = true := by kernel_rfl
theorem fok45 : fnOk Try.prog 45 = true := by kernel_rfl
theorem fok43 : fnOk Try.prog 43 = true := by kernel_rfl
theorem fok44 : fnOk Try.prog 44 = true := by kernel_rfl
theorem fok47 : fnOk Try.prog 47 = true := by kernel_rfl
theorem fok48 : fnOk Try.prog 48 = true := by kernel_rfl
theorem fok49 : fnOk Try.prog 49 = true := by kernel_rfl
theorem fok52 : fnOk Try.prog 52 = true := by kernel_rfl
theorem fok57 : fnOk Try.prog 57 = true := by kernel_rfl
theorem fok58 : fnOk Try.prog 58 = true := by kernel_rfl
end Go.Proofs.Ytimdepgenefkmaa
end
section
namespace Go.Proofs.Ytimdepgenefkmaa
open Go Go.RowKit

theorem args_i {a : Int} {k : IntKind} : ∀ x, x ∈ [AV.int k a] → AV.on (fun _ => False) x ∧ ∀ vs, x ≠ .tuple vs := fun x hx => by
  simp only [List.mem_singleton] at hx; subst hx; exact ⟨trivial, fun vs h => by cases h⟩
theorem args_is {a : Int} {k : IntKind} {s : ByteArray} : ∀ x, x ∈ [AV.int k a, AV.str s] → AV.on (fun _ => False) x ∧ ∀ vs, x ≠ .tuple vs := fun x hx => by
  simp only [List.mem_cons, List.not_mem_nil, or_false] at hx
  rcases hx with rfl | rfl
  · exact ⟨trivial, fun vs h => by cases h⟩
  · exact ⟨trivial, fun vs h => by cases h⟩
theorem args_s {s : ByteArray} : ∀ x, x ∈ [AV.str s] → AV.on (fun _ => False) x ∧ ∀ vs, x ≠ .tuple vs := fun x hx => by
  simp only [List.mem_singleton] at hx; subst hx; exact ⟨trivial, fun vs h => by cases h⟩

theorem fok59 : fnOk Try.prog 59 = true := by kernel_rfl
theorem fok62 : fnOk Try.prog 62 = true := by kernel_rfl
theorem fok63 : fnOk Try.prog 63 = true := by kernel_rfl
theorem fok64 : fnOk Try.prog 64 = true := by kernel_rfl
theorem fok65 : fnOk Try.prog 65 = true := by kernel_rfl
theorem fok66 : fnOk Try.prog 66 = true := by kernel_rfl
theorem turned_spec (r : Nat) (h : r < 4294967296) : ACall Try.prog 65 [.int .u32 r] [] (.int .u32 (crcStep r : Nat)) [] := by
  refine ACall.run (Z := Z) (N := 11) mixed hZ Try.func65 rfl rfl (by kernel_rfl) (by simp) args_i 0 ?_
  have ret : ∀ (v : Nat) (t : Env) (H : Heap) (m : Nat), v = crcStep r → look t 2 = some (.int .u32 (v : Int)) → Final Try.prog Try.f65 (.int .u32 (crcStep r : Nat)) [] .ret ⟨11, t, H, m⟩ := fun v t H m hv h =>
    Final.one (.inr rfl) (r := .tmp 2) rfl ⟨hv ▸ h, fun vs h => by cases h⟩ (fun vs h => by cases h) (fun vs h => by cases h) (.same _ trivial)
  have e1 : (r : Int).tmod 2 = ((r % 2 : Nat) : Int) := by rw [Int.tmod_eq_emod_of_nonneg (by omega)]; omega
  have e2 : IntKind.u32.wrap ((r : Int).tdiv 2) = ((r / 2 : Nat) : Int) := by
    rw [Int.tdiv_eq_ediv_of_nonneg (by omega), show (r : Int) / 2 = ((r / 2 : Nat) : Int) by omega, wrap_u32, Nat.mod_eq_of_lt (by omega)]
  have e3 : bXor .u32 ((r / 2 : Nat) : Int) 3988292384 = (((r / 2) ^^^ poly : Nat) : Int) := bXor_u32 (b := poly) (by omega) (by decide)
  simp -dsimp -implicitDefEqProofs only [↓j0, ↓j1, ↓j7, ↓j12, ↓j13, ↓j15, j17, j18, j20, ↓j25, ↓j29, ↓j30, j33, ↓j38, ↓j39, ↓j48, ↓j89, j109, ↓j145, ↓j146, ↓j149, j157, argEnv, j172, reduceCtorEq, ↓reduceIte, Int.reduceEq, j185, e1]
  refine ⟨fun hb => ?_, fun hb => ?_⟩
  · have hb' : r % 2 = 1 := by
      have : ((r % 2 : Nat) : Int) = 1 := by simpa using hb
      omega
    simp -dsimp -implicitDefEqProofs only [↓j0, ↓j1, ↓j7, ↓j10, ↓j12, ↓j15, j17, j18, j20, ↓j25, ↓j29, ↓j30, j33, ↓j38, ↓j39, ↓j48, ↓j89, j108, j112, ↓j145, ↓j146, j172, reduceCtorEq, ↓reduceIte, Int.reduceEq, j185, hb, e2, e3]
    exact ret _ _ _ _ (by rw [crcStep, if_pos hb']) rfl
  · have hb' : ¬ r % 2 = 1 := by
      intro h1; rw [h1] at hb; simp at hb
    simp -dsimp -implicitDefEqProofs only [↓j0, ↓j1, ↓j7, ↓j9, ↓j10, ↓j12, ↓j15, j17, j18, j20, ↓j25, ↓j29, ↓j30, j33, ↓j38, ↓j39, ↓j48, ↓j89, j108, ↓j145, ↓j146, j172, reduceCtorEq, ↓reduceIte, Int.reduceEq, j185, hb, e2]
    exact ret _ _ _ _ (by rw [crcStep, if_neg hb']) rfl

theorem step_spec (r : Nat) (h : r < 4294967296) : ACall Try.prog 66 [.int .u32 r] [] (.int .u32 (crcStep r : Nat)) [] := by
  refine ACall.run (Z := Z) (N := 10) mixed hZ Try.func66 rfl rfl (by kernel_rfl) (by simp) args_i 0 ?_
  have e1 : bShr .u32 (r : Int) 1 = ((r / 2 : Nat) : Int) := by
    have := bShr_nat .u32 r 1
    rw [show min 1 IntKind.u32.bits = 1 from rfl] at this
    exact this
  have e2 : bAnd .u32 (r : Int) 1 = ((r % 2 : Nat) : Int) := by
    have := bAnd_u32 (a := r) (b := 1) h (by decide)
    rw [Nat.and_one_is_mod] at this
    exact this
  have n1 : ((1 : Int) < 0) = False := by simp
  have e3 : bXor .u32 ((r / 2 : Nat) : Int) (bAnd .u32 3988292384 (IntKind.u32.wrap (0 - ((r % 2 : Nat) : Int)))) = ((crcStep r : Nat) : Int) := by
    rcases Nat.mod_two_eq_zero_or_one r with h0 | h0
    · rw [h0]
      have w : IntKind.u32.wrap (0 - ((0 : Nat) : Int)) = ((0 : Nat) : Int) := by decide
      have a := bAnd_u32 (a := poly) (b := 0) (by decide) (by decide)
      have a' : bAnd .u32 3988292384 ((0 : Nat) : Int) = ((0 : Nat) : Int) := by rw [Nat.and_zero] at a; exact a
      rw [w, a', bXor_u32 (by omega) (by decide), Nat.xor_zero, crcStep, if_neg (by omega)]
    · rw [h0]
      have w : IntKind.u32.wrap (0 - ((1 : Nat) : Int)) = ((4294967295 : Nat) : Int) := by decide
      have a := bAnd_u32 (a := poly) (b := 4294967295) (by decide) (by decide)
      have a' : bAnd .u32 3988292384 ((4294967295 : Nat) : Int) = ((poly : Nat) : Int) := by
        have e : poly &&& 4294967295 = poly := by decide
        rw [e] at a; exact a
      rw [w, a', bXor_u32 (by omega) (by decide), crcStep, if_pos h0]
  simp -dsimp -implicitDefEqProofs only [↓j0, ↓j1, ↓j7, ↓j10, ↓j12, ↓j15, j17, j18, j20, ↓j25, ↓j29, ↓j30, j33, ↓j38, ↓j39, ↓j48, ↓j55, ↓j89, j110, j112, j114, j119, ↓j145, ↓j146, argEnv, j172, reduceCtorEq, ↓reduceIte, Nat.reduceEqDiff, j185, j186, n1, unAV_neg, e1, e2, e3]
  exact Final.one (.inr rfl) (r := .tmp 2) rfl ⟨rfl, fun vs h => by cases h⟩ (fun vs h => by cases h) (fun vs h => by cases h) (.same _ trivial)

def mrSt (n : Nat) (i0 : Nat) (s : List UInt8) (i r : Nat) (x : List (Nat × AV)) : St := ⟨n, x ++ [(6, .int .i64 i), (5, .int .u32 r), (1, .str ⟨s.toArray⟩), (4, .int .u32 0)], [], 0⟩
theorem more_spec (s : List UInt8) (hl : s.length ≤ 9223372036854775807) : ACall Try.prog 64 [.int .u32 0, .str ⟨s.toArray⟩] [] (.int .u32 (crcSum s : Nat)) [] := by
  refine ACall.run (Z := Z) (N := 28) mixed hZ Try.func64 rfl rfl (by kernel_rfl) (by simp) args_is 0 ?_
  have x0 : bXor .u32 (if IntKind.u32.signed then -1 else IntKind.u32.max) 0 = ((4294967295 : Nat) : Int) := by decide
  simp -dsimp -implicitDefEqProofs only [↓j0, ↓j1, ↓j7, ↓j12, ↓j14, ↓j15, ↓j16, j17, j18, j20, ↓j25, ↓j29, ↓j30, j33, ↓j38, ↓j39, ↓j55, ↓j145, argEnv, j172, reduceCtorEq, ↓reduceIte, j196, Int.reduceNeg, unAV_xor, x0]
  refine AWp.loopR (Z := Z) mixed hZ (by kernel_rfl) (fun n st => ∃ i, i + n = s.length ∧ st = mrSt 28 0 s i (crcL 4294967295 (s.take i)) []) (n0 := s.length) (s0 := mrSt 28 0 s 0 4294967295 []) ?_ ⟨0, by omega, rfl⟩ ?_ rfl
  · exact Wk.sub (by simp -dsimp -implicitDefEqProofs only [↓j25, j171, j179, reduceCtorEq, ↓reduceIte, Nat.reduceEqDiff, j182, j183, j184, j202, j203, j204, j209, j223] <;> simp)
  rintro n st ⟨i, hi, rfl⟩
  refine ⟨rfl, ?_⟩
  have hrl : crcL 4294967295 (s.take i) < 4294967296 := crcL_lt (by decide)
  obtain ⟨r, hr⟩ : ∃ r, crcL 4294967295 (s.take i) = r := ⟨_, rfl⟩
  rw [hr] at hrl
  rcases Nat.lt_or_ge i s.length with hlt | hge
  · have hd : decide ((i : Int) < (s.length : Int)) = true := decide_eq_true (by omega)
    have hix : (i : Int) < (s.length : Int) := by omega
    obtain ⟨b, hb⟩ := list_get (xs := s) (i := i) (by omega)
    have hbt : byteAt ⟨s.toArray⟩ (i : Int) = (b.toNat : Int) := by
      unfold byteAt
      rw [Int.toNat_natCast, Array.getD_eq_getD_getElem?, List.getElem?_toArray, hb]; rfl
    have hbl := b.toNat_lt
    have hwb : IntKind.u32.wrap (b.toNat : Int) = (b.toNat : Int) := by rw [wrap_u32, Nat.mod_eq_of_lt (by omega)]
    have hxr : bXor .u32 (r : Int) (b.toNat : Int) = ((r ^^^ b.toNat : Nat) : Int) := bXor_u32 hrl (by omega)
    have hw : IntKind.i64.wrap ((i : Int) + 1) = ((i + 1 : Nat) : Int) := by rw [wrap_i64 (by omega) (by omega)]; omega
    have hnext := crcL_take hb 4294967295
    rw [hr] at hnext
    have hql := xor_byte_lt b hrl
    obtain ⟨q, hq⟩ : ∃ q, r ^^^ b.toNat = q := ⟨_, rfl⟩
    rw [hq] at hnext hql hxr
    simp -dsimp -implicitDefEqProofs only [↓j0, ↓j1, ↓j7, ↓j9, ↓j12, ↓j13, ↓j14, ↓j15, ↓j16, j17, j18, j20, ↓j25, ↓j29, ↓j30, j33, ↓j38, ↓j39, ↓j47, ↓j48, ↓j50, ↓j58, ↓j59, ↓j89, ↓j95, j112, j141, ↓j145, ↓j146, ↓j147, ↓j149, j159, j171, j172, ↓reduceIte, Nat.reduceEqDiff, j182, j185, j191, j208, ↓j225, j259, j283, j461, mrSt, hr, hix, hbt, hwb, hxr, str_bytes]
    refine AWp.loopR (Z := Z) mixed hZ (by kernel_rfl) (fun m st => ∃ j, j + m = 8 ∧ st = mrSt 28 0 s i (crcBits j q) [(21, .int .i64 j)]) (n0 := 8) (s0 := mrSt 28 0 s i q [(21, .int .i64 ((0 : Nat) : Int))]) ?_ ⟨0, by omega, rfl⟩ ?_ rfl
    · exact Wk.sub (by simp -dsimp -implicitDefEqProofs only [↓j25, j170, j171, j179, ↓reduceIte, Nat.reduceEqDiff, j182, j183, j184, j202, j203, j204, j209, j223] <;> simp)
    rintro m st ⟨j, hj, rfl⟩
    refine ⟨rfl, ?_⟩
    rcases Nat.lt_or_ge j 8 with hj8 | hj8
    · have hd2 : decide ((j : Int) < 8) = true := decide_eq_true (by omega)
      have hw2 : IntKind.i64.wrap ((j : Int) + 1) = ((j + 1 : Nat) : Int) := by rw [wrap_i64 (by omega) (by omega)]; omega
      have hst := step_spec (crcBits j q) (crcBits_lt hql j)
      simp -dsimp -implicitDefEqProofs only [↓j0, ↓j1, ↓j7, ↓j9, ↓j12, ↓j13, ↓j14, ↓j15, j17, j18, j20, ↓j25, ↓j29, ↓j30, j33, ↓j38, ↓j48, ↓j53, ↓j89, ↓j145, ↓j146, ↓j147, ↓j149, j159, j170, j171, j172, ↓reduceIte, Nat.reduceEqDiff, j185, mrSt, hd2]
      refine CallTo.pure (args := [.int .u32 (crcBits j q : Nat)]) rfl fok66 (by simp -dsimp -implicitDefEqProofs only [↓j25, ↓j29, j173, j174, ↓reduceIte]) (fun x hx => (args_i x hx).2) hst ?_
      simp -dsimp -implicitDefEqProofs only [↓j0, ↓j1, ↓j7, ↓j15, j17, j18, j20, ↓j25, ↓j29, ↓j30, j33, ↓j38, ↓j39, ↓j48, ↓j89, ↓j145, ↓j146, j154, j172, ↓reduceIte, Nat.reduceEqDiff, j185]
      exact ⟨m - 1, mrSt 28 0 s i (crcBits (j + 1) q) [(21, .int .i64 ((j + 1 : Nat) : Int))], by omega, ⟨j + 1, by omega, rfl⟩, Wk.sub (by simp -dsimp -implicitDefEqProofs only [↓j25, j170, j171, ↓reduceIte, Nat.reduceEqDiff, j182, j202, j203, j204, j223, hw2, crcBits] <;> simp)⟩
    · have hj' : j = 8 := by omega
      subst hj'
      have hd2 : decide (((8 : Nat) : Int) < 8) = false := rfl
      simp -dsimp -implicitDefEqProofs only [↓j0, ↓j1, ↓j7, ↓j11, ↓j12, ↓j13, ↓j15, j17, j18, j20, ↓j25, ↓j29, ↓j30, j33, ↓j38, ↓j39, ↓j48, ↓j89, ↓j145, ↓j146, ↓j148, ↓j149, j154, j159, j170, j171, j172, ↓reduceIte, Nat.reduceEqDiff, j185, mrSt, hd2]
      exact ⟨n - 1, mrSt 28 0 s (i + 1) (crcL 4294967295 (s.take (i + 1))) [], by omega, ⟨i + 1, by omega, rfl⟩, Wk.sub (by rw [hnext]; simp -dsimp -implicitDefEqProofs only [↓j25, j171, ↓reduceIte, Nat.reduceEqDiff, j182, j202, j203, j204, j223, hw] <;> simp)⟩
  · have hd : decide ((i : Int) < (s.length : Int)) = false := decide_eq_false (by omega)
    have hT : s.take i = s := List.take_of_length_le hge
    rw [hT] at hr
    have hfin : bXor .u32 (if IntKind.u32.signed then -1 else IntKind.u32.max) (r : Int) = ((crcSum s : Nat) : Int) := by
      have := bXor_u32 (a := 4294967295) (b := r) (by decide) hrl
      rw [xor_all hrl] at this
      rw [crcSum, hr]
      exact this
    simp -dsimp -implicitDefEqProofs only [↓j0, ↓j1, ↓j7, ↓j10, ↓j11, ↓j12, ↓j13, ↓j15, j17, j18, j20, ↓j25, ↓j29, ↓j38, ↓j39, ↓j48, ↓j55, ↓j58, ↓j59, ↓j89, j141, ↓j145, ↓j146, ↓j148, ↓j149, j159, j171, j172, ↓reduceIte, Nat.reduceEqDiff, j185, Int.reduceNeg, j259, mrSt, hT, hr, hd, unAV_xor, hfin, str_bytes]
    exact Final.one (.inr rfl) (r := .tmp 4) rfl ⟨rfl, fun vs h => by cases h⟩ (fun vs h => by cases h) (fun vs h => by cases h) (.same _ trivial)
theorem sum_spec (s : List UInt8) (hl : s.length ≤ 9223372036854775807) : ACall Try.prog 62 [.str ⟨s.toArray⟩] [] (.int .u32 (crcSum s : Nat)) [] := by
  refine ACall.run (Z := Z) (N := 5) mixed hZ Try.func62 rfl rfl (by kernel_rfl) (by simp) args_s 0 ?_
  simp -dsimp -implicitDefEqProofs only [↓j0, ↓j1, ↓j7, ↓j12, ↓j15, j17, j18, j20, ↓j25, ↓j29, ↓j30, j33, ↓j38, ↓j39, ↓j53, ↓j145, argEnv, j172, reduceCtorEq, ↓reduceIte]
  refine CallTo.pure (args := [.int .u32 0, .str ⟨s.toArray⟩]) rfl fok64 (by simp -dsimp -implicitDefEqProofs only [↓j25, ↓j29, ↓j30, j33, j173, j174, ↓reduceIte]) (fun x hx => (args_is x hx).2) (more_spec s hl) ?_
  simp -dsimp -implicitDefEqProofs only [↓j0, ↓j1, ↓j10, j17, j18, j20, ↓j25, ↓j29, ↓j39, ↓j145, j172, ↓reduceIte]
  exact Final.one (.inr rfl) (r := .tmp 2) rfl ⟨rfl, fun vs h => by cases h⟩ (fun vs h => by cases h) (fun vs h => by cases h) (.same _ trivial)
theorem rmore_spec (s : List UInt8) (hl : s.length ≤ 9223372036854775807) : ACall Try.prog 63 [.int .u32 0, .str ⟨s.toArray⟩] [] (.int .u32 (crcSum s : Nat)) [] := by
  refine ACall.run (Z := Z) (N := 30) mixed hZ Try.func63 rfl rfl (by kernel_rfl) (by simp) args_is 0 ?_
  have x0 : IntKind.u32.wrap (4294967295 - 0) = ((4294967295 : Nat) : Int) := by decide
  simp -dsimp -implicitDefEqProofs only [↓j0, ↓j1, ↓j7, ↓j12, ↓j14, ↓j15, ↓j16, j17, j18, j20, ↓j25, ↓j29, ↓j30, j33, ↓j38, ↓j39, ↓j48, ↓j89, ↓j145, ↓j146, j155, argEnv, j172, reduceCtorEq, ↓reduceIte, j185, j196, x0]
  refine AWp.loopR (Z := Z) mixed hZ (by kernel_rfl) (fun n st => ∃ i, i + n = s.length ∧ st = mrSt 30 0 s i (crcL 4294967295 (s.take i)) []) (n0 := s.length) (s0 := mrSt 30 0 s 0 4294967295 []) ?_ ⟨0, by omega, rfl⟩ ?_ rfl
  · exact Wk.sub (by simp -dsimp -implicitDefEqProofs only [↓j25, j171, j179, reduceCtorEq, ↓reduceIte, Nat.reduceEqDiff, j182, j183, j184, j202, j203, j204, j209, j223] <;> simp)
  rintro n st ⟨i, hi, rfl⟩
  refine ⟨rfl, ?_⟩
  have hrl : crcL 4294967295 (s.take i) < 4294967296 := crcL_lt (by decide)
  obtain ⟨r, hr⟩ : ∃ r, crcL 4294967295 (s.take i) = r := ⟨_, rfl⟩
  rw [hr] at hrl
  rcases Nat.lt_or_ge i s.length with hlt | hge
  · have hd : decide ((i : Int) < (s.length : Int)) = true := decide_eq_true (by omega)
    have hix : (i : Int) < (s.length : Int) := by omega
    obtain ⟨b, hb⟩ := list_get (xs := s) (i := i) (by omega)
    have hbt : byteAt ⟨s.toArray⟩ (i : Int) = (b.toNat : Int) := by
      unfold byteAt
      rw [Int.toNat_natCast, Array.getD_eq_getD_getElem?, List.getElem?_toArray, hb]; rfl
    have hbl := b.toNat_lt
    have hwb : IntKind.u32.wrap (b.toNat : Int) = (b.toNat : Int) := by rw [wrap_u32, Nat.mod_eq_of_lt (by omega)]
    have hxr : bXor .u32 (r : Int) (b.toNat : Int) = ((r ^^^ b.toNat : Nat) : Int) := bXor_u32 hrl (by omega)
    have hw : IntKind.i64.wrap ((i : Int) + 1) = ((i + 1 : Nat) : Int) := by rw [wrap_i64 (by omega) (by omega)]; omega
    have hnext := crcL_take hb 4294967295
    rw [hr] at hnext
    have hql := xor_byte_lt b hrl
    obtain ⟨q, hq⟩ : ∃ q, r ^^^ b.toNat = q := ⟨_, rfl⟩
    rw [hq] at hnext hql hxr
    simp -dsimp -implicitDefEqProofs only [↓j0, ↓j1, ↓j7, ↓j9, ↓j12, ↓j13, ↓j14, ↓j15, ↓j16, j17, j18, j20, ↓j25, ↓j29, ↓j30, j33, ↓j38, ↓j39, ↓j47, ↓j48, ↓j50, ↓j58, ↓j59, ↓j89, ↓j95, j112, j141, ↓j145, ↓j146, ↓j147, ↓j149, j159, j171, j172, ↓reduceIte, Nat.reduceEqDiff, j182, j185, j191, j208, ↓j225, j259, j283, j461, mrSt, hr, hix, hbt, hwb, hxr, str_bytes]
    refine AWp.loopR (Z := Z) mixed hZ (by kernel_rfl) (fun m st => ∃ j, j + m = 8 ∧ st = mrSt 30 0 s i (crcBits j q) [(7, .int .i64 j)]) (n0 := 8) (s0 := mrSt 30 0 s i q [(7, .int .i64 ((0 : Nat) : Int))]) ?_ ⟨0, by omega, rfl⟩ ?_ rfl
    · exact Wk.sub (by simp -dsimp -implicitDefEqProofs only [↓j25, j170, j171, j179, ↓reduceIte, Nat.reduceEqDiff, j182, j183, j184, j202, j203, j204, j209, j223] <;> simp)
    rintro m st ⟨j, hj, rfl⟩
    refine ⟨rfl, ?_⟩
    rcases Nat.lt_or_ge j 8 with hj8 | hj8
    · have hd2 : decide ((j : Int) < 8) = true := decide_eq_true (by omega)
      have hw2 : IntKind.i64.wrap ((j : Int) + 1) = ((j + 1 : Nat) : Int) := by rw [wrap_i64 (by omega) (by omega)]; omega
      have hst := turned_spec (crcBits j q) (crcBits_lt hql j)
      simp -dsimp -implicitDefEqProofs only [↓j0, ↓j1, ↓j7, ↓j9, ↓j12, ↓j13, ↓j14, ↓j15, j17, j18, j20, ↓j25, ↓j29, ↓j30, j33, ↓j38, ↓j48, ↓j53, ↓j89, ↓j145, ↓j146, ↓j147, ↓j149, j159, j170, j171, j172, ↓reduceIte, Nat.reduceEqDiff, j185, mrSt, hd2]
      refine CallTo.pure (args := [.int .u32 (crcBits j q : Nat)]) rfl fok65 (by simp -dsimp -implicitDefEqProofs only [↓j25, ↓j29, j173, j174, ↓reduceIte]) (fun x hx => (args_i x hx).2) hst ?_
      simp -dsimp -implicitDefEqProofs only [↓j0, ↓j1, ↓j7, ↓j15, j17, j18, j20, ↓j25, ↓j29, ↓j30, j33, ↓j38, ↓j39, ↓j48, ↓j89, ↓j145, ↓j146, j154, j172, ↓reduceIte, Nat.reduceEqDiff, j185]
      exact ⟨m - 1, mrSt 30 0 s i (crcBits (j + 1) q) [(7, .int .i64 ((j + 1 : Nat) : Int))], by omega, ⟨j + 1, by omega, rfl⟩, Wk.sub (by simp -dsimp -implicitDefEqProofs only [↓j25, j170, j171, ↓reduceIte, Nat.reduceEqDiff, j182, j202, j203, j204, j223, hw2, crcBits] <;> simp)⟩
    · have hj' : j = 8 := by omega
      subst hj'
      have hd2 : decide (((8 : Nat) : Int) < 8) = false := rfl
      simp -dsimp -implicitDefEqProofs only [↓j0, ↓j1, ↓j7, ↓j11, ↓j12, ↓j13, ↓j15, j17, j18, j20, ↓j25, ↓j29, ↓j30, j33, ↓j38, ↓j39, ↓j48, ↓j89, ↓j145, ↓j146, ↓j148, ↓j149, j154, j159, j170, j171, j172, ↓reduceIte, Nat.reduceEqDiff, j185, mrSt, hd2]
      exact ⟨n - 1, mrSt 30 0 s (i + 1) (crcL 4294967295 (s.take (i + 1))) [], by omega, ⟨i + 1, by omega, rfl⟩, Wk.sub (by rw [hnext]; simp -dsimp -implicitDefEqProofs only [↓j25, j171, ↓reduceIte, Nat.reduceEqDiff, j182, j202, j203, j204, j223, hw] <;> simp)⟩
  · have hd : decide ((i : Int) < (s.length : Int)) = false := decide_eq_false (by omega)
    have hT : s.take i = s := List.take_of_length_le hge
    rw [hT] at hr
    have hfin : IntKind.u32.wrap (4294967295 - (r : Int)) = ((crcSum s : Nat) : Int) := by
      rw [crcSum, hr, show (4294967295 : Int) - (r : Int) = ((4294967295 - r : Nat) : Int) by omega, wrap_u32, Nat.mod_eq_of_lt (by omega)]
    simp -dsimp -implicitDefEqProofs only [↓j0, ↓j1, ↓j7, ↓j10, ↓j11, ↓j12, ↓j13, ↓j15, j17, j18, j20, ↓j25, ↓j29, ↓j30, j33, ↓j38, ↓j39, ↓j48, ↓j58, ↓j59, ↓j89, j141, ↓j145, ↓j146, ↓j148, ↓j149, j155, j159, j171, j172, ↓reduceIte, Nat.reduceEqDiff, j185, j259, mrSt, hT, hr, hd, hfin, str_bytes]
    exact Final.one (.inr rfl) (r := .tmp 4) rfl ⟨rfl, fun vs h => by cases h⟩ (fun vs h => by cases h) (fun vs h => by cases h) (.same _ trivial)
theorem rsum_spec (s : List UInt8) (hl : s.length ≤ 9223372036854775807) : ACall Try.prog 59 [.str ⟨s.toArray⟩] [] (.int .u32 (crcSum s : Nat)) [] := by
  refine ACall.run (Z := Z) (N := 5) mixed hZ Try.func59 rfl rfl (by kernel_rfl) (by simp) args_s 0 ?_
  simp -dsimp -implicitDefEqProofs only [↓j0, ↓j1, ↓j7, ↓j12, ↓j15, j17, j18, j20, ↓j25, ↓j29, ↓j30, j33, ↓j38, ↓j39, ↓j53, ↓j145, argEnv, j172, reduceCtorEq, ↓reduceIte]
  refine CallTo.pure (args := [.int .u32 0, .str ⟨s.toArray⟩]) rfl fok63 (by simp -dsimp -implicitDefEqProofs only [↓j25, ↓j29, ↓j30, j33, j173, j174, ↓reduceIte]) (fun x hx => (args_is x hx).2) (rmore_spec s hl) ?_
  simp -dsimp -implicitDefEqProofs only [↓j0, ↓j1, ↓j10, j17, j18, j20, ↓j25, ↓j29, ↓j39, ↓j145, j172, ↓reduceIte]
  exact Final.one (.inr rfl) (r := .tmp 2) rfl ⟨rfl, fun vs h => by cases h⟩ (fun vs h => by cases h) (fun vs h => by cases h) (.same _ trivial)

def rpSt (v n i c : Nat) : St := ⟨28, [(6, .int .i64 i), (5, .str ⟨(putL v i).toArray⟩), (0, .int .u64 (v / 2 ^ (8 * i) : Nat)), (1, .int .i64 n), (4, .str ⟨#[]⟩)], [], c⟩
theorem rput_spec (v n : Nat) (hv : v < 18446744073709551616) (hn : n ≤ 8) : ACall Try.prog 48 [.int .u64 v, .int .i64 n] [] (.str ⟨(putL v n).toArray⟩) [] := by
  refine ACall.run (Z := Z) (N := 28) mixed hZ Try.func48 rfl rfl (by kernel_rfl) (by simp) args_ii 0 ?_
  have d1 : decide ((n : Int) < 0) = false := decide_eq_false (by omega)
  have d2 : decide (8 < (n : Int)) = false := decide_eq_false (by omega)
  simp -dsimp -implicitDefEqProofs only [↓j0, ↓j1, ↓j2, ↓j7, ↓j9, ↓j12, ↓j13, ↓j14, ↓j15, ↓j16, j17, j18, j20, ↓j25, ↓j29, ↓j30, j32, j33, j34, ↓j38, ↓j39, ↓j40, ↓j48, j83, ↓j89, ↓j145, ↓j146, ↓j148, ↓j149, ↓j151, j159, j161, argEnv, j163, j164, j172, j175, reduceCtorEq, ↓reduceIte, Nat.reduceEqDiff, j185, j195, j196, d1, d2]
  refine AWp.loopR (Z := Z) mixed hZ (by kernel_rfl) (fun k s => ∃ i c, i + k = n ∧ s = rpSt v n i c) (n0 := n) (s0 := rpSt v n 0 0) ?_ ⟨0, 0, by omega, rfl⟩ ?_ rfl
  · exact Wk.sub (by simp -dsimp -implicitDefEqProofs only [↓j25, j179, reduceCtorEq, ↓reduceIte, Nat.reduceMul, Nat.reduceEqDiff, j182, j183, j184, j202, j203, j204, j209, j223, Nat.reducePow] <;> simp [putL])
  rintro k s ⟨i, c, hi, rfl⟩
  refine ⟨rfl, ?_⟩
  have hql : v / 2 ^ (8 * i) < 18446744073709551616 := Nat.lt_of_le_of_lt (Nat.div_le_self _ _) hv
  have hqn : v / 2 ^ (8 * (i + 1)) = v / 2 ^ (8 * i) / 256 := by
    rw [Nat.div_div_eq_div_mul, show 8 * (i + 1) = 8 * i + 8 by omega, Nat.pow_add]
  have hpt := putL_take v i
  obtain ⟨q, hq⟩ : ∃ q, v / 2 ^ (8 * i) = q := ⟨_, rfl⟩
  obtain ⟨l, hl⟩ : ∃ l, putL v i = l := ⟨_, rfl⟩
  have hll : l.length = i := by rw [← hl, putL_len]
  rw [hq] at hql hqn hpt
  rw [hl] at hpt
  rcases Nat.lt_or_ge i n with hlt | hge
  · have hd : decide ((i : Int) < (n : Int)) = true := decide_eq_true (by omega)
    have hw : IntKind.i64.wrap ((i : Int) + 1) = ((i + 1 : Nat) : Int) := by rw [wrap_i64 (by omega) (by omega)]; omega
    have e1 : (q : Int).tmod 256 = ((q % 256 : Nat) : Int) := by rw [Int.tmod_eq_emod_of_nonneg (by omega)]; omega
    have e2 : IntKind.u64.wrap ((q : Int).tdiv 256) = ((q / 256 : Nat) : Int) := by
      rw [Int.tdiv_eq_ediv_of_nonneg (by omega), show (q : Int) / 256 = ((q / 256 : Nat) : Int) by omega, wrap_u64, Nat.mod_eq_of_lt (by omega)]
    have hby : IntKind.u8.wrap ((q % 256 : Nat) : Int) = ((q % 256 : Nat) : Int) := by rw [wrap_u8, Nat.mod_mod]
    have hbo : bytesOf [AV.int .u8 ((q % 256 : Nat) : Int)] = some [UInt8.ofNat q] := by
      simp only [bytesOf, Option.map_some]
      congr 2
      apply UInt8.toNat_inj.1
      simp
      omega
    have hu : Unif 1 [AV.int .u8 ((q % 256 : Nat) : Int)] := fun x hx => by
      simp only [List.mem_singleton] at hx; subst hx; rfl
    have hlim : i + 1 ≤ 9223372036854775807 := by omega
    have hs1 : (ByteArray.mk #[UInt8.ofNat q]).size = 1 := rfl
    have ha : (ByteArray.mk l.toArray) ++ (ByteArray.mk #[UInt8.ofNat q]) = ByteArray.mk (l ++ [UInt8.ofNat q]).toArray := str_append l [UInt8.ofNat q]
    simp -dsimp -implicitDefEqProofs only [↓j0, ↓j1, ↓j7, ↓j9, ↓j12, ↓j13, ↓j14, ↓j15, j17, j18, j20, ↓j25, ↓j27, ↓j29, ↓j30, j33, ↓j38, ↓j39, ↓j48, ↓j50, ↓j74, ↓j89, ↓j106, j107, j108, j109, j117, ↓j120, ↓j121, j125, j126, j127, j128, ↓j145, ↓j146, ↓j147, ↓j149, ↓j153, j154, j159, partsAV, AV.proj, AV.offOf, AV.size, AV.sizeL, AV.layable, j163, j166, j167, j169, j171, j172, j179, j180, reduceCtorEq, ↓reduceIte, Nat.reduceMul, Nat.reduceEqDiff, Nat.reduceLeDiff, Int.reduceEq, j182, j183, j185, j196, j197, j213, j214, j215, j217, j223, ↓j225, Nat.reducePow, j227, List.replicate, j228, j230, j231, j234, j256, j259, j403, j454, j466, rpSt, hq, hl, hd, e1, e2, hby, hbo, hu, str_bytes, hll, hs1, hlim, ha]
    exact ⟨k - 1, rpSt v n (i + 1) (c + 1), by omega, ⟨i + 1, c + 1, by omega, rfl⟩, Wk.sub (by simp -dsimp -implicitDefEqProofs only [↓j25, reduceCtorEq, ↓reduceIte, Nat.reduceEqDiff, j182, j202, j203, j204, j223, hw, hpt, hqn] <;> simp)⟩
  · have hin : i = n := by omega
    subst hin
    have hd : decide ((i : Int) < (i : Int)) = false := decide_eq_false (by omega)
    simp -dsimp -implicitDefEqProofs only [↓j0, ↓j1, ↓j7, ↓j10, ↓j11, ↓j12, ↓j13, ↓j15, j17, j18, j20, ↓j25, ↓j29, ↓j38, ↓j39, ↓j48, ↓j89, ↓j145, ↓j146, ↓j148, ↓j149, j159, j172, reduceCtorEq, ↓reduceIte, Nat.reduceEqDiff, j185, rpSt, hl, hd]
    exact Final.one (.inr rfl) (r := .tmp 4) rfl ⟨rfl, fun vs h => by cases h⟩ (fun vs h => by cases h) (fun vs h => by cases h) (.same _ trivial)

def rgSt (s : List UInt8) (o n i : Nat) : St := ⟨53, [(10, .int .i64 i), (9, .int .u64 (2 ^ (8 * i) % 18446744073709551616 : Nat)), (8, .int .u64 (getL ((s.drop o).take i))), (0, .str ⟨s.toArray⟩), (1, .int .i64 o), (2, .int .i64 n), (6, .int .u64 0), (7, .bool false)], [], 0⟩
theorem rget_spec (s : List UInt8) (o n : Nat) (hn : n ≤ 8) (h : o + n ≤ s.length) (hl : s.length ≤ 9223372036854775807) : ACall Try.prog 58 [.str ⟨s.toArray⟩, .int .i64 o, .int .i64 n] [] (.tuple [.int .u64 (getL ((s.drop o).take n)), .bool true]) [] := by
  refine ACall.run (Z := Z) (N := 53) mixed hZ Try.func58 rfl rfl (by kernel_rfl) (by simp) args_sii 0 ?_
  have d1 : decide ((n : Int) < 0) = false := decide_eq_false (by omega)
  have d2 : decide (8 < (n : Int)) = false := decide_eq_false (by omega)
  have d3 : decide ((o : Int) < 0) = false := decide_eq_false (by omega)
  have d4 : decide ((s.length : Int) < (o : Int)) = false := decide_eq_false (by omega)
  have d5 : IntKind.i64.wrap ((s.length : Int) - (o : Int)) = ((s.length - o : Nat) : Int) := by rw [wrap_i64 (by omega) (by omega)]; omega
  have d6 : decide (((s.length - o : Nat) : Int) < (n : Int)) = false := decide_eq_false (by omega)
  simp -dsimp -implicitDefEqProofs only [↓j0, ↓j1, ↓j2, ↓j7, ↓j9, ↓j12, ↓j13, ↓j14, ↓j15, ↓j16, j17, j18, j20, ↓j25, ↓j29, ↓j30, j32, j33, ↓j38, ↓j39, ↓j40, ↓j48, ↓j58, ↓j59, j83, ↓j89, j141, ↓j145, ↓j146, ↓j148, ↓j149, ↓j151, j155, j159, j161, argEnv, j163, j164, j172, j175, reduceCtorEq, ↓reduceIte, Nat.reduceAdd, Nat.reduceEqDiff, j185, j195, j196, j259, d1, d2, d3, d4, d5, d6, str_bytes]
  refine AWp.loopR (Z := Z) mixed hZ (by kernel_rfl) (fun k st => ∃ i, i + k = n ∧ st = rgSt s o n i) (n0 := n) (s0 := rgSt s o n 0) ?_ ⟨0, by omega, rfl⟩ ?_ rfl
  · exact Wk.sub (by simp -dsimp -implicitDefEqProofs only [↓j25, j167, j179, reduceCtorEq, ↓reduceIte, Nat.reduceMul, Nat.reduceEqDiff, j182, j183, j184, j202, j203, j204, j209, j223, Nat.reducePow] <;> simp [getL])
  rintro k st ⟨i, hi, rfl⟩
  refine ⟨rfl, ?_⟩
  rcases Nat.lt_or_ge i n with hlt | hge
  · have hd : decide ((i : Int) < (n : Int)) = true := decide_eq_true (by omega)
    obtain ⟨b, hb⟩ := list_get (xs := s) (i := o + i) (by omega)
    obtain ⟨m1, m2⟩ := get_more (s := s) (o := o) (show i < 8 by omega) hb
    have hw1 : IntKind.i64.wrap ((o : Int) + (i : Int)) = ((o + i : Nat) : Int) := by rw [wrap_i64 (by omega) (by omega)]; omega
    have hw2 : IntKind.i64.wrap ((i : Int) + 1) = ((i + 1 : Nat) : Int) := by rw [wrap_i64 (by omega) (by omega)]; omega
    have hbt : byteAt ⟨s.toArray⟩ ((o + i : Nat) : Int) = (b.toNat : Int) := by
      unfold byteAt
      rw [Int.toNat_natCast, Array.getD_eq_getD_getElem?, List.getElem?_toArray, hb]; rfl
    have hbl := b.toNat_lt
    have hwb : IntKind.u64.wrap (b.toNat : Int) = (b.toNat : Int) := by rw [wrap_u64, Nat.mod_eq_of_lt (by omega)]
    have hix : ((o + i : Nat) : Int) < (s.length : Int) := by omega
    simp -dsimp -implicitDefEqProofs only [↓j0, ↓j1, ↓j7, ↓j9, ↓j12, ↓j13, ↓j14, ↓j15, j17, j18, j20, ↓j25, ↓j29, ↓j30, j33, ↓j38, ↓j39, ↓j47, ↓j48, ↓j50, ↓j89, ↓j95, ↓j145, ↓j146, ↓j147, ↓j149, j154, j156, j159, j172, reduceCtorEq, ↓reduceIte, Nat.reduceEqDiff, j182, j185, j208, ↓j225, j259, j280, j461, rgSt, hd, hw1, hbt, hwb, hix, str_bytes, m1, m2]
    exact ⟨k - 1, rgSt s o n (i + 1), by omega, ⟨i + 1, by omega, rfl⟩, Wk.sub (by simp -dsimp -implicitDefEqProofs only [↓j25, reduceCtorEq, ↓reduceIte, Nat.reduceEqDiff, j182, j202, j203, j204, j223, hw2] <;> simp)⟩
  · have hin : i = n := by omega
    subst hin
    have hd : decide ((i : Int) < (i : Int)) = false := decide_eq_false (by omega)
    simp -dsimp -implicitDefEqProofs only [↓j0, ↓j1, ↓j7, ↓j10, ↓j11, ↓j12, ↓j13, ↓j15, j17, j18, j20, ↓j25, ↓j29, ↓j30, j32, ↓j38, ↓j39, ↓j48, ↓j89, ↓j145, ↓j146, ↓j148, ↓j149, j159, j172, reduceCtorEq, ↓reduceIte, Nat.reduceEqDiff, j185, rgSt, hd]
    exact Final.many (.inr rfl) (rs := [.tmp 6, .tmp 7]) (us := [.int .u64 (getL ((s.drop o).take i)), .bool true]) rfl ⟨⟨rfl, fun vs h => by cases h⟩, ⟨rfl, fun vs h => by cases h⟩, trivial⟩ (by simp) ⟨.same _ trivial, .same _ trivial, trivial⟩

end Go.Proofs.Ytimdepgenefkmaa
end
section
namespace Go.Proofs.Ytimdepgenefkmaa
open Go Go.RowKit

theorem copyB (a k b : Nat) (l x : List UInt8) : List.take a (l.map byteAV) ++ List.take k (x.map byteAV) ++ List.drop b (l.map byteAV) = (l.take a ++ x.take k ++ l.drop b).map byteAV := by
  rw [← List.map_take, ← List.map_take, ← List.map_drop, ← List.map_append, ← List.map_append]
theorem copyB0 (k b : Nat) (l x : List UInt8) : List.take k (x.map byteAV) ++ List.drop b (l.map byteAV) = (x.take k ++ l.drop b).map byteAV := by
  rw [← List.map_take, ← List.map_drop, ← List.map_append]
def pgSum (p : List UInt8) : Nat := crcSum (p.take 3 ++ (zb 4 ++ p.drop 7))
theorem psum_spec (p : List UInt8) (hp : p.length = 224) : ACall Try.prog 57 [arrAV p] [] (.int .u32 (pgSum p : Nat)) [] := by
  refine ACall.run (Z := Z) (N := 8) mixed hZ Try.func57 rfl rfl (by kernel_rfl) (by simp) args_arr 0 ?_
  have up := unif_bytes p
  have b7 : (7 : Int) ≤ ((224 : Nat) : Int) := by omega
  have hcp : List.take 3 (p.map byteAV) ++ List.take (Nat.min 4 4) [byteAV 0, byteAV 0, byteAV 0, byteAV 0] ++ List.drop (3 + Nat.min 4 4) (p.map byteAV) = (p.take 3 ++ (zb 4 ++ p.drop 7)).map byteAV := by
    rw [show List.take (Nat.min 4 4) [byteAV 0, byteAV 0, byteAV 0, byteAV 0] = (zb 4).map byteAV from rfl, ← List.map_take, ← List.map_drop, ← List.map_append, ← List.map_append, List.append_assoc]; rfl
  obtain ⟨q, hq⟩ : ∃ q, p.take 3 ++ (zb 4 ++ p.drop 7) = q := ⟨_, rfl⟩
  have hql : q.length = 224 := by rw [← hq]; simp only [List.length_append, List.length_take, List.length_drop, zb_len]; omega
  have uq := unif_bytes q
  have hbo := bytesOf_bytes q
  have hT : List.take 224 (q.map byteAV) = q.map byteAV := List.take_of_length_le (by simp; omega)
  rw [hq] at hcp
  simp -dsimp -implicitDefEqProofs only [↓j0, ↓j1, ↓j7, ↓j12, ↓j15, j17, j18, j20, j21, j22, j23, ↓j25, ↓j27, ↓j29, ↓j30, j33, j34, ↓j39, ↓j42, ↓j49, ↓j50, ↓j52, ↓j53, ↓j105, ↓j106, j107, ↓j121, ↓j145, ↓j146, ↓j153, AV.proj, AV.offOf, AV.upd, AV.layable, argEnv, j171, j172, j173, j174, ↓reduceIte, Nat.reduceAdd, Nat.reduceMul, Nat.reduceEqDiff, Nat.reduceLeDiff, Nat.reduceSub, Int.reduceLE, Int.reduceToNat, j182, j189, j196, j197, j207, j208, j214, j222, j223, j227, j230, j231, bndAV, j232, j233, j234, ↓j238, ↓j239, j240, j259, j275, j401, j403, hp, up, b7, hcp, uq, hql, hbo, hT]
  refine CallTo.pure (args := [.str ⟨q.toArray⟩]) rfl fok62 (by simp -dsimp -implicitDefEqProofs only [↓j25, ↓j29, j173, j174, ↓reduceIte]) (fun x hx => (args_s x hx).2) (sum_spec q (by omega)) ?_
  simp -dsimp -implicitDefEqProofs only [↓j0, ↓j1, ↓j10, j17, j18, j20, ↓j25, ↓j29, ↓j39, ↓j145, j171, ↓reduceIte]
  rw [pgSum, hq]
  exact Final.one (.inr rfl) (r := .tmp 2) rfl ⟨rfl, fun vs h => by cases h⟩ (fun vs h => by cases h) (fun vs h => by cases h) (.same _ trivial)
def behL (lsn : Nat) (t : List UInt8) : List UInt8 := putL lsn 8 ++ t
def sealP (k : UInt8) (no lsn : Nat) (t : List UInt8) : List UInt8 :=
  (k :: putL no 2) ++ (putL (crcSum ((k :: putL no 2) ++ (zb 4 ++ behL lsn t))) 4 ++ behL lsn t)
theorem sealP_len {k : UInt8} {no lsn : Nat} {t : List UInt8} (h : t.length = 209) : (sealP k no lsn t).length = 224 := by
  simp only [sealP, behL, List.length_append, List.length_cons, putL_len]; omega
theorem args_seal {k no lsn : Nat} {p : List UInt8} : ∀ x, x ∈ [AV.int .u8 (k : Int), .int .u16 (no : Int), .int .u64 (lsn : Int), arrAV p] → AV.on (fun _ => False) x ∧ ∀ vs, x ≠ .tuple vs := fun x hx => by
  simp only [List.mem_cons, List.not_mem_nil, or_false] at hx
  rcases hx with rfl | rfl | rfl | rfl
  · exact ⟨trivial, fun vs h => by cases h⟩
  · exact ⟨trivial, fun vs h => by cases h⟩
  · exact ⟨trivial, fun vs h => by cases h⟩
  · exact ⟨on_bytes _ _, fun vs h => by cases h⟩
theorem pseal_spec (k : UInt8) (no lsn : Nat) (hno : no < 65536) (hl : lsn < 18446744073709551616) (p : List UInt8) (hp : p.length = 224) : ACall Try.prog 44 [.int .u8 k.toNat, .int .u16 no, .int .u64 lsn, arrAV p] [] (arrAV (sealP k no lsn (p.drop 15))) [] := by
  refine ACall.run (Z := Z) (N := 27) mixed hZ Try.func44 rfl rfl (by kernel_rfl) (by simp) args_seal 0 ?_
  have up := unif_bytes p
  obtain ⟨y, hy⟩ := list_get (xs := p) (i := 0) (by omega)
  have c0 : (0 : Int) < ((224 : Nat) : Int) := by omega
  have c1 : (1 : Int) ≤ ((224 : Nat) : Int) := by omega
  have c3 : (3 : Int) ≤ ((224 : Nat) : Int) := by omega
  have c7 : (7 : Int) ≤ ((224 : Nat) : Int) := by omega
  have hset : (p.map byteAV).set 0 (AV.int .u8 (k.toNat : Int)) = (p.set 0 k).map byteAV := by rw [List.map_set]; rfl
  obtain ⟨q0, hq0⟩ : ∃ q, p.set 0 k = q := ⟨_, rfl⟩
  have hl0 : q0.length = 224 := by rw [← hq0, List.length_set, hp]
  have u0 := unif_bytes q0
  have w1 : IntKind.u64.wrap (no : Int) = (no : Int) := by rw [wrap_u64, Nat.mod_eq_of_lt (by omega)]
  have hpu := put_spec no 2 (by omega)
  have hpl := put_spec lsn 8 (by omega)
  have l2 := putL_len no 2
  have l8 := putL_len lsn 8
  rw [hq0] at hset
  simp -dsimp -implicitDefEqProofs only [↓j0, ↓j1, ↓j4, ↓j7, ↓j8, ↓j12, ↓j15, j17, j18, j19, j20, j21, j22, j23, j24, ↓j25, ↓j27, ↓j29, ↓j30, j33, ↓j38, ↓j41, ↓j42, ↓j44, ↓j46, ↓j49, ↓j50, ↓j53, ↓j78, ↓j94, j107, ↓j145, ↓j146, ↓j153, AV.proj, AV.offOf, AV.upd, AV.size, AV.sizeL, AV.layable, argEnv, j167, j170, j171, j172, j174, j177, reduceCtorEq, ↓reduceIte, Nat.reduceAdd, Nat.reduceMul, Nat.reduceEqDiff, Nat.reduceSub, Int.reduceLE, Int.reduceToNat, j182, j196, j197, j206, j207, ↓j225, bndAV, j232, j234, ↓j238, j240, ↓j245, j254, j275, j280, j419, j463, hy, c0, hset, c1, hl0, w1]
  refine CallTo.pure (args := [.int .u64 no, .int .i64 ((2 : Nat) : Int)]) rfl fok43 (by simp -dsimp -implicitDefEqProofs only [↓j25, ↓j29, ↓j30, j33, j173, j174, ↓reduceIte]; rfl) (notup (fun vs h => by cases h) fun vs h => by cases h) hpu ?_
  have m2 : Nat.min 2 223 = 2 := rfl
  have cp1 := copyB 1 2 3 q0 (putL no 2)
  obtain ⟨q1, hq1⟩ : ∃ q, q0.take 1 ++ (putL no 2).take 2 ++ q0.drop 3 = q := ⟨_, rfl⟩
  have hl1 : q1.length = 224 := by rw [← hq1]; simp only [List.length_append, List.length_take, List.length_drop, l2]; omega
  have u1 := unif_bytes q1
  rw [hq1] at cp1
  simp -dsimp -implicitDefEqProofs only [↓j3, ↓j4, j17, j18, j20, j21, j22, j23, j24, ↓j25, ↓j27, ↓j29, ↓j52, ↓j105, j107, ↓j145, ↓j146, ↓j153, AV.proj, AV.offOf, AV.upd, j170, j171, j172, j173, j174, reduceCtorEq, ↓reduceIte, Nat.reduceAdd, Nat.reduceMul, Nat.reduceEqDiff, j182, j189, j196, j214, j222, j223, ↓j239, j401, l2, u0, hl0, m2, cp1]
  refine ⟨by kernel_rfl, ?_⟩
  simp -dsimp -implicitDefEqProofs only [↓j4, ↓j8, ↓j12, ↓j15, j17, j18, j20, j24, ↓j25, ↓j27, ↓j29, ↓j30, j33, ↓j38, ↓j49, ↓j53, j107, ↓j145, ↓j146, ↓j153, AV.proj, AV.offOf, j170, j171, j172, j174, reduceCtorEq, ↓reduceIte, Nat.reduceMul, Nat.reduceEqDiff, Nat.reduceSub, Int.reduceLE, Int.reduceToNat, j182, j196, j207, bndAV, j232, ↓j238, j240, j275, hl1, c7]
  refine CallTo.pure (args := [.int .u64 lsn, .int .i64 ((8 : Nat) : Int)]) rfl fok43 (by simp -dsimp -implicitDefEqProofs only [↓j25, ↓j29, ↓j30, j33, j173, j174, ↓reduceIte]; rfl) (notup (fun vs h => by cases h) fun vs h => by cases h) hpl ?_
  have m8 : Nat.min 8 217 = 8 := rfl
  have cp2 := copyB 7 8 15 q1 (putL lsn 8)
  obtain ⟨q2, hq2⟩ : ∃ q, q1.take 7 ++ (putL lsn 8).take 8 ++ q1.drop 15 = q := ⟨_, rfl⟩
  have hl2 : q2.length = 224 := by rw [← hq2]; simp only [List.length_append, List.length_take, List.length_drop, l8]; omega
  have u2 := unif_bytes q2
  rw [hq2] at cp2
  simp -dsimp -implicitDefEqProofs only [↓j3, ↓j4, j17, j18, j20, j21, j22, j23, j24, ↓j25, ↓j27, ↓j29, ↓j52, ↓j105, j107, ↓j145, ↓j146, ↓j153, AV.proj, AV.offOf, AV.upd, j170, j171, j172, j173, j174, reduceCtorEq, ↓reduceIte, Nat.reduceAdd, Nat.reduceMul, Nat.reduceEqDiff, j182, j189, j196, j214, j222, j223, ↓j239, j401, l8, u1, hl1, m8, cp2]
  refine ⟨by kernel_rfl, ?_⟩
  simp -dsimp -implicitDefEqProofs only [↓j4, ↓j8, ↓j12, ↓j15, j17, j18, j20, j24, ↓j25, ↓j27, ↓j29, ↓j30, j33, ↓j43, ↓j49, ↓j53, ↓j76, j107, j129, ↓j145, ↓j146, ↓j153, AV.proj, AV.offOf, j170, j171, j172, j174, ↓reduceIte, Nat.reduceMul, Nat.reduceEqDiff, Nat.reduceSub, Int.reduceLE, Int.reduceToNat, j182, j196, j207, bndAV, j232, ↓j238, j240, j273, j274, j275, hl2, c3]
  refine CallTo.pure (args := [arrAV q2]) rfl fok57 (by simp -dsimp -implicitDefEqProofs only [↓j25, ↓j29, j173, j174, ↓reduceIte]) (fun x hx => (args_arr x hx).2) (psum_spec q2 hl2) ?_
  have hsl := crcSum_lt (q2.take 3 ++ (zb 4 ++ q2.drop 7))
  have w2 : IntKind.u64.wrap (pgSum q2 : Int) = (pgSum q2 : Int) := by rw [wrap_u64, pgSum, Nat.mod_eq_of_lt (by omega)]
  have l4 := putL_len (pgSum q2) 4
  have m4 : Nat.min 4 221 = 4 := rfl
  simp -dsimp -implicitDefEqProofs only [↓j4, j17, j18, j20, j24, ↓j25, ↓j29, ↓j50, ↓j53, ↓j145, j170, j171, j172, j174, ↓reduceIte, ↓j225, j280, j467, w2]
  refine CallTo.pure (args := [.int .u64 (pgSum q2 : Nat), .int .i64 ((4 : Nat) : Int)]) rfl fok43 (by simp -dsimp -implicitDefEqProofs only [↓j25, ↓j29, ↓j30, j33, j173, j174, ↓reduceIte]; rfl) (notup (fun vs h => by cases h) fun vs h => by cases h) (put_spec (pgSum q2) 4 (by omega)) ?_
  have cp3 := copyB 3 4 7 q2 (putL (pgSum q2) 4)
  obtain ⟨q3, hq3⟩ : ∃ q, q2.take 3 ++ (putL (pgSum q2) 4).take 4 ++ q2.drop 7 = q := ⟨_, rfl⟩
  have hl3 : q3.length = 224 := by rw [← hq3]; simp only [List.length_append, List.length_take, List.length_drop, l4]; omega
  have u3 := unif_bytes q3
  rw [hq3] at cp3
  have hz := zb_len 224
  simp -dsimp -implicitDefEqProofs only [↓j3, ↓j4, j17, j18, j20, j21, j22, j23, j24, ↓j25, ↓j27, ↓j29, ↓j52, ↓j105, j107, ↓j145, ↓j146, ↓j153, AV.proj, AV.offOf, AV.upd, j170, j171, j172, j173, j174, reduceCtorEq, ↓reduceIte, Nat.reduceAdd, Nat.reduceMul, Nat.reduceEqDiff, j182, j189, j196, j214, j222, j223, ↓j239, j401, l4, u2, hl2, m4, cp3]
  refine ⟨by kernel_rfl, ?_⟩
  simp -dsimp -implicitDefEqProofs only [↓j0, ↓j1, ↓j7, ↓j10, ↓j12, ↓j15, j17, j18, j19, j20, j21, j22, j23, ↓j25, ↓j27, ↓j29, ↓j43, ↓j44, ↓j76, ↓j78, j129, ↓j145, ↓j146, ↓j153, AV.proj, AV.offOf, AV.upd, AV.size, AV.layable, j170, j171, reduceCtorEq, ↓reduceIte, Nat.reduceEqDiff, j182, j240, j273, j274, hl3, hz]
  have e0 : q0 = k :: p.drop 1 := by
    rw [← hq0]
    cases p with
    | nil => simp at hp
    | cons a r => rfl
  have e1 : q1 = k :: (putL no 2 ++ p.drop 3) := by
    rw [← hq1, e0, List.take_of_length_le (l := putL no 2) (by omega)]
    simp [List.drop_drop]
  have e2 : q2 = (k :: putL no 2) ++ (q1.drop 3).take 4 ++ behL lsn (p.drop 15) := by
    rw [← hq2, List.take_of_length_le (l := putL lsn 8) (by omega), e1]
    obtain ⟨y1, y2, hy2⟩ : ∃ a b, putL no 2 = [a, b] := ⟨_, _, rfl⟩
    rw [hy2, behL]
    simp [List.drop_drop]
  have e4 : q2.take 3 = k :: putL no 2 ∧ q2.drop 7 = behL lsn (p.drop 15) := by
    have hx : ((q1.drop 3).take 4).length = 4 := by simp only [List.length_take, List.length_drop]; omega
    rw [e2]
    constructor
    · rw [List.append_assoc, List.take_append_of_le_length (by simp [l2]), List.take_of_length_le (by simp [l2])]
    · rw [List.drop_append, List.drop_eq_nil_of_le (by simp only [List.length_append, List.length_cons]; omega), List.nil_append]
      simp only [List.length_append, List.length_cons, hx, l2]
      rfl
  have e5 : q3 = sealP k no lsn (p.drop 15) := by
    rw [← hq3, List.take_of_length_le (l := putL (pgSum q2) 4) (by omega), pgSum, e4.1, e4.2, sealP, List.append_assoc]
  have hsp := sealP_len (k := k) (no := no) (lsn := lsn) (t := p.drop 15) (by simp; omega)
  rw [e5]
  exact Final.one (.inr rfl) (r := .cell 8 26) rfl ⟨1, 0, [], _, rfl, rfl, rfl, rfl, by simp -dsimp -implicitDefEqProofs only [j129, j182, j240, j273, j274, hsp]⟩ (fun vs h => by cases h) (fun vs h => by cases h) (.same _ (on_bytes _ _))
end Go.Proofs.Ytimdepgenefkmaa
end
section
namespace Go.Proofs.Ytimdepgenefkmaa
open Go Go.RowKit

theorem drop_copy {α : Type} {q x : List α} {n j m : Nat} (h : n + j ≤ q.length) (hm : n ≤ m) : (q.take (n + j) ++ x ++ q.drop m).drop n = (q.drop n).take j ++ (x ++ (q.drop n).drop (m - n)) := by
  have hl : (q.take (n + j)).length = n + j := by rw [List.length_take]; omega
  rw [List.append_assoc, List.drop_append, hl, show n - (n + j) = 0 by omega, List.drop_zero, List.drop_take, show n + j - n = j by omega, List.drop_drop, show n + (m - n) = m by omega]
def opensP (k : UInt8) (no : Nat) (p : List UInt8) : Bool :=
  ((((p.getD 0 0).toNat : Int) == (k.toNat : Int)) && ((getL ((p.drop 1).take 2) : Int) == (no : Int))) && ((getL ((p.drop 3).take 4) : Int) == (pgSum p : Int))
theorem args_opens {k no : Nat} {p : List UInt8} : ∀ x, x ∈ [AV.int .u8 (k : Int), .int .u16 (no : Int), arrAV p] → AV.on (fun _ => False) x ∧ ∀ vs, x ≠ .tuple vs := fun x hx => by
  simp only [List.mem_cons, List.not_mem_nil, or_false] at hx
  rcases hx with rfl | rfl | rfl
  · exact ⟨trivial, fun vs h => by cases h⟩
  · exact ⟨trivial, fun vs h => by cases h⟩
  · exact ⟨on_bytes _ _, fun vs h => by cases h⟩
theorem pgSum_lt (p : List UInt8) : pgSum p < 4294967296 := crcSum_lt _
theorem opens_spec (k : UInt8) (no : Nat) (hno : no < 65536) (p : List UInt8) (hp : p.length = 224) : ACall Try.prog 40 [.int .u8 k.toNat, .int .u16 no, arrAV p] [] (.bool (opensP k no p)) [] := by
  refine ACall.run (Z := Z) (N := 40) mixed hZ Try.func40 rfl rfl (by kernel_rfl) (by simp) args_opens 0 ?_
  have up := unif_bytes p
  obtain ⟨y, hy⟩ := list_get (xs := p) (i := 0) (by omega)
  have c0 : (0 : Int) < ((224 : Nat) : Int) := by omega
  have w1 : IntKind.u64.wrap (no : Int) = (no : Int) := by rw [wrap_u64, Nat.mod_eq_of_lt (by omega)]
  have hgl := pgSum_lt p
  have w2 : IntKind.u64.wrap (pgSum p : Int) = (pgSum p : Int) := by rw [wrap_u64, Nat.mod_eq_of_lt (by omega)]
  have hg1 := get_spec p 1 2 (by omega) (by omega) (by omega)
  have hg2 := get_spec p 3 4 (by omega) (by omega) (by omega)
  have hbo := bytesOf_bytes p
  have hT : List.take 224 (p.map byteAV) = p.map byteAV := List.take_of_length_le (by simp; omega)
  have hyd : p.getD 0 0 = y := by rw [List.getD_eq_getElem?_getD, hy]; rfl
  have hO : opensP k no p = ((((y.toNat : Int) == (k.toNat : Int)) && ((getL ((p.drop 1).take 2) : Int) == (no : Int))) && ((getL ((p.drop 3).take 4) : Int) == (pgSum p : Int))) := by rw [opensP, hyd]
  have fin : ∀ (r : Bool) (t : Env) (H : Heap) (m : Nat), r = opensP k no p → look t 6 = some (.bool r) → Final Try.prog Try.f40 (.bool (opensP k no p)) [] .ret ⟨40, t, H, m⟩ := fun r t H m hv h =>
    Final.one (.inr rfl) (r := .tmp 6) rfl ⟨hv ▸ h, fun vs h => by cases h⟩ (fun vs h => by cases h) (fun vs h => by cases h) (.same _ trivial)
  obtain ⟨a, ha⟩ : ∃ a, ((y.toNat : Int) == (k.toNat : Int)) = a := ⟨_, rfl⟩
  obtain ⟨g1, hG1⟩ : ∃ g, getL ((p.drop 1).take 2) = g := ⟨_, rfl⟩
  obtain ⟨g2, hG2⟩ : ∃ g, getL ((p.drop 3).take 4) = g := ⟨_, rfl⟩
  rw [hG1, hG2] at hO
  rw [hG1] at hg1
  rw [hG2] at hg2
  obtain ⟨b, hb⟩ : ∃ b, ((g1 : Int) == (no : Int)) = b := ⟨_, rfl⟩
  obtain ⟨c, hc⟩ : ∃ c, ((g2 : Int) == (pgSum p : Int)) = c := ⟨_, rfl⟩
  rw [ha, hb, hc] at hO
  simp -dsimp -implicitDefEqProofs only [↓j0, ↓j1, ↓j7, ↓j12, ↓j15, j17, j18, j20, ↓j25, ↓j27, ↓j29, ↓j30, j32, ↓j39, ↓j42, ↓j49, ↓j50, ↓j53, ↓j106, j107, ↓j121, ↓j145, ↓j146, ↓j153, AV.proj, AV.offOf, AV.layable, argEnv, j171, j172, reduceCtorEq, ↓reduceIte, Nat.reduceAdd, Nat.reduceMul, Nat.reduceEqDiff, Int.reduceToNat, j182, j196, j197, j207, j208, j222, j223, j227, bndAV, j232, j233, j234, ↓j238, j240, j259, j275, j403, hp, up, hbo, hT]
  refine CallTo.pure (args := [.str ⟨p.toArray⟩, .int .i64 ((1 : Nat) : Int), .int .i64 ((2 : Nat) : Int)]) rfl fok34 (by simp -dsimp -implicitDefEqProofs only [↓j25, ↓j29, ↓j30, j33, j173, j174, ↓reduceIte]; rfl) (fun x hx => (args_sii x hx).2) hg1 ?_
  simp -dsimp -implicitDefEqProofs only [↓j0, ↓j1, ↓j7, ↓j12, ↓j15, j17, j18, j20, ↓j25, ↓j27, ↓j29, ↓j38, ↓j39, ↓j49, ↓j50, ↓j53, ↓j57, j85, ↓j106, j107, ↓j121, ↓j145, ↓j146, ↓j153, AV.proj, AV.offOf, j163, j164, j171, ↓reduceIte, Nat.reduceMul, Nat.reduceEqDiff, Int.reduceToNat, j182, j196, j197, j207, j208, j222, j223, j227, bndAV, j232, j233, j234, ↓j238, j240, j259, j275, j403, hp, up, hbo, hT]
  refine CallTo.pure (args := [.str ⟨p.toArray⟩, .int .i64 ((3 : Nat) : Int), .int .i64 ((4 : Nat) : Int)]) rfl fok34 (by simp -dsimp -implicitDefEqProofs only [↓j25, ↓j29, ↓j30, j33, j173, j174, ↓reduceIte]; rfl) (fun x hx => (args_sii x hx).2) hg2 ?_
  simp -dsimp -implicitDefEqProofs only [↓j0, ↓j1, ↓j2, ↓j7, ↓j12, ↓j15, j17, j18, j20, ↓j25, ↓j27, ↓j29, ↓j30, j33, ↓j38, ↓j39, ↓j43, ↓j46, ↓j48, ↓j57, ↓j76, j85, ↓j89, ↓j94, j130, ↓j145, ↓j146, ↓j150, ↓j153, j157, AV.proj, AV.offOf, AV.sizeL, j163, j164, j167, j171, j175, j177, reduceCtorEq, ↓reduceIte, Nat.reduceEqDiff, Int.reduceToNat, j182, j185, j197, j206, j232, j234, j255, j275, hy, c0, ha, byteAV]
  cases a
  · simp -dsimp -implicitDefEqProofs only [↓j0, ↓j1, ↓j2, ↓j10, j17, j18, j20, ↓j25, ↓j29, ↓j30, j32, ↓j38, ↓j39, ↓j40, j82, ↓j145, ↓j148, ↓j150, j163, j164, j171, j175, ↓reduceIte, Nat.reduceEqDiff]
    exact fin false _ _ _ (by rw [hO]; rfl) rfl
  simp -dsimp -implicitDefEqProofs only [↓j1, ↓j2, j17, j18, j20, ↓j25, ↓j29, ↓j30, j32, ↓j38, ↓j40, ↓j48, ↓j50, j83, ↓j89, ↓j145, ↓j146, ↓j147, ↓j150, j157, j163, j164, j171, j175, reduceCtorEq, ↓reduceIte, Nat.reduceEqDiff, j185, ↓j225, j280, j463, w1, hb]
  cases b
  · simp -dsimp -implicitDefEqProofs only [↓j0, ↓j1, ↓j2, ↓j10, j17, j18, j20, ↓j25, ↓j29, ↓j30, j32, ↓j39, ↓j40, j82, ↓j145, ↓j148, ↓j150, j163, j164, j171, j175, ↓reduceIte, Nat.reduceEqDiff]
    exact fin false _ _ _ (by rw [hO]; rfl) rfl
  simp -dsimp -implicitDefEqProofs only [↓j2, j17, j18, j20, ↓j25, ↓j27, ↓j29, ↓j38, ↓j43, ↓j53, ↓j76, j129, ↓j145, ↓j146, ↓j147, ↓j150, ↓j153, AV.proj, AV.offOf, j163, j164, j171, j175, ↓reduceIte, Nat.reduceEqDiff, j182, j240, j273, j274, hp]
  refine CallTo.pure (args := [arrAV p]) rfl fok57 (by simp -dsimp -implicitDefEqProofs only [↓j25, ↓j29, j173, j174, ↓reduceIte]) (fun x hx => (args_arr x hx).2) (psum_spec p hp) ?_
  simp -dsimp -implicitDefEqProofs only [↓j0, ↓j1, ↓j2, ↓j10, j17, j18, j20, ↓j25, ↓j29, ↓j30, j32, ↓j39, ↓j40, ↓j48, ↓j50, j83, ↓j89, ↓j145, ↓j146, ↓j147, ↓j150, j157, j163, j164, j171, j175, ↓reduceIte, Nat.reduceEqDiff, j185, ↓j225, j280, j467, w2, hc]
  exact fin c _ _ _ (by rw [hO]; cases c <;> rfl) rfl
def lsnOf (p : List UInt8) : Nat := getL ((p.drop 7).take 8)
theorem lsn_spec (p : List UInt8) (hp : p.length = 224) : ACall Try.prog 15 [arrAV p] [] (.int .u64 (lsnOf p : Nat)) [] := by
  refine ACall.run (Z := Z) (N := 12) mixed hZ Try.func15 rfl rfl (by kernel_rfl) (by simp) args_arr 0 ?_
  have up := unif_bytes p
  have hg1 := get_spec p 7 8 (by omega) (by omega) (by omega)
  have hbo := bytesOf_bytes p
  have hT : List.take 224 (p.map byteAV) = p.map byteAV := List.take_of_length_le (by simp; omega)
  simp -dsimp -implicitDefEqProofs only [↓j0, ↓j1, ↓j7, ↓j12, ↓j15, j17, j18, j20, ↓j25, ↓j27, ↓j29, ↓j30, j33, ↓j39, ↓j42, ↓j49, ↓j50, ↓j53, ↓j106, j107, ↓j121, ↓j145, ↓j146, ↓j153, AV.proj, AV.offOf, AV.layable, argEnv, j171, j172, ↓reduceIte, Nat.reduceMul, Nat.reduceEqDiff, Int.reduceToNat, j182, j196, j197, j207, j208, j222, j223, j227, bndAV, j232, j233, j234, ↓j238, j240, j259, j275, j403, hp, up, hbo, hT]
  refine CallTo.pure (args := [.str ⟨p.toArray⟩, .int .i64 ((7 : Nat) : Int), .int .i64 ((8 : Nat) : Int)]) rfl fok34 (by simp -dsimp -implicitDefEqProofs only [↓j25, ↓j29, ↓j30, j33, j173, j174, ↓reduceIte]; rfl) (fun x hx => (args_sii x hx).2) hg1 ?_
  simp -dsimp -implicitDefEqProofs only [↓j0, ↓j1, ↓j7, ↓j10, ↓j12, ↓j15, j17, j18, j20, ↓j25, ↓j29, ↓j38, ↓j39, ↓j57, j85, ↓j145, j163, j164, j171, ↓reduceIte, Nat.reduceEqDiff]
  exact Final.one (.inr rfl) (r := .tmp 2) rfl ⟨rfl, fun vs h => by cases h⟩ (fun vs h => by cases h) (fun vs h => by cases h) (.same _ trivial)
theorem args_num {a b : Int} {k k' : IntKind} {p : List UInt8} : ∀ x, x ∈ [arrAV p, AV.int k a, AV.int k' b] → AV.on (fun _ => False) x ∧ ∀ vs, x ≠ .tuple vs := fun x hx => by
  simp only [List.mem_cons, List.not_mem_nil, or_false] at hx
  rcases hx with rfl | rfl | rfl
  · exact ⟨on_bytes _ _, fun vs h => by cases h⟩
  · exact ⟨trivial, fun vs h => by cases h⟩
  · exact ⟨trivial, fun vs h => by cases h⟩
def numAt (p : List UInt8) (o n : Nat) : Nat := getL ((p.drop o).take n)
theorem numAt_lt {p : List UInt8} {o n : Nat} : numAt p o n < 2 ^ (8 * n) := by
  refine Nat.lt_of_lt_of_le (getL_lt _) (Nat.pow_le_pow_right (by decide) ?_)
  have := List.length_take_le n (p.drop o)
  omega
theorem num_spec (p : List UInt8) (hp : p.length = 224) (o n : Nat) (hn : n ≤ 8) (ho : o + n ≤ 224) : ACall Try.prog 45 [arrAV p, .int .i64 o, .int .i64 n] [] (.int .u64 (numAt p o n : Nat)) [] := by
  refine ACall.run (Z := Z) (N := 18) mixed hZ Try.func45 rfl rfl (by kernel_rfl) (by simp) args_num 0 ?_
  have up := unif_bytes p
  have hg1 := rget_spec p o n hn (by omega) (by omega)
  have hbo := bytesOf_bytes p
  have hT : List.take 224 (p.map byteAV) = p.map byteAV := List.take_of_length_le (by simp; omega)
  simp -dsimp -implicitDefEqProofs only [↓j0, ↓j1, ↓j7, ↓j12, ↓j15, j17, j18, j20, ↓j25, ↓j27, ↓j29, ↓j30, j33, ↓j38, ↓j39, ↓j42, ↓j49, ↓j50, ↓j53, ↓j106, j107, ↓j121, ↓j145, ↓j146, ↓j153, AV.proj, AV.offOf, AV.layable, argEnv, j171, j172, reduceCtorEq, ↓reduceIte, Nat.reduceAdd, Nat.reduceMul, Nat.reduceEqDiff, Int.reduceToNat, j182, j196, j197, j207, j208, j222, j223, j227, bndAV, j232, j233, j234, ↓j238, j240, j259, j275, j403, hp, up, hbo, hT]
  refine CallTo.pure (args := [.str ⟨p.toArray⟩, .int .i64 (o : Int), .int .i64 (n : Int)]) rfl fok58 (by simp -dsimp -implicitDefEqProofs only [↓j25, ↓j29, j173, j174, ↓reduceIte, Nat.reduceEqDiff]) (fun x hx => (args_sii x hx).2) hg1 ?_
  simp -dsimp -implicitDefEqProofs only [↓j0, ↓j1, ↓j7, ↓j10, ↓j12, ↓j15, j17, j18, j20, ↓j25, ↓j29, ↓j38, ↓j39, ↓j57, j85, ↓j145, j163, j164, j171, ↓reduceIte, Nat.reduceEqDiff]
  exact Final.one (.inr rfl) (r := .tmp 6) rfl ⟨rfl, fun vs h => by cases h⟩ (fun vs h => by cases h) (fun vs h => by cases h) (.same _ trivial)
theorem rlsn_spec (p : List UInt8) (hp : p.length = 224) : ACall Try.prog 32 [arrAV p] [] (.int .u64 (lsnOf p : Nat)) [] := by
  refine ACall.run (Z := Z) (N := 5) mixed hZ Try.func32 rfl rfl (by kernel_rfl) (by simp) args_arr 0 ?_
  simp -dsimp -implicitDefEqProofs only [↓j0, ↓j1, ↓j7, ↓j12, ↓j15, j17, j18, j20, ↓j25, ↓j27, ↓j29, ↓j30, j33, ↓j39, ↓j42, ↓j43, ↓j53, ↓j76, j129, ↓j145, ↓j146, ↓j153, AV.proj, AV.offOf, AV.layable, argEnv, j171, j172, ↓reduceIte, Nat.reduceEqDiff, j182, j196, j240, j273, j274, hp]
  refine CallTo.pure (args := [arrAV p, .int .i64 ((7 : Nat) : Int), .int .i64 ((8 : Nat) : Int)]) rfl fok45 (by simp -dsimp -implicitDefEqProofs only [↓j25, ↓j29, ↓j30, j33, j173, j174, ↓reduceIte]; rfl) (fun x hx => (args_num x hx).2) (num_spec p hp 7 8 (by omega) (by omega)) ?_
  simp -dsimp -implicitDefEqProofs only [↓j0, ↓j1, ↓j10, j17, j18, j20, ↓j25, ↓j29, ↓j39, ↓j145, j171, ↓reduceIte]
  exact Final.one (.inr rfl) (r := .tmp 2) rfl ⟨rfl, fun vs h => by cases h⟩ (fun vs h => by cases h) (fun vs h => by cases h) (.same _ trivial)
structure Dt where
  lsn : Nat
  ts : Nat
  pg : Nat
  sl : UInt8
  body : List UInt8
abbrev Dt.av (d : Dt) : AV := .agg [.int .u64 d.lsn, .int .u32 d.ts, .agg [.int .u16 d.pg, .int .u8 d.sl.toNat], arrAV d.body]
structure Dt.Ok (d : Dt) : Prop where
  lsn : d.lsn < 18446744073709551616
  ts : d.ts < 4294967296
  pg : d.pg < 65536
  body : d.body.length = 64
theorem on_dt (S : Nat → Prop) (d : Dt) : AV.on S d.av := ⟨trivial, trivial, ⟨trivial, trivial, trivial⟩, on_bytes _ _, trivial⟩
theorem args_nd {no : Nat} {d : Dt} : ∀ x, x ∈ [AV.int .u16 (no : Int), d.av] → AV.on (fun _ => False) x ∧ ∀ vs, x ≠ .tuple vs := fun x hx => by
  simp only [List.mem_cons, List.not_mem_nil, or_false] at hx
  rcases hx with rfl | rfl
  · exact ⟨trivial, fun vs h => by cases h⟩
  · exact ⟨on_dt _ _, fun vs h => by cases h⟩
def dtRest (d : Dt) : List UInt8 := putL d.ts 4 ++ (putL d.pg 2 ++ (d.sl :: d.body))
theorem dtRest_len {d : Dt} (h : d.Ok) : (dtRest d).length = 71 := by
  simp only [dtRest, List.length_append, List.length_cons, putL_len, h.body]
def putData (no : Nat) (d : Dt) : List UInt8 := sealP 1 no d.lsn (dtRest d ++ zb 138)
theorem putData_len {no : Nat} {d : Dt} (h : d.Ok) : (putData no d).length = 224 := sealP_len (by rw [List.length_append, dtRest_len h, zb_len])
theorem putData_spec (no : Nat) (hno : no < 65536) (d : Dt) (hd : d.Ok) : ACall Try.prog 20 [.int .u16 no, d.av] [] (arrAV (putData no d)) [] := by
  refine ACall.run (Z := Z) (N := 32) mixed hZ Try.func20 rfl rfl (by kernel_rfl) (by simp) args_nd 0 ?_
  have hbl := hd.body
  have hz := zb_len 224
  have c15 : (15 : Int) ≤ ((224 : Nat) : Int) := by omega
  have c19 : (19 : Int) ≤ ((224 : Nat) : Int) := by omega
  have c21 : (21 : Int) < ((224 : Nat) : Int) := by omega
  have c22 : (22 : Int) ≤ ((224 : Nat) : Int) := by omega
  have hts := hd.ts
  have hpg := hd.pg
  have w1 : IntKind.u64.wrap (d.ts : Int) = (d.ts : Int) := by rw [wrap_u64, Nat.mod_eq_of_lt (by omega)]
  have w2 : IntKind.u64.wrap (d.pg : Int) = (d.pg : Int) := by rw [wrap_u64, Nat.mod_eq_of_lt (by omega)]
  have l4 := putL_len d.ts 4
  have l2 := putL_len d.pg 2
  have uz := unif_bytes (zb 224)
  simp -dsimp -implicitDefEqProofs only [↓j0, ↓j1, ↓j4, ↓j7, ↓j8, ↓j12, ↓j15, j17, j18, j20, j24, ↓j25, ↓j27, ↓j29, ↓j30, j33, ↓j41, ↓j42, ↓j43, ↓j45, ↓j49, ↓j50, ↓j53, ↓j76, ↓j79, j107, j130, ↓j145, ↓j146, ↓j153, AV.proj, AV.offOf, AV.size, AV.sizeL, AV.layable, argEnv, j163, j164, j166, j167, j170, j171, j172, j174, reduceCtorEq, ↓reduceIte, Nat.reduceAdd, Nat.reduceMul, Nat.reduceEqDiff, Nat.reduceSub, Int.reduceLE, Int.reduceToNat, j182, j196, j197, j207, ↓j225, bndAV, j232, ↓j238, j240, j275, j280, j282, j377, j419, j467, hz, c15, w1]
  refine CallTo.pure (args := [.int .u64 d.ts, .int .i64 ((4 : Nat) : Int)]) rfl fok43 (by simp -dsimp -implicitDefEqProofs only [↓j25, ↓j29, ↓j30, j33, j173, j174, ↓reduceIte]; rfl) (notup (fun vs h => by cases h) fun vs h => by cases h) (put_spec d.ts 4 (by omega)) ?_
  have m4 : Nat.min 4 209 = 4 := rfl
  have cp1 := copyB 15 4 19 (zb 224) (putL d.ts 4)
  obtain ⟨q1, hq1⟩ : ∃ q, (zb 224).take 15 ++ (putL d.ts 4).take 4 ++ (zb 224).drop 19 = q := ⟨_, rfl⟩
  have hl1 : q1.length = 224 := by rw [← hq1]; simp only [List.length_append, List.length_take, List.length_drop, l4, hz]; omega
  have u1 := unif_bytes q1
  rw [hq1] at cp1
  simp -dsimp -implicitDefEqProofs only [↓j3, ↓j4, j17, j18, j20, j21, j22, j23, j24, ↓j25, ↓j27, ↓j29, ↓j52, ↓j105, j107, ↓j145, ↓j146, ↓j153, AV.proj, AV.offOf, AV.upd, j170, j171, j172, j173, j174, reduceCtorEq, ↓reduceIte, Nat.reduceAdd, Nat.reduceMul, Nat.reduceEqDiff, j182, j189, j196, j214, j222, j223, ↓j239, j401, l4, uz, hz, m4, cp1]
  refine ⟨by kernel_rfl, ?_⟩
  simp -dsimp -implicitDefEqProofs only [↓j4, ↓j8, ↓j12, ↓j15, j17, j18, j20, j24, ↓j25, ↓j27, ↓j29, ↓j30, j33, ↓j43, ↓j45, ↓j49, ↓j50, ↓j53, ↓j76, ↓j79, j107, j130, ↓j145, ↓j146, ↓j153, AV.proj, AV.offOf, AV.size, AV.sizeL, j163, j164, j166, j167, j170, j171, j172, j174, reduceCtorEq, ↓reduceIte, Nat.reduceAdd, Nat.reduceMul, Nat.reduceEqDiff, Nat.reduceSub, Int.reduceLE, Int.reduceToNat, j182, j196, j197, j207, ↓j225, bndAV, j232, ↓j238, j240, j261, j275, j280, j287, j380, j463, hl1, c19, w2]
  refine CallTo.pure (args := [.int .u64 d.pg, .int .i64 ((2 : Nat) : Int)]) rfl fok43 (by simp -dsimp -implicitDefEqProofs only [↓j25, ↓j29, ↓j30, j33, j173, j174, ↓reduceIte]; rfl) (notup (fun vs h => by cases h) fun vs h => by cases h) (put_spec d.pg 2 (by omega)) ?_
  have m2 : Nat.min 2 205 = 2 := rfl
  have cp2 := copyB 19 2 21 q1 (putL d.pg 2)
  obtain ⟨q2, hq2⟩ : ∃ q, q1.take 19 ++ (putL d.pg 2).take 2 ++ q1.drop 21 = q := ⟨_, rfl⟩
  have hl2 : q2.length = 224 := by rw [← hq2]; simp only [List.length_append, List.length_take, List.length_drop, l2]; omega
  have u2 := unif_bytes q2
  rw [hq2] at cp2
  obtain ⟨y, hy⟩ := list_get (xs := q2) (i := 21) (by omega)
  have hsz : AV.sizeL ((q2.map byteAV).take 21) = 21 * 1 := u2.sizeL_take (by simp; omega)
  have hset : (q2.map byteAV).set 21 (AV.int .u8 (d.sl.toNat : Int)) = (q2.set 21 d.sl).map byteAV := by rw [List.map_set]; rfl
  obtain ⟨q3, hq3⟩ : ∃ q, q2.set 21 d.sl = q := ⟨_, rfl⟩
  have hl3 : q3.length = 224 := by rw [← hq3, List.length_set, hl2]
  have u3 := unif_bytes q3
  rw [hq3] at hset
  have ub := unif_bytes d.body
  have m64 : Nat.min 64 202 = 64 := rfl
  have hT : List.take 64 (d.body.map byteAV) = d.body.map byteAV := List.take_of_length_le (by simp; omega)
  have cp4 := copyB 22 64 86 q3 d.body
  rw [hT] at cp4
  obtain ⟨q4, hq4⟩ : ∃ q, q3.take 22 ++ d.body.take 64 ++ q3.drop 86 = q := ⟨_, rfl⟩
  have hl4 : q4.length = 224 := by rw [← hq4]; simp only [List.length_append, List.length_take, List.length_drop]; omega
  have u4 := unif_bytes q4
  rw [hq4] at cp4
  simp -dsimp -implicitDefEqProofs only [↓j3, ↓j4, j17, j18, j20, j21, j22, j23, j24, ↓j25, ↓j27, ↓j29, ↓j52, ↓j105, j107, ↓j145, ↓j146, ↓j153, AV.proj, AV.offOf, AV.upd, j170, j171, j172, j173, j174, reduceCtorEq, ↓reduceIte, Nat.reduceAdd, Nat.reduceMul, Nat.reduceEqDiff, j182, j189, j196, j214, j222, j223, ↓j239, j401, l2, u1, hl1, m2, cp2]
  refine ⟨by kernel_rfl, ?_⟩
  simp -dsimp -implicitDefEqProofs only [↓j0, ↓j1, ↓j3, ↓j4, ↓j7, ↓j8, ↓j12, ↓j15, j17, j18, j19, j20, j21, j22, j23, j24, ↓j25, ↓j27, ↓j29, ↓j30, j33, ↓j43, ↓j44, ↓j45, ↓j46, ↓j49, ↓j52, ↓j76, ↓j78, ↓j79, ↓j94, ↓j106, j107, j130, ↓j145, ↓j146, ↓j153, AV.proj, AV.offOf, AV.upd, AV.size, AV.sizeL, AV.layable, j163, j164, j166, j167, j170, j171, j172, j173, j174, j177, reduceCtorEq, ↓reduceIte, Nat.reduceAdd, Nat.reduceMul, Nat.reduceEqDiff, Nat.reduceSub, Int.reduceLE, Int.reduceToNat, j182, j189, j196, j197, j206, j207, j208, j213, j214, j215, j222, j223, j227, bndAV, j232, j233, j234, ↓j238, ↓j239, j240, ↓j245, j254, j255, j275, j290, j368, j380, j383, j401, hbl, hy, c21, hsz, hset, hl3, u3, c22, ub, m64, hT, cp4]
  refine ⟨by kernel_rfl, ?_⟩
  simp -dsimp -implicitDefEqProofs only [↓j1, ↓j7, ↓j12, ↓j15, j17, j18, j20, ↓j25, ↓j27, ↓j29, ↓j38, ↓j43, ↓j45, ↓j53, ↓j76, ↓j79, j129, j130, ↓j145, ↓j146, ↓j153, AV.proj, AV.offOf, AV.sizeL, j163, j167, j171, reduceCtorEq, ↓reduceIte, Nat.reduceEqDiff, j182, j197, j240, j273, j274, j279, j374, hl4]
  have e4 : q4.drop 15 = dtRest d ++ zb 138 := by
    obtain ⟨a1, a2, a3, a4, ha⟩ : ∃ a b c e, putL d.ts 4 = [a, b, c, e] := ⟨_, _, _, _, rfl⟩
    obtain ⟨b1, b2, hb⟩ : ∃ a b, putL d.pg 2 = [a, b] := ⟨_, _, rfl⟩
    have d1 : q1.drop 15 = putL d.ts 4 ++ zb 205 := by
      rw [← hq1, List.take_of_length_le (l := putL d.ts 4) (by omega), drop_copy (j := 0) (by rw [hz]; omega) (by omega)]
      simp [zb]
    have d2 : q2.drop 15 = putL d.ts 4 ++ (putL d.pg 2 ++ zb 203) := by
      rw [← hq2, List.take_of_length_le (l := putL d.pg 2) (by omega), drop_copy (n := 15) (j := 4) (by omega) (by omega), d1, ha, hb]
      simp [zb]
    have d3 : q3.drop 15 = putL d.ts 4 ++ (putL d.pg 2 ++ (d.sl :: zb 202)) := by
      rw [← hq3, List.drop_set, if_neg (by omega), d2, ha, hb]
      rfl
    rw [← hq4, List.take_of_length_le (l := d.body) (by omega), drop_copy (n := 15) (j := 7) (by omega) (by omega), d3, dtRest, ha, hb]
    simp [zb]
  have hps := pseal_spec 1 no d.lsn hno hd.lsn q4 hl4
  have hpl := putData_len (no := no) hd
  rw [e4] at hps
  refine CallTo.pure (args := [.int .u8 ((1 : UInt8).toNat : Nat), .int .u16 no, .int .u64 d.lsn, arrAV q4]) rfl fok44 (by simp -dsimp -implicitDefEqProofs only [↓j25, ↓j29, ↓j30, j33, j173, j174, ↓reduceIte, Nat.reduceEqDiff]; rfl) (fun x hx => (args_seal x hx).2) hps ?_
  simp -dsimp -implicitDefEqProofs only [↓j1, j17, j18, j20, ↓j25, ↓j27, ↓j29, ↓j44, ↓j78, ↓j145, ↓j153, AV.proj, AV.offOf, AV.size, AV.layable, j171, j179, ↓reduceIte, Nat.reduceEqDiff, j184, j240, j273, hz]
  have hpl' : (sealP 1 no d.lsn (dtRest d ++ zb 138)).length = 224 := hpl
  simp -dsimp -implicitDefEqProofs only [↓j0, ↓j10, j17, j19, j20, j21, j22, j23, ↓j146, AV.upd, j170, j171, reduceCtorEq, ↓reduceIte, Nat.reduceEqDiff, j182, hpl']
  exact Final.one (.inr rfl) (r := .cell 4 26) rfl ⟨1, 0, [], _, rfl, rfl, rfl, rfl, by simp -dsimp -implicitDefEqProofs only [j129, j182, j240, j273, j274, hpl']⟩ (fun vs h => by cases h) (fun vs h => by cases h) (.same _ (on_bytes _ _))
end Go.Proofs.Ytimdepgenefkmaa
end
