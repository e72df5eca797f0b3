/- The document's pages: laid as one text. -/
import Derived.Test.YtbellkdglifahaaP4
set_option linter.unusedVariables false
set_option linter.unusedSimpArgs false
namespace Go.Proofs.Ytbellkdglifahaa
open Go Go.RowKit

theorem args_laid {k no lsn : Nat} {s : ByteArray} : ∀ x, x ∈ [AV.int .u8 (k : Int), .int .u16 (no : Int), .int .u64 (lsn : Int), .str s] → AV.on (fun _ => False) x ∧ ∀ vs, x ≠ .tuple vs := fun x hx => by
  simp only [List.mem_cons, List.not_mem_nil, or_false] at hx
  rcases hx with rfl | rfl | rfl | rfl <;> exact ⟨trivial, fun vs h => by cases h⟩
def rlT (k : UInt8) (no lsn : Nat) (r : List UInt8) (i : Nat) : Env := [(10, .str ⟨(putL lsn 8 ++ r ++ zb i).toArray⟩), (9, .str ⟨(k :: putL no 2).toArray⟩), (8, .ptr 0 0 [])]
def rlSt (k : UInt8) (no lsn : Nat) (r : List UInt8) (i : Nat) : St := ⟨51, rlT k no lsn r i, [(0, .cells (arrAV (zb 224)))], 2⟩
def rlT2 (s : List UInt8) (i : Nat) : Env := [(13, .int .i64 i), (12, .ptr 2 0 []), (11, .str ⟨s.toArray⟩), (8, .ptr 0 0 [])]
def rlSt2 (s : List UInt8) (i : Nat) : St := ⟨51, rlT2 s i, [(2, .cells (arrAV (s.take i ++ zb (224 - i)))), (0, .cells (arrAV (zb 224)))], 3⟩
theorem byteAt_list {s : List UInt8} {i : Nat} {b : UInt8} (h : s[i]? = some b) : byteAt ⟨s.toArray⟩ (i : Int) = (b.toNat : Int) := by
  unfold byteAt
  rw [Int.toNat_natCast, Array.getD_eq_getD_getElem?, List.getElem?_toArray, h]; rfl
theorem laid_spec (k : UInt8) (no lsn : Nat) (hno : no < 65536) (hlsn : lsn < 18446744073709551616) (r : List UInt8) (hr : r.length ≤ 209) :
    ACall Try.prog 34 [.int .u8 k.toNat, .int .u16 no, .int .u64 lsn, .str ⟨r.toArray⟩] [] (arrAV (sealP k no lsn (r ++ zb (209 - r.length)))) [] := by
  refine ACall.run (Z := Z) (N := 51) mixed hZ Try.func34 rfl rfl (by kernel_rfl) (by simp) args_laid 0 ?_
  have hbo : bytesOf [AV.int .u8 (k.toNat : Int)] = some [k] := bytesOf_bytes [k]
  have hu : Unif 1 [AV.int .u8 (k.toNat : Int)] := fun x hx => by
    simp only [List.mem_singleton] at hx; subst hx; rfl
  have w1 : IntKind.u64.wrap (no : Int) = (no : Int) := by rw [wrap_u64, Nat.mod_eq_of_lt (by omega)]
  have hz := zb_len 224
  have l2 := putL_len no 2
  have l8 := putL_len lsn 8
  simp -dsimp -implicitDefEqProofs only [↓j0, ↓j1, ↓j4, ↓j7, ↓j8, ↓j12, ↓j15, j17, j18, j20, j24, ↓j25, ↓j27, ↓j29, ↓j38, ↓j41, ↓j50, ↓j53, ↓j74, ↓j106, j107, ↓j121, j125, j126, j127, j128, ↓j145, ↓j146, ↓j153, partsAV, AV.proj, AV.offOf, AV.size, AV.sizeL, AV.layable, argEnv, j163, j166, j167, j169, j170, j171, j172, j173, j174, j179, j180, reduceCtorEq, ↓reduceIte, Nat.reduceAdd, Nat.reduceMul, Nat.reduceEqDiff, Nat.reduceLeDiff, j182, j183, j196, j197, j213, j214, j215, j217, j223, ↓j225, Nat.reducePow, j227, List.replicate, j228, j230, j231, j234, j259, j265, j337, j367, j384, j393, hbo, hu, w1]
  refine CallTo.pure (args := [.int .u64 no, .int .i64 ((2 : Nat) : Int)]) rfl fok35 (by simp -dsimp -implicitDefEqProofs only [↓j25, ↓j29, ↓j30, j33, j173, j174, ↓reduceIte]; rfl) (notup (fun vs h => by cases h) fun vs h => by cases h) (rput_spec no 2 (by omega) (by omega)) ?_
  have hs1 : (ByteArray.mk #[k]).size = 1 := rfl
  have ha : (ByteArray.mk #[k]) ++ (ByteArray.mk (putL no 2).toArray) = ByteArray.mk (k :: putL no 2).toArray := str_append [k] (putL no 2)
  have hlim : 1 + 2 ≤ 9223372036854775807 := by omega
  simp -dsimp -implicitDefEqProofs only [↓j3, ↓j4, j17, j18, j20, j24, ↓j25, ↓j29, ↓j39, ↓j48, j117, ↓j120, ↓j145, j170, j171, j172, j174, ↓reduceIte, Nat.reduceAdd, Nat.reduceEqDiff, str_bytes, hs1, ha, l2, hlim]
  refine ⟨by kernel_rfl, ?_⟩
  simp -dsimp -implicitDefEqProofs only [↓j1, ↓j7, ↓j12, ↓j15, j17, j18, j20, ↓j25, ↓j29, ↓j38, ↓j53, ↓j145, j171, reduceCtorEq, ↓reduceIte, Nat.reduceEqDiff]
  refine CallTo.pure (args := [.int .u64 lsn, .int .i64 ((8 : Nat) : Int)]) rfl fok35 (by simp -dsimp -implicitDefEqProofs only [↓j25, ↓j29, ↓j30, j33, j173, j174, ↓reduceIte]; rfl) (notup (fun vs h => by cases h) fun vs h => by cases h) (rput_spec lsn 8 (by omega) (by omega)) ?_
  have hlim2 : 8 + r.length ≤ 9223372036854775807 := by omega
  simp -dsimp -implicitDefEqProofs only [↓j0, ↓j1, ↓j12, ↓j14, ↓j16, j17, j18, j20, ↓j25, ↓j29, ↓j38, ↓j39, ↓j48, j117, ↓j120, ↓j145, j171, reduceCtorEq, ↓reduceIte, Nat.reduceEqDiff, str_bytes, str_append, l8, hlim2]
  refine AWp.loopR (Z := Z) mixed hZ (by kernel_rfl) (fun n s => ∃ i, i + n = 209 - r.length ∧ s = rlSt k no lsn r i) (n0 := 209 - r.length) (s0 := rlSt k no lsn r 0) ?_ ⟨0, by omega, rfl⟩ ?_ rfl
  · exact Wk.sub (by simp -dsimp -implicitDefEqProofs only [↓j25, ↓j27, j179, reduceCtorEq, ↓reduceIte, Nat.reduceEqDiff, j182, j183, j202, j203, j204, j205, j223, rlT] <;> simp [zb])
  rintro n s ⟨i, hi, rfl⟩
  refine ⟨rfl, ?_⟩
  obtain ⟨b, hb⟩ : ∃ b, putL lsn 8 ++ r ++ zb i = b := ⟨_, rfl⟩
  have hbl : b.length = 8 + r.length + i := by rw [← hb]; simp only [List.length_append, l8, zb_len]
  rcases Nat.lt_or_ge i (209 - r.length) with hlt | hge
  · have hd : decide ((b.length : Int) < 217) = true := decide_eq_true (by omega)
    have hs0 : (ByteArray.mk #[0]).size = 1 := rfl
    have hap : (ByteArray.mk b.toArray) ++ (ByteArray.mk #[0]) = ByteArray.mk (putL lsn 8 ++ r ++ zb (i + 1)).toArray := by
      have := str_append b [0]
      rw [show zb (i + 1) = zb i ++ [0] by rw [zb_add]; rfl, ← List.append_assoc, hb]
      exact this
    have hlim3 : b.length + 1 ≤ 9223372036854775807 := by omega
    simp -dsimp -implicitDefEqProofs only [↓j0, ↓j1, ↓j7, ↓j9, ↓j12, ↓j13, ↓j14, ↓j15, j17, j18, j20, ↓j25, ↓j29, ↓j30, j33, j34, ↓j38, ↓j39, ↓j48, ↓j58, ↓j59, ↓j89, j117, ↓j120, j141, ↓j145, ↓j146, ↓j147, ↓j149, j159, j171, ↓reduceIte, Nat.reduceEqDiff, j185, j259, rlSt, rlT, hb, str_bytes, hd, hs0, hap, hlim3]
    exact ⟨n - 1, rlSt k no lsn r (i + 1), by omega, ⟨i + 1, by omega, rfl⟩, Wk.sub (by simp -dsimp -implicitDefEqProofs only [↓j25, ↓j27, ↓reduceIte, Nat.reduceEqDiff, j182, j202, j203, j204, j205, j223, rlT] <;> simp)⟩
  have hi2 : i = 209 - r.length := by omega
  subst hi2
  have hb2 : b = behL lsn (r ++ zb (209 - r.length)) := by rw [← hb, behL, List.append_assoc]
  have hd : decide ((b.length : Int) < 217) = false := decide_eq_false (by omega)
  obtain ⟨f, hf⟩ : ∃ f, k :: putL no 2 = f := ⟨_, rfl⟩
  have hfl : f.length = 3 := by rw [← hf]; simp [l2]
  have hz4 : (ByteArray.mk #[0, 0, 0, 0]).size = 4 := rfl
  have ha4 : (ByteArray.mk f.toArray) ++ (ByteArray.mk #[0, 0, 0, 0]) = ByteArray.mk (f ++ zb 4).toArray := str_append f (zb 4)
  have hl7 : (f ++ zb 4).length = 7 := by rw [List.length_append, hfl, zb_len]
  have hq1 : 3 + 4 ≤ 9223372036854775807 := by omega
  have hq2 : 7 + b.length ≤ 9223372036854775807 := by omega
  have hsl := crcSum_lt (f ++ zb 4 ++ b)
  have w2 : IntKind.u64.wrap (crcSum (f ++ zb 4 ++ b) : Int) = (crcSum (f ++ zb 4 ++ b) : Int) := by rw [wrap_u64, Nat.mod_eq_of_lt (by omega)]
  have l4 := putL_len (crcSum (f ++ zb 4 ++ b)) 4
  have hl7' : (f ++ putL (crcSum (f ++ zb 4 ++ b)) 4).length = 7 := by rw [List.length_append, hfl, l4]
  have hsp : f ++ putL (crcSum (f ++ zb 4 ++ b)) 4 ++ b = sealP k no lsn (r ++ zb (209 - r.length)) := by
    rw [sealP, ← hb2, hf, List.append_assoc, List.append_assoc]
  have hspl : (sealP k no lsn (r ++ zb (209 - r.length))).length = 224 := sealP_len (by rw [List.length_append, zb_len]; omega)
  simp -dsimp -implicitDefEqProofs only [↓j0, ↓j1, ↓j7, ↓j11, ↓j12, ↓j13, ↓j15, j17, j18, j20, ↓j25, ↓j29, ↓j30, j33, j34, ↓j38, ↓j48, ↓j53, ↓j58, ↓j59, ↓j89, j117, ↓j120, j141, ↓j145, ↓j146, ↓j148, ↓j149, j159, j171, ↓reduceIte, Nat.reduceAdd, Nat.reduceEqDiff, j185, j259, rlSt, rlT, hb, hf, str_bytes, hd, hfl, hz4, ha4, hl7, hq1, hq2, str_append]
  refine CallTo.pure (args := [.str ⟨(f ++ zb 4 ++ b).toArray⟩]) rfl fok40 (by simp -dsimp -implicitDefEqProofs only [↓j25, ↓j29, j173, j174, ↓reduceIte]) (fun x hx => (args_s x hx).2) (rsum_spec _ (by simp only [List.length_append, hfl, hbl, zb_len]; omega)) ?_
  simp -dsimp -implicitDefEqProofs only [↓j1, j17, j18, j20, ↓j25, ↓j29, ↓j50, ↓j53, ↓j145, j171, ↓reduceIte, ↓j225, j265, j395, w2]
  refine CallTo.pure (args := [.int .u64 (crcSum (f ++ zb 4 ++ b) : Nat), .int .i64 ((4 : Nat) : Int)]) rfl fok35 (by simp -dsimp -implicitDefEqProofs only [↓j25, ↓j29, ↓j30, j33, j173, j174, ↓reduceIte]; rfl) (notup (fun vs h => by cases h) fun vs h => by cases h) (rput_spec _ 4 (by omega) (by omega)) ?_
  simp -dsimp -implicitDefEqProofs only [↓j0, ↓j1, ↓j7, ↓j12, ↓j14, ↓j15, ↓j16, j17, j18, j20, ↓j25, ↓j29, ↓j30, j33, ↓j38, ↓j39, ↓j41, ↓j48, j117, ↓j120, ↓j145, j170, j171, ↓reduceIte, Nat.reduceAdd, Nat.reduceEqDiff, j367, str_bytes, str_append, l4, hfl, hl7', hq1, hq2, hsp]
  obtain ⟨p, hp⟩ : ∃ p, sealP k no lsn (r ++ zb (209 - r.length)) = p := ⟨_, rfl⟩
  rw [hp] at hspl
  simp only [hp]
  refine AWp.loopR (Z := Z) mixed hZ (by kernel_rfl) (fun n s => ∃ i, i + n = 224 ∧ s = rlSt2 p i) (n0 := 224) (s0 := rlSt2 p 0) ?_ ⟨0, by omega, rfl⟩ ?_ rfl
  · exact Wk.sub (by simp -dsimp -implicitDefEqProofs only [↓j25, ↓j27, j167, j171, j179, reduceCtorEq, ↓reduceIte, Nat.reduceEqDiff, j182, j183, j184, j202, j203, j204, j205, j209, j223, j233, rlT2] <;> simp)
  rintro n2 s ⟨i, hi, rfl⟩
  refine ⟨rfl, ?_⟩
  have hll := fillB_len (l := p) (n := 224) (i := i) (by omega) (by omega)
  rcases Nat.lt_or_ge i 224 with hlt2 | hge2
  · obtain ⟨x, hx⟩ := list_get (xs := p) (i := i) (by omega)
    have hst := fillB_step hx hlt2
    obtain ⟨q, hq⟩ : ∃ q, p.take i ++ zb (224 - i) = q := ⟨_, rfl⟩
    rw [hq] at hll hst
    obtain ⟨y, hy⟩ := list_get (xs := q) (i := i) (by omega)
    have f1 : decide ((i : Int) < 224) = true := decide_eq_true (by omega)
    have f2 : (i : Int) < ((224 : Nat) : Int) := by omega
    have hbt := byteAt_list hx
    have hsz : AV.sizeL ((q.map byteAV).take i) = i * 1 := (unif_bytes q).sizeL_take (by simp; omega)
    have hset : (q.map byteAV).set i (AV.int .u8 (x.toNat : Int)) = (p.take (i + 1) ++ zb (224 - (i + 1))).map byteAV := by
      rw [← hst, List.map_set]; rfl
    have hw : IntKind.i64.wrap ((i : Int) + 1) = ((i + 1 : Nat) : Int) := by rw [wrap_i64 (by omega) (by omega)]; omega
    simp -dsimp -implicitDefEqProofs only [↓j0, ↓j1, ↓j7, ↓j9, ↓j12, ↓j13, ↓j14, ↓j15, j17, j18, j19, j20, j21, j22, j23, ↓j25, ↓j27, ↓j29, ↓j30, j33, ↓j38, ↓j39, ↓j44, ↓j46, ↓j47, ↓j48, ↓j78, ↓j89, ↓j94, ↓j95, ↓j145, ↓j146, ↓j147, ↓j149, ↓j153, j154, j159, AV.proj, AV.offOf, AV.upd, AV.size, AV.layable, j170, j171, j177, reduceCtorEq, ↓reduceIte, Nat.reduceEqDiff, j182, j185, j196, j197, j206, j207, j208, ↓j245, j254, j259, j302, rlSt2, rlT2, hq, f1, f2, str_bytes, hspl, hbt, hy, hsz, hset]
    exact ⟨n2 - 1, rlSt2 p (i + 1), by omega, ⟨i + 1, by omega, rfl⟩, Wk.sub (by simp -dsimp -implicitDefEqProofs only [↓j25, ↓j27, reduceCtorEq, ↓reduceIte, Nat.reduceEqDiff, j182, j202, j203, j204, j205, j223, rlT2, hw] <;> simp)⟩
  have hi3 : i = 224 := by omega
  subst hi3
  have f1 : decide (((224 : Nat) : Int) < 224) = false := rfl
  have e : p.take 224 ++ zb (224 - 224) = p := by
    rw [List.take_of_length_le (by omega)]; simp [zb]
  rw [e] at hll
  simp -dsimp -implicitDefEqProofs only [↓j0, ↓j1, ↓j7, ↓j10, ↓j11, ↓j12, ↓j13, ↓j15, j17, j18, j19, j20, j21, j22, j23, ↓j25, ↓j27, ↓j29, ↓j30, j33, ↓j38, ↓j43, ↓j44, ↓j48, ↓j76, ↓j78, ↓j89, j129, ↓j145, ↓j146, ↓j148, ↓j149, ↓j153, j159, AV.proj, AV.offOf, AV.upd, AV.size, AV.layable, j170, j171, reduceCtorEq, ↓reduceIte, Nat.reduceEqDiff, Nat.reduceSub, j182, j185, j240, j300, j301, rlSt2, rlT2, e, f1, hll, hz]
  rw [hp]
  exact Final.one (.inr rfl) (r := .cell 8 32) rfl ⟨0, 0, [], _, rfl, rfl, rfl, rfl, by simp -dsimp -implicitDefEqProofs only [j129, j182, j240, j300, j301, hll]⟩ (fun vs h => by cases h) (fun vs h => by cases h) (.same _ (on_bytes _ _))
end Go.Proofs.Ytbellkdglifahaa
