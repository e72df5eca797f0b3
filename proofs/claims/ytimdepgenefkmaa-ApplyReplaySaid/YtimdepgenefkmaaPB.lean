import Derived.Test.YtimdepgenefkmaaPA
set_option maxRecDepth 8000
set_option linter.unusedVariables false
set_option linter.unusedSimpArgs false
section
namespace Go.Proofs.Ytimdepgenefkmaa
open Go Go.RowKit

theorem args_laid {k no lsn : Nat} {s : ByteArray} : ∀ x, x ∈ [AV.int .u8 (k : Int), .int .u16 (no : Int), .int .u64 (lsn : Int), .str s] → AV.on (fun _ => False) x ∧ ∀ vs, x ≠ .tuple vs := fun x hx => by
  simp only [List.mem_cons, List.not_mem_nil, or_false] at hx
  rcases hx with rfl | rfl | rfl | rfl <;> exact ⟨trivial, fun vs h => by cases h⟩
def rlT (k : UInt8) (no lsn : Nat) (r : List UInt8) (i : Nat) : Env := [(10, .str ⟨(putL lsn 8 ++ r ++ zb i).toArray⟩), (9, .str ⟨(k :: putL no 2).toArray⟩), (8, .ptr 0 0 [])]
def rlSt (k : UInt8) (no lsn : Nat) (r : List UInt8) (i : Nat) : St := ⟨51, rlT k no lsn r i, [(0, .cells (arrAV (zb 224)))], 2⟩
def rlT2 (s : List UInt8) (i : Nat) : Env := [(13, .int .i64 i), (12, .ptr 2 0 []), (11, .str ⟨s.toArray⟩), (8, .ptr 0 0 [])]
def rlSt2 (s : List UInt8) (i : Nat) : St := ⟨51, rlT2 s i, [(2, .cells (arrAV (s.take i ++ zb (224 - i)))), (0, .cells (arrAV (zb 224)))], 3⟩
theorem byteAt_list {s : List UInt8} {i : Nat} {b : UInt8} (h : s[i]? = some b) : byteAt ⟨s.toArray⟩ (i : Int) = (b.toNat : Int) := by
  unfold byteAt
  rw [Int.toNat_natCast, Array.getD_eq_getD_getElem?, List.getElem?_toArray, h]; rfl
theorem laid_spec (k : UInt8) (no lsn : Nat) (hno : no < 65536) (hlsn : lsn < 18446744073709551616) (r : List UInt8) (hr : r.length ≤ 209) :
    ACall Try.prog 47 [.int .u8 k.toNat, .int .u16 no, .int .u64 lsn, .str ⟨r.toArray⟩] [] (arrAV (sealP k no lsn (r ++ zb (209 - r.length)))) [] := by
  refine ACall.run (Z := Z) (N := 51) mixed hZ Try.func47 rfl rfl (by kernel_rfl) (by simp) args_laid 0 ?_
  have hbo : bytesOf [AV.int .u8 (k.toNat : Int)] = some [k] := bytesOf_bytes [k]
  have hu : Unif 1 [AV.int .u8 (k.toNat : Int)] := fun x hx => by
    simp only [List.mem_singleton] at hx; subst hx; rfl
  have w1 : IntKind.u64.wrap (no : Int) = (no : Int) := by rw [wrap_u64, Nat.mod_eq_of_lt (by omega)]
  have hz := zb_len 224
  have l2 := putL_len no 2
  have l8 := putL_len lsn 8
  simp -dsimp -implicitDefEqProofs only [↓j0, ↓j1, ↓j4, ↓j7, ↓j8, ↓j12, ↓j15, j17, j18, j20, j24, ↓j25, ↓j27, ↓j29, ↓j38, ↓j41, ↓j50, ↓j53, ↓j74, ↓j106, j107, ↓j121, j125, j126, j127, j128, ↓j145, ↓j146, ↓j153, partsAV, AV.proj, AV.offOf, AV.size, AV.sizeL, AV.layable, argEnv, j163, j166, j167, j169, j170, j171, j172, j173, j174, j179, j180, reduceCtorEq, ↓reduceIte, Nat.reduceAdd, Nat.reduceMul, Nat.reduceEqDiff, Nat.reduceLeDiff, j182, j183, j196, j197, j213, j214, j215, j217, j223, ↓j225, Nat.reducePow, j227, List.replicate, j228, j230, j231, j234, j259, j280, j403, j419, j454, j463, hbo, hu, w1]
  refine CallTo.pure (args := [.int .u64 no, .int .i64 ((2 : Nat) : Int)]) rfl fok48 (by simp -dsimp -implicitDefEqProofs only [↓j25, ↓j29, ↓j30, j33, j173, j174, ↓reduceIte]; rfl) (notup (fun vs h => by cases h) fun vs h => by cases h) (rput_spec no 2 (by omega) (by omega)) ?_
  have hs1 : (ByteArray.mk #[k]).size = 1 := rfl
  have ha : (ByteArray.mk #[k]) ++ (ByteArray.mk (putL no 2).toArray) = ByteArray.mk (k :: putL no 2).toArray := str_append [k] (putL no 2)
  have hlim : 1 + 2 ≤ 9223372036854775807 := by omega
  simp -dsimp -implicitDefEqProofs only [↓j3, ↓j4, j17, j18, j20, j24, ↓j25, ↓j29, ↓j39, ↓j48, j117, ↓j120, ↓j145, j170, j171, j172, j174, ↓reduceIte, Nat.reduceAdd, Nat.reduceEqDiff, str_bytes, hs1, ha, l2, hlim]
  refine ⟨by kernel_rfl, ?_⟩
  simp -dsimp -implicitDefEqProofs only [↓j1, ↓j7, ↓j12, ↓j15, j17, j18, j20, ↓j25, ↓j29, ↓j38, ↓j53, ↓j145, j171, reduceCtorEq, ↓reduceIte, Nat.reduceEqDiff]
  refine CallTo.pure (args := [.int .u64 lsn, .int .i64 ((8 : Nat) : Int)]) rfl fok48 (by simp -dsimp -implicitDefEqProofs only [↓j25, ↓j29, ↓j30, j33, j173, j174, ↓reduceIte]; rfl) (notup (fun vs h => by cases h) fun vs h => by cases h) (rput_spec lsn 8 (by omega) (by omega)) ?_
  have hlim2 : 8 + r.length ≤ 9223372036854775807 := by omega
  simp -dsimp -implicitDefEqProofs only [↓j0, ↓j1, ↓j12, ↓j14, ↓j16, j17, j18, j20, ↓j25, ↓j29, ↓j38, ↓j39, ↓j48, j117, ↓j120, ↓j145, j171, reduceCtorEq, ↓reduceIte, Nat.reduceEqDiff, str_bytes, str_append, l8, hlim2]
  refine AWp.loopR (Z := Z) mixed hZ (by kernel_rfl) (fun n s => ∃ i, i + n = 209 - r.length ∧ s = rlSt k no lsn r i) (n0 := 209 - r.length) (s0 := rlSt k no lsn r 0) ?_ ⟨0, by omega, rfl⟩ ?_ rfl
  · exact Wk.sub (by simp -dsimp -implicitDefEqProofs only [↓j25, ↓j27, j179, reduceCtorEq, ↓reduceIte, Nat.reduceEqDiff, j182, j183, j202, j203, j204, j205, j223, rlT] <;> simp [zb])
  rintro n s ⟨i, hi, rfl⟩
  refine ⟨rfl, ?_⟩
  obtain ⟨b, hb⟩ : ∃ b, putL lsn 8 ++ r ++ zb i = b := ⟨_, rfl⟩
  have hbl : b.length = 8 + r.length + i := by rw [← hb]; simp only [List.length_append, l8, zb_len]
  rcases Nat.lt_or_ge i (209 - r.length) with hlt | hge
  · have hd : decide ((b.length : Int) < 217) = true := decide_eq_true (by omega)
    have hs0 : (ByteArray.mk #[0]).size = 1 := rfl
    have hap : (ByteArray.mk b.toArray) ++ (ByteArray.mk #[0]) = ByteArray.mk (putL lsn 8 ++ r ++ zb (i + 1)).toArray := by
      have := str_append b [0]
      rw [show zb (i + 1) = zb i ++ [0] by rw [zb_add]; rfl, ← List.append_assoc, hb]
      exact this
    have hlim3 : b.length + 1 ≤ 9223372036854775807 := by omega
    simp -dsimp -implicitDefEqProofs only [↓j0, ↓j1, ↓j7, ↓j9, ↓j12, ↓j13, ↓j14, ↓j15, j17, j18, j20, ↓j25, ↓j29, ↓j30, j33, j34, ↓j38, ↓j39, ↓j48, ↓j58, ↓j59, ↓j89, j117, ↓j120, j141, ↓j145, ↓j146, ↓j147, ↓j149, j159, j171, ↓reduceIte, Nat.reduceEqDiff, j185, j259, rlSt, rlT, hb, str_bytes, hd, hs0, hap, hlim3]
    exact ⟨n - 1, rlSt k no lsn r (i + 1), by omega, ⟨i + 1, by omega, rfl⟩, Wk.sub (by simp -dsimp -implicitDefEqProofs only [↓j25, ↓j27, ↓reduceIte, Nat.reduceEqDiff, j182, j202, j203, j204, j205, j223, rlT] <;> simp)⟩
  have hi2 : i = 209 - r.length := by omega
  subst hi2
  have hb2 : b = behL lsn (r ++ zb (209 - r.length)) := by rw [← hb, behL, List.append_assoc]
  have hd : decide ((b.length : Int) < 217) = false := decide_eq_false (by omega)
  obtain ⟨f, hf⟩ : ∃ f, k :: putL no 2 = f := ⟨_, rfl⟩
  have hfl : f.length = 3 := by rw [← hf]; simp [l2]
  have hz4 : (ByteArray.mk #[0, 0, 0, 0]).size = 4 := rfl
  have ha4 : (ByteArray.mk f.toArray) ++ (ByteArray.mk #[0, 0, 0, 0]) = ByteArray.mk (f ++ zb 4).toArray := str_append f (zb 4)
  have hl7 : (f ++ zb 4).length = 7 := by rw [List.length_append, hfl, zb_len]
  have hq1 : 3 + 4 ≤ 9223372036854775807 := by omega
  have hq2 : 7 + b.length ≤ 9223372036854775807 := by omega
  have hsl := crcSum_lt (f ++ zb 4 ++ b)
  have w2 : IntKind.u64.wrap (crcSum (f ++ zb 4 ++ b) : Int) = (crcSum (f ++ zb 4 ++ b) : Int) := by rw [wrap_u64, Nat.mod_eq_of_lt (by omega)]
  have l4 := putL_len (crcSum (f ++ zb 4 ++ b)) 4
  have hl7' : (f ++ putL (crcSum (f ++ zb 4 ++ b)) 4).length = 7 := by rw [List.length_append, hfl, l4]
  have hsp : f ++ putL (crcSum (f ++ zb 4 ++ b)) 4 ++ b = sealP k no lsn (r ++ zb (209 - r.length)) := by
    rw [sealP, ← hb2, hf, List.append_assoc, List.append_assoc]
  have hspl : (sealP k no lsn (r ++ zb (209 - r.length))).length = 224 := sealP_len (by rw [List.length_append, zb_len]; omega)
  simp -dsimp -implicitDefEqProofs only [↓j0, ↓j1, ↓j7, ↓j11, ↓j12, ↓j13, ↓j15, j17, j18, j20, ↓j25, ↓j29, ↓j30, j33, j34, ↓j38, ↓j48, ↓j53, ↓j58, ↓j59, ↓j89, j117, ↓j120, j141, ↓j145, ↓j146, ↓j148, ↓j149, j159, j171, ↓reduceIte, Nat.reduceAdd, Nat.reduceEqDiff, j185, j259, rlSt, rlT, hb, hf, str_bytes, hd, hfl, hz4, ha4, hl7, hq1, hq2, str_append]
  refine CallTo.pure (args := [.str ⟨(f ++ zb 4 ++ b).toArray⟩]) rfl fok59 (by simp -dsimp -implicitDefEqProofs only [↓j25, ↓j29, j173, j174, ↓reduceIte]) (fun x hx => (args_s x hx).2) (rsum_spec _ (by simp only [List.length_append, hfl, hbl, zb_len]; omega)) ?_
  simp -dsimp -implicitDefEqProofs only [↓j1, j17, j18, j20, ↓j25, ↓j29, ↓j50, ↓j53, ↓j145, j171, ↓reduceIte, ↓j225, j280, j467, w2]
  refine CallTo.pure (args := [.int .u64 (crcSum (f ++ zb 4 ++ b) : Nat), .int .i64 ((4 : Nat) : Int)]) rfl fok48 (by simp -dsimp -implicitDefEqProofs only [↓j25, ↓j29, ↓j30, j33, j173, j174, ↓reduceIte]; rfl) (notup (fun vs h => by cases h) fun vs h => by cases h) (rput_spec _ 4 (by omega) (by omega)) ?_
  simp -dsimp -implicitDefEqProofs only [↓j0, ↓j1, ↓j7, ↓j12, ↓j14, ↓j15, ↓j16, j17, j18, j20, ↓j25, ↓j29, ↓j30, j33, ↓j38, ↓j39, ↓j41, ↓j48, j117, ↓j120, ↓j145, j170, j171, ↓reduceIte, Nat.reduceAdd, Nat.reduceEqDiff, j419, str_bytes, str_append, l4, hfl, hl7', hq1, hq2, hsp]
  obtain ⟨p, hp⟩ : ∃ p, sealP k no lsn (r ++ zb (209 - r.length)) = p := ⟨_, rfl⟩
  rw [hp] at hspl
  simp only [hp]
  refine AWp.loopR (Z := Z) mixed hZ (by kernel_rfl) (fun n s => ∃ i, i + n = 224 ∧ s = rlSt2 p i) (n0 := 224) (s0 := rlSt2 p 0) ?_ ⟨0, by omega, rfl⟩ ?_ rfl
  · exact Wk.sub (by simp -dsimp -implicitDefEqProofs only [↓j25, ↓j27, j167, j171, j179, reduceCtorEq, ↓reduceIte, Nat.reduceEqDiff, j182, j183, j184, j202, j203, j204, j205, j209, j223, j233, rlT2] <;> simp)
  rintro n2 s ⟨i, hi, rfl⟩
  refine ⟨rfl, ?_⟩
  have hll := fillB_len (l := p) (n := 224) (i := i) (by omega) (by omega)
  rcases Nat.lt_or_ge i 224 with hlt2 | hge2
  · obtain ⟨x, hx⟩ := list_get (xs := p) (i := i) (by omega)
    have hst := fillB_step hx hlt2
    obtain ⟨q, hq⟩ : ∃ q, p.take i ++ zb (224 - i) = q := ⟨_, rfl⟩
    rw [hq] at hll hst
    obtain ⟨y, hy⟩ := list_get (xs := q) (i := i) (by omega)
    have f1 : decide ((i : Int) < 224) = true := decide_eq_true (by omega)
    have f2 : (i : Int) < ((224 : Nat) : Int) := by omega
    have hbt := byteAt_list hx
    have hsz : AV.sizeL ((q.map byteAV).take i) = i * 1 := (unif_bytes q).sizeL_take (by simp; omega)
    have hset : (q.map byteAV).set i (AV.int .u8 (x.toNat : Int)) = (p.take (i + 1) ++ zb (224 - (i + 1))).map byteAV := by
      rw [← hst, List.map_set]; rfl
    have hw : IntKind.i64.wrap ((i : Int) + 1) = ((i + 1 : Nat) : Int) := by rw [wrap_i64 (by omega) (by omega)]; omega
    simp -dsimp -implicitDefEqProofs only [↓j0, ↓j1, ↓j7, ↓j9, ↓j12, ↓j13, ↓j14, ↓j15, j17, j18, j19, j20, j21, j22, j23, ↓j25, ↓j27, ↓j29, ↓j30, j33, ↓j38, ↓j39, ↓j44, ↓j46, ↓j47, ↓j48, ↓j78, ↓j89, ↓j94, ↓j95, ↓j145, ↓j146, ↓j147, ↓j149, ↓j153, j154, j159, AV.proj, AV.offOf, AV.upd, AV.size, AV.layable, j170, j171, j177, reduceCtorEq, ↓reduceIte, Nat.reduceEqDiff, j182, j185, j196, j197, j206, j207, j208, ↓j245, j254, j259, j275, rlSt2, rlT2, hq, f1, f2, str_bytes, hspl, hbt, hy, hsz, hset]
    exact ⟨n2 - 1, rlSt2 p (i + 1), by omega, ⟨i + 1, by omega, rfl⟩, Wk.sub (by simp -dsimp -implicitDefEqProofs only [↓j25, ↓j27, reduceCtorEq, ↓reduceIte, Nat.reduceEqDiff, j182, j202, j203, j204, j205, j223, rlT2, hw] <;> simp)⟩
  have hi3 : i = 224 := by omega
  subst hi3
  have f1 : decide (((224 : Nat) : Int) < 224) = false := rfl
  have e : p.take 224 ++ zb (224 - 224) = p := by
    rw [List.take_of_length_le (by omega)]; simp [zb]
  rw [e] at hll
  simp -dsimp -implicitDefEqProofs only [↓j0, ↓j1, ↓j7, ↓j10, ↓j11, ↓j12, ↓j13, ↓j15, j17, j18, j19, j20, j21, j22, j23, ↓j25, ↓j27, ↓j29, ↓j30, j33, ↓j38, ↓j43, ↓j44, ↓j48, ↓j76, ↓j78, ↓j89, j129, ↓j145, ↓j146, ↓j148, ↓j149, ↓j153, j159, AV.proj, AV.offOf, AV.upd, AV.size, AV.layable, j170, j171, reduceCtorEq, ↓reduceIte, Nat.reduceEqDiff, Nat.reduceSub, j182, j185, j240, j273, j274, rlSt2, rlT2, e, f1, hll, hz]
  rw [hp]
  exact Final.one (.inr rfl) (r := .cell 8 26) rfl ⟨0, 0, [], _, rfl, rfl, rfl, rfl, by simp -dsimp -implicitDefEqProofs only [j129, j182, j240, j273, j274, hll]⟩ (fun vs h => by cases h) (fun vs h => by cases h) (.same _ (on_bytes _ _))
end Go.Proofs.Ytimdepgenefkmaa
end
section
namespace Go.Proofs.Ytimdepgenefkmaa
open Go Go.RowKit

theorem rputData_spec (no : Nat) (hno : no < 65536) (d : Dt) (hd : d.Ok) : ACall Try.prog 24 [.int .u16 no, d.av] [] (arrAV (putData no d)) [] := by
  refine ACall.run (Z := Z) (N := 29) mixed hZ Try.func24 rfl rfl (by kernel_rfl) (by simp) args_nd 0 ?_
  have hbl := hd.body
  have hz := zb_len 224
  have hts := hd.ts
  have hpg := hd.pg
  have w1 : IntKind.u64.wrap (d.ts : Int) = (d.ts : Int) := by rw [wrap_u64, Nat.mod_eq_of_lt (by omega)]
  have w2 : IntKind.u64.wrap (d.pg : Int) = (d.pg : Int) := by rw [wrap_u64, Nat.mod_eq_of_lt (by omega)]
  have l4 := putL_len d.ts 4
  have l2 := putL_len d.pg 2
  simp -dsimp -implicitDefEqProofs only [↓j0, ↓j1, ↓j4, ↓j7, ↓j8, ↓j12, ↓j15, j17, j18, j20, j24, ↓j25, ↓j27, ↓j29, ↓j38, ↓j41, ↓j42, ↓j43, ↓j45, ↓j50, ↓j53, ↓j76, ↓j79, j130, ↓j145, ↓j146, ↓j153, AV.proj, AV.offOf, AV.size, AV.sizeL, AV.layable, argEnv, j163, j164, j166, j167, j170, j171, j172, j174, reduceCtorEq, ↓reduceIte, Nat.reduceAdd, Nat.reduceEqDiff, j182, j196, j197, ↓j225, j279, j280, j282, j374, j377, j419, j467, w1]
  refine CallTo.pure (args := [.int .u64 d.ts, .int .i64 ((4 : Nat) : Int)]) rfl fok48 (by simp -dsimp -implicitDefEqProofs only [↓j25, ↓j29, ↓j30, j33, j173, j174, ↓reduceIte]; rfl) (notup (fun vs h => by cases h) fun vs h => by cases h) (rput_spec d.ts 4 (by omega) (by omega)) ?_
  simp -dsimp -implicitDefEqProofs only [↓j4, j17, j18, j20, j24, ↓j25, ↓j27, ↓j29, ↓j43, ↓j45, ↓j50, ↓j53, ↓j76, ↓j79, j130, ↓j145, ↓j146, ↓j153, AV.proj, AV.offOf, AV.size, AV.sizeL, j163, j164, j166, j167, j170, j171, j172, j174, reduceCtorEq, ↓reduceIte, Nat.reduceAdd, Nat.reduceEqDiff, j182, j196, j197, ↓j225, j261, j280, j287, j380, j463, w2]
  refine CallTo.pure (args := [.int .u64 d.pg, .int .i64 ((2 : Nat) : Int)]) rfl fok48 (by simp -dsimp -implicitDefEqProofs only [↓j25, ↓j29, ↓j30, j33, j173, j174, ↓reduceIte]; rfl) (notup (fun vs h => by cases h) fun vs h => by cases h) (rput_spec d.pg 2 (by omega) (by omega)) ?_
  have hbo : bytesOf [AV.int .u8 (d.sl.toNat : Int)] = some [d.sl] := bytesOf_bytes [d.sl]
  have hu : Unif 1 [AV.int .u8 (d.sl.toNat : Int)] := fun x hx => by
    simp only [List.mem_singleton] at hx; subst hx; rfl
  have hub := unif_bytes d.body
  have hbb := bytesOf_bytes d.body
  have hT : List.take 64 (d.body.map byteAV) = d.body.map byteAV := List.take_of_length_le (by simp; omega)
  have h6 : (putL d.ts 4 ++ putL d.pg 2).length = 6 := by rw [List.length_append, l4, l2]
  have h7 : (putL d.ts 4 ++ putL d.pg 2 ++ [d.sl]).length = 7 := by rw [List.length_append, h6]; rfl
  have hs1 : (ByteArray.mk #[d.sl]).size = 1 := rfl
  have ha1 : (ByteArray.mk (putL d.ts 4 ++ putL d.pg 2).toArray) ++ (ByteArray.mk #[d.sl]) = ByteArray.mk (putL d.ts 4 ++ putL d.pg 2 ++ [d.sl]).toArray := str_append _ [d.sl]
  have he : putL d.ts 4 ++ putL d.pg 2 ++ [d.sl] ++ d.body = dtRest d := by simp [dtRest]
  have hrl := dtRest_len hd
  have q1 : 4 + 2 ≤ 9223372036854775807 := by omega
  have q2 : 6 + 1 ≤ 9223372036854775807 := by omega
  have q3 : 7 + 64 ≤ 9223372036854775807 := by omega
  simp -dsimp -implicitDefEqProofs only [↓j4, j17, j18, j20, j24, ↓j25, ↓j27, ↓j29, ↓j43, ↓j45, ↓j48, ↓j49, ↓j50, ↓j53, ↓j74, ↓j76, ↓j79, ↓j106, j107, j117, ↓j120, ↓j121, j125, j126, j127, j128, j130, ↓j145, ↓j146, ↓j153, partsAV, AV.proj, AV.offOf, AV.size, AV.sizeL, AV.layable, j163, j164, j166, j167, j169, j170, j171, j172, j173, j174, j179, j180, reduceCtorEq, ↓reduceIte, Nat.reduceAdd, Nat.reduceMul, Nat.reduceEqDiff, Nat.reduceLeDiff, Int.reduceToNat, j182, j183, j196, j197, j207, j208, j213, j214, j215, j217, j222, j223, Nat.reducePow, j227, List.replicate, j228, j230, j231, bndAV, j232, j233, j234, ↓j238, j240, j255, j259, j290, j368, j380, j383, j403, j454, str_bytes, str_append, hbl, l4, l2, h6, h7, hs1, ha1, he, q1, q2, q3, hbo, hu, hub, hbb, hT]
  have hla := laid_spec 1 no d.lsn hno hd.lsn (dtRest d) (by omega)
  rw [hrl] at hla
  refine CallTo.pure (args := [.int .u8 ((1 : UInt8).toNat : Nat), .int .u16 no, .int .u64 d.lsn, .str ⟨(dtRest d).toArray⟩]) rfl fok47 (by simp -dsimp -implicitDefEqProofs only [↓j25, ↓j29, ↓j30, j33, j173, j174, ↓reduceIte, Nat.reduceEqDiff]; rfl) (fun x hx => (args_laid x hx).2) hla ?_
  have hpl : (sealP 1 no d.lsn (dtRest d ++ zb (209 - 71))).length = 224 := putData_len hd
  simp -dsimp -implicitDefEqProofs only [↓j3, ↓j4, j17, j18, j19, j20, j21, j22, j23, j24, ↓j25, ↓j27, ↓j29, ↓j44, ↓j78, ↓j145, ↓j146, ↓j153, AV.proj, AV.offOf, AV.upd, AV.size, AV.layable, j170, j171, j172, j173, j174, reduceCtorEq, ↓reduceIte, Nat.reduceEqDiff, Nat.reduceSub, j182, j240, j273, hz, hpl]
  refine ⟨by kernel_rfl, ?_⟩
  exact Final.one (.inr rfl) (r := .cell 4 26) rfl ⟨1, 0, [], _, rfl, rfl, rfl, rfl, by simp -dsimp -implicitDefEqProofs only [j129, j182, j240, j273, j274, hpl]⟩ (fun vs h => by cases h) (fun vs h => by cases h) (.same _ (on_bytes _ _))
end Go.Proofs.Ytimdepgenefkmaa
end
section
namespace Go.Proofs.Ytimdepgenefkmaa
open Go Go.RowKit

theorem bAV (l : List UInt8) : bytesAV l = List.map byteAV l := rfl
def dtOf (p : List UInt8) : Dt := ⟨lsnOf p, numAt p 15 4, numAt p 19 2, p.getD 21 0, (p.drop 22).take 64⟩
theorem dtOf_ok {p : List UInt8} (hp : p.length = 224) : (dtOf p).Ok :=
  ⟨Nat.lt_of_lt_of_le (numAt_lt (p := p) (o := 7) (n := 8)) (by decide), Nat.lt_of_lt_of_le (numAt_lt (p := p) (o := 15) (n := 4)) (by decide), Nat.lt_of_lt_of_le (numAt_lt (p := p) (o := 19) (n := 2)) (by decide), by simp [dtOf]; omega⟩
def Dt.zero : Dt := ⟨0, 0, 0, 0, zb 64⟩
def getOk (no : Nat) (p : List UInt8) : Bool := opensP 1 no p && (p.drop 86).all (· == 0)
def getData (no : Nat) (p : List UInt8) : Dt × Bool := if getOk no p then (dtOf p, true) else (.zero, false)
abbrev getAV (r : Dt × Bool) : AV := .tuple [r.1.av, .int .i64 (if r.2 then 0 else 2)]
theorem args_np {no : Nat} {p : List UInt8} : ∀ x, x ∈ [AV.int .u16 (no : Int), arrAV p] → AV.on (fun _ => False) x ∧ ∀ vs, x ≠ .tuple vs := fun x hx => by
  simp only [List.mem_cons, List.not_mem_nil, or_false] at hx
  rcases hx with rfl | rfl
  · exact ⟨trivial, fun vs h => by cases h⟩
  · exact ⟨on_bytes _ _, fun vs h => by cases h⟩
def gdT (no i : Nat) : Env := [(21, .int .i64 i), (20, .int .i64 (138 : Nat)), (19, .sl 0 86 [] 86 138 138 1), (4, .ptr 1 0 []), (3, .ptr 0 0 []), (5, .int .i64 0), (0, .int .u16 no)]
def gdSt (no : Nat) (p : List UInt8) (i : Nat) : St := ⟨58, gdT no i, [(1, .cells Dt.zero.av), (0, .cells (arrAV p))], 2⟩
theorem getData_spec (no : Nat) (hno : no < 65536) (p : List UInt8) (hp : p.length = 224) : ACall Try.prog 18 [.int .u16 no, arrAV p] [] (getAV (getData no p)) [] := by
  refine ACall.run (Z := Z) (N := 58) mixed hZ Try.func18 rfl rfl (by kernel_rfl) (by simp) args_np 0 ?_
  have fin : ∀ (r : Dt × Bool) (t : Env) (H : Heap) (m : Nat), r = getData no p → r.1.body.length = 64 → look t 4 = some (.ptr 1 0 []) → look t 5 = some (.int .i64 (if r.2 then 0 else 2)) → Heap.get H 1 = some (.cells r.1.av) →
      Final Try.prog Try.f18 (getAV (getData no p)) [] .ret ⟨58, t, H, m⟩ := by
    intro r t H m hr hb h4 h5 h1
    rw [← hr]
    exact Final.many (.inr rfl) (rs := [.cell 4 59, .tmp 5]) (us := [r.1.av, .int .i64 (if r.2 then 0 else 2)]) rfl ⟨⟨1, 0, [], _, h4, h1, rfl, rfl, by simp -dsimp -implicitDefEqProofs only [j129, AV.size, AV.sizeL, Nat.reduceAdd, j182, j197, j240, j371, j372, hb]⟩, ⟨h5, fun vs h => by cases h⟩, trivial⟩ (by simp) ⟨.same _ (on_dt _ _), .same _ trivial, trivial⟩
  have bad : ∀ (t : Env) (H : Heap) (m : Nat), getOk no p = false → look t 4 = some (.ptr 1 0 []) → look t 5 = some (.int .i64 2) → Heap.get H 1 = some (.cells Dt.zero.av) →
      Final Try.prog Try.f18 (getAV (getData no p)) [] .ret ⟨58, t, H, m⟩ := fun t H m hk h4 h5 h1 =>
    fin (.zero, false) t H m (by rw [getData, hk]; rfl) (zb_len 64) h4 h5 h1
  have up := unif_bytes p
  have hz := zb_len 64
  have hzb : Dt.zero.body.length = 64 := zb_len 64
  have c86 : (86 : Int) ≤ ((224 : Nat) : Int) := by omega
  simp -dsimp -implicitDefEqProofs only [↓j0, ↓j1, ↓j7, ↓j12, ↓j15, j17, j18, j20, ↓j25, ↓j27, ↓j29, ↓j30, j33, ↓j38, ↓j39, ↓j41, ↓j42, ↓j43, ↓j53, ↓j76, j129, ↓j145, ↓j146, ↓j153, AV.proj, AV.offOf, AV.layable, argEnv, j170, j171, j172, reduceCtorEq, ↓reduceIte, Nat.reduceAdd, Nat.reduceEqDiff, j182, j196, j240, j273, j274, j431, hp]
  refine CallTo.pure (args := [.int .u8 ((1 : UInt8).toNat : Nat), .int .u16 no, arrAV p]) rfl fok40 (by simp -dsimp -implicitDefEqProofs only [↓j25, ↓j29, ↓j30, j33, j173, j174, ↓reduceIte, Nat.reduceEqDiff]; rfl) (fun x hx => (args_opens x hx).2) (opens_spec 1 no hno p hp) ?_
  obtain ⟨o, ho⟩ : ∃ o, opensP 1 no p = o := ⟨_, rfl⟩
  cases o
  · simp -dsimp -implicitDefEqProofs only [↓j0, ↓j1, ↓j7, ↓j10, ↓j12, ↓j13, ↓j15, j17, j18, j19, j20, j21, j22, j23, ↓j25, ↓j27, ↓j29, ↓j30, j33, ↓j39, ↓j44, ↓j54, ↓j55, ↓j78, j84, ↓j124, j125, j127, ↓j145, ↓j146, ↓j147, ↓j149, ↓j153, partsAV, AV.proj, AV.offOf, AV.upd, AV.size, AV.sizeL, AV.layable, j170, j171, reduceCtorEq, ↓reduceIte, Nat.reduceAdd, Nat.reduceEqDiff, j182, j194, j197, j214, j218, j219, j240, j371, j449, ho, hz]
    refine bad _ _ _ (by rw [getOk, ho]; rfl) rfl rfl ?_
    rfl
  simp -dsimp -implicitDefEqProofs only [↓j0, ↓j1, ↓j7, ↓j9, ↓j12, ↓j13, ↓j14, ↓j15, ↓j16, j17, j18, j20, ↓j25, ↓j27, ↓j29, ↓j30, j33, ↓j38, ↓j49, ↓j55, ↓j58, ↓j61, j84, j107, j143, ↓j145, ↓j146, ↓j148, ↓j149, ↓j153, AV.proj, AV.offOf, j171, reduceCtorEq, ↓reduceIte, Nat.reduceMul, Nat.reduceEqDiff, Nat.reduceSub, Int.reduceLE, Int.reduceToNat, j182, j193, j196, j207, bndAV, j232, ↓j238, j240, j275, j480, ho, hp, c86]
  refine AWp.loopR (Z := Z) mixed hZ (by kernel_rfl) (fun n s => ∃ i, i + n = 138 ∧ ((p.drop 86).take i).all (· == 0) = true ∧ s = gdSt no p i) (n0 := 138) (s0 := gdSt no p 0) ?_ ⟨0, by omega, rfl, rfl⟩ ?_ rfl
  · exact Wk.sub (by simp -dsimp -implicitDefEqProofs only [↓j25, ↓j27, j179, reduceCtorEq, ↓reduceIte, Nat.reduceEqDiff, j182, j183, j184, j202, j203, j204, j205, j209, j223, gdT] <;> exact ⟨rfl, rfl⟩)
  rintro n s ⟨i, hi, ha, rfl⟩
  refine ⟨rfl, ?_⟩
  rcases Nat.lt_or_ge i 138 with hlt | hge
  · have hd : decide ((i : Int) < ((138 : Nat) : Int)) = true := decide_eq_true (by omega)
    have hlt1 : (i : Int) < ((138 : Nat) : Int) := by omega
    obtain ⟨x, hx⟩ := list_get (xs := p) (i := 86 + i) (by omega)
    have hw : IntKind.i64.wrap ((i : Int) + 1) = ((i + 1 : Nat) : Int) := by rw [wrap_i64 (by omega) (by omega)]; omega
    have hsz : AV.sizeL ((p.map byteAV).take (86 + i)) = 86 + i * 1 := by
      rw [up.sizeL_take (by simp; omega)]; omega
    simp -dsimp -implicitDefEqProofs only [↓j0, ↓j1, ↓j7, ↓j9, ↓j12, ↓j13, ↓j14, ↓j15, j17, j18, j20, ↓j25, ↓j27, ↓j29, ↓j30, j33, ↓j38, ↓j39, ↓j43, ↓j46, ↓j48, ↓j76, ↓j89, ↓j93, j130, ↓j145, ↓j146, ↓j147, ↓j149, ↓j153, j158, j159, AV.proj, AV.offOf, j171, j177, reduceCtorEq, ↓reduceIte, Nat.reduceEqDiff, j182, j185, j191, j197, j206, j207, j208, j255, j401, gdSt, gdT, hlt1, hx, hsz, byteAV]
    refine ⟨fun h3 => ?_, fun h3 => ?_⟩
    · have hx0 : x ≠ 0 := by rintro rfl; simp at h3
      simp -dsimp -implicitDefEqProofs only [↓j0, ↓j1, ↓j7, ↓j10, ↓j12, ↓j15, j17, j18, j19, j20, j21, j22, j23, ↓j25, ↓j27, ↓j29, ↓j30, j33, ↓j39, ↓j44, ↓j54, ↓j78, ↓j124, j125, j127, ↓j145, ↓j146, ↓j153, partsAV, AV.proj, AV.offOf, AV.upd, AV.size, AV.sizeL, AV.layable, j170, j171, reduceCtorEq, ↓reduceIte, Nat.reduceAdd, Nat.reduceEqDiff, j182, j197, j214, j218, j219, j240, j371, j449, h3, hz, hzb]
      refine bad _ _ _ ?_ rfl rfl (by rfl)
      have hany : (p.drop 86).all (· == 0) = false := by
        rw [List.all_eq_false]
        refine ⟨x, List.mem_iff_getElem?.2 ⟨i, ?_⟩, by simpa using hx0⟩
        rw [List.getElem?_drop]; exact hx
      rw [getOk, hany, Bool.and_false]
    · have hx0 : x = 0 := by
        have : (x.toNat : Int) = 0 := by simpa using h3
        exact UInt8.toNat_inj.1 (by simpa using this)
      simp -dsimp -implicitDefEqProofs only [↓j0, ↓j1, ↓j7, ↓j9, ↓j15, j17, j18, j20, ↓j25, ↓j29, ↓j30, j33, ↓j38, ↓j48, ↓j89, ↓j145, ↓j146, j154, j171, ↓reduceIte, Nat.reduceEqDiff, j185, h3]
      refine ⟨n - 1, gdSt no p (i + 1), by omega, ⟨i + 1, by omega, ?_, rfl⟩, Wk.sub (by simp -dsimp -implicitDefEqProofs only [↓j25, ↓j27, reduceCtorEq, ↓reduceIte, Nat.reduceEqDiff, j182, j202, j203, j204, j205, j223, gdT, hw] <;> simp)⟩
      rw [take_succ (show (p.drop 86)[i]? = some x by rw [List.getElem?_drop]; exact hx), List.all_append, ha, hx0]; rfl
  have hi2 : i = 138 := by omega
  subst hi2
  have hd : decide (((138 : Nat) : Int) < ((138 : Nat) : Int)) = false := decide_eq_false (by omega)
  rw [List.take_of_length_le (by simp; omega)] at ha
  have hok : getOk no p = true := by rw [getOk, ho, ha]; rfl
  have hbo := bytesOf_bytes p
  have hT : List.take 224 (p.map byteAV) = p.map byteAV := List.take_of_length_le (by simp; omega)
  have hg1 := get_spec p 15 4 (by omega) (by omega) (by omega)
  have hg2 := get_spec p 19 2 (by omega) (by omega) (by omega)
  have hn1 : numAt p 15 4 < 2 ^ 32 := numAt_lt
  have hn2 : numAt p 19 2 < 2 ^ 16 := numAt_lt
  obtain ⟨g1, hG1⟩ : ∃ g, numAt p 15 4 = g := ⟨_, rfl⟩
  obtain ⟨g2, hG2⟩ : ∃ g, numAt p 19 2 = g := ⟨_, rfl⟩
  rw [show getL ((p.drop 15).take 4) = g1 from hG1] at hg1
  rw [show getL ((p.drop 19).take 2) = g2 from hG2] at hg2
  rw [hG1] at hn1
  rw [hG2] at hn2
  have w1 : IntKind.u32.wrap (g1 : Int) = (g1 : Int) := by rw [wrap_u32, Nat.mod_eq_of_lt (by omega)]
  have w2 : IntKind.u16.wrap (g2 : Int) = (g2 : Int) := by rw [wrap_u16, Nat.mod_eq_of_lt (by omega)]
  obtain ⟨y, hy⟩ := list_get (xs := p) (i := 21) (by omega)
  have hy2 : p.getD 21 0 = y := by rw [List.getD_eq_getElem?_getD, hy]; rfl
  have hsz : AV.sizeL ((p.map byteAV).take 21) = 21 * 1 := up.sizeL_take (by simp; omega)
  have c21 : (21 : Int) < ((224 : Nat) : Int) := by omega
  have c22 : (22 : Int) ≤ ((224 : Nat) : Int) := by omega
  simp -dsimp -implicitDefEqProofs only [↓j0, ↓j1, ↓j7, ↓j11, ↓j12, ↓j13, ↓j15, j17, j18, j20, ↓j25, ↓j27, ↓j29, ↓j39, ↓j43, ↓j48, ↓j49, ↓j50, ↓j53, ↓j76, ↓j89, ↓j106, j107, ↓j121, j129, ↓j145, ↓j146, ↓j148, ↓j149, ↓j153, j159, AV.proj, AV.offOf, j171, reduceCtorEq, ↓reduceIte, Nat.reduceMul, Nat.reduceEqDiff, Int.reduceToNat, j182, j185, j196, j197, j207, j208, j222, j223, j227, bndAV, j232, j233, j234, ↓j238, j240, j259, j273, j274, j275, j403, gdSt, gdT, hd, hp, up, hbo, hT]
  refine CallTo.pure (args := [arrAV p]) rfl fok15 (by simp -dsimp -implicitDefEqProofs only [↓j25, ↓j29, j173, j174, ↓reduceIte]) (fun x hx => (args_arr x hx).2) (lsn_spec p hp) ?_
  simp -dsimp -implicitDefEqProofs only [↓j0, ↓j1, ↓j7, ↓j12, ↓j15, j17, j18, j19, j20, j21, j22, j23, ↓j25, ↓j27, ↓j29, ↓j38, ↓j41, ↓j44, ↓j53, ↓j54, ↓j78, ↓j124, j125, j126, j127, j128, ↓j145, ↓j146, ↓j153, partsAV, AV.proj, AV.offOf, AV.upd, AV.size, AV.sizeL, AV.layable, j163, j167, j169, j170, j171, j179, j180, reduceCtorEq, ↓reduceIte, Nat.reduceAdd, Nat.reduceEqDiff, j182, j183, j197, j213, j214, j215, j217, j240, j243, j371, j375, j431, j449]
  refine CallTo.pure (args := [.str ⟨p.toArray⟩, .int .i64 ((15 : Nat) : Int), .int .i64 ((4 : Nat) : Int)]) rfl fok34 (by simp -dsimp -implicitDefEqProofs only [↓j25, ↓j29, ↓j30, j33, j173, j174, ↓reduceIte]; rfl) (fun x hx => (args_sii x hx).2) hg1 ?_
  simp -dsimp -implicitDefEqProofs only [↓j0, ↓j1, ↓j7, ↓j12, ↓j15, j17, j18, j20, ↓j25, ↓j29, ↓j38, ↓j39, ↓j53, ↓j57, j85, ↓j145, j163, j164, j171, ↓reduceIte, Nat.reduceEqDiff]
  refine CallTo.pure (args := [.str ⟨p.toArray⟩, .int .i64 ((19 : Nat) : Int), .int .i64 ((2 : Nat) : Int)]) rfl fok34 (by simp -dsimp -implicitDefEqProofs only [↓j25, ↓j29, ↓j30, j33, j173, j174, ↓reduceIte]; rfl) (fun x hx => (args_sii x hx).2) hg2 ?_
  have uz := unif_bytes (zb 64)
  have hxs : List.take 202 (List.drop 22 (p.map byteAV)) = (p.drop 22).map byteAV := by
    rw [← List.map_drop, List.take_of_length_le (by simp; omega)]
  have hdl : (p.drop 22).length = 202 := by rw [List.length_drop, hp]
  have cp := copyB0 64 64 (zb 64) (p.drop 22)
  have hd0 : (zb 64).drop 64 = [] := rfl
  rw [hd0, List.append_nil] at cp
  have m64 : Nat.min 202 64 = 64 := rfl
  have hlb : ((p.drop 22).take 64).length = 64 := by simp; omega
  simp -dsimp -implicitDefEqProofs only [↓j0, ↓j1, ↓j3, ↓j4, ↓j7, ↓j8, ↓j12, ↓j15, j17, j18, j19, j20, j21, j22, j23, j24, ↓j25, ↓j27, ↓j29, ↓j30, j33, ↓j38, ↓j39, ↓j43, ↓j44, ↓j45, ↓j46, ↓j49, ↓j50, ↓j52, ↓j54, ↓j57, ↓j76, ↓j78, ↓j79, j85, ↓j94, ↓j106, j107, ↓j124, j125, j126, j127, j128, j130, ↓j145, ↓j146, ↓j153, partsAV, AV.proj, AV.offOf, AV.upd, AV.size, AV.sizeL, AV.layable, j163, j164, j166, j167, j168, j169, j170, j171, j172, j173, j174, j177, j179, j180, reduceCtorEq, ↓reduceIte, Nat.reduceAdd, Nat.reduceMul, Nat.reduceEqDiff, Nat.reduceSub, Int.reduceLE, Int.reduceToNat, j182, j183, j189, j196, j197, j206, j207, j208, j213, j214, j215, j216, j217, j222, j223, ↓j225, bndAV, j232, j233, j234, ↓j238, ↓j239, j240, j255, j262, j275, j281, j283, j284, j288, j291, j368, j377, j380, j383, j401, j440, j466, hp, up, hz, w1, w2, hy, hsz, c21, c22, byteAV, bAV, uz, m64, hxs, hdl, cp]
  refine ⟨by kernel_rfl, ?_⟩
  simp -dsimp -implicitDefEqProofs only [↓j0, ↓j1, ↓j7, ↓j10, ↓j12, ↓j15, j17, j18, j19, j20, j21, j22, j23, ↓j25, ↓j27, ↓j29, ↓j30, j33, ↓j39, ↓j43, ↓j44, ↓j76, ↓j78, j129, ↓j145, ↓j146, ↓j153, AV.proj, AV.offOf, AV.upd, AV.size, AV.sizeL, AV.layable, j170, j171, reduceCtorEq, ↓reduceIte, Nat.reduceAdd, Nat.reduceEqDiff, j182, j197, j240, j371, j372, hlb, hzb]
  refine fin (dtOf p, true) _ _ _ (by rw [getData, hok]; rfl) hlb rfl rfl ?_
  show some _ = some _
  rw [show (dtOf p, true).1.av = AV.agg [.int .u64 (lsnOf p), .int .u32 (numAt p 15 4), .agg [.int .u16 (numAt p 19 2), .int .u8 ((p.getD 21 0).toNat : Int)], arrAV ((p.drop 22).take 64)] from rfl, hG1, hG2, hy2]
end Go.Proofs.Ytimdepgenefkmaa
end
section
namespace Go.Proofs.Ytimdepgenefkmaa
open Go Go.RowKit

def rgetData (no : Nat) (p : List UInt8) : Dt × Bool := if putData no (dtOf p) == p then (dtOf p, true) else (.zero, false)
abbrev rgetAV (r : Dt × Bool) : AV := .tuple [r.1.av, .bool r.2]
def rdA (p : List UInt8) (l : List UInt8) : AV := .agg [.int .u64 (lsnOf p), .int .u32 (numAt p 15 4), .agg [.int .u16 (numAt p 19 2), .int .u8 ((p.getD 21 0).toNat)], arrAV l]
def rdT (no i : Nat) : Env := [(7, .int .i64 i), (6, .ptr 2 0 []), (4, .ptr 1 0 []), (3, .ptr 0 0 []), (5, .bool false), (0, .int .u16 no)]
def rdSt (no : Nat) (p : List UInt8) (i : Nat) : St := ⟨38, rdT no i, [(2, .cells (rdA p (((p.drop 22).take 64).take i ++ zb (64 - i)))), (1, .cells Dt.zero.av), (0, .cells (arrAV p))], 3⟩
theorem rgetData_spec (no : Nat) (hno : no < 65536) (p : List UInt8) (hp : p.length = 224) : ACall Try.prog 22 [.int .u16 no, arrAV p] [] (rgetAV (rgetData no p)) [] := by
  refine ACall.run (Z := Z) (N := 38) mixed hZ Try.func22 rfl rfl (by kernel_rfl) (by simp) args_np 0 ?_
  have fin : ∀ (r : Dt × Bool) (t : Env) (H : Heap) (m : Nat), r = rgetData no p → r.1.body.length = 64 → look t 4 = some (.ptr 1 0 []) → look t 5 = some (.bool r.2) → Heap.get H 1 = some (.cells r.1.av) →
      Final Try.prog Try.f22 (rgetAV (rgetData no p)) [] .ret ⟨38, t, H, m⟩ := by
    intro r t H m hr hb h4 h5 h1
    rw [← hr]
    exact Final.many (.inr rfl) (rs := [.cell 4 59, .tmp 5]) (us := [r.1.av, .bool r.2]) rfl ⟨⟨1, 0, [], _, h4, h1, rfl, rfl, by simp -dsimp -implicitDefEqProofs only [j129, AV.size, AV.sizeL, Nat.reduceAdd, j182, j197, j240, j371, j372, hb]⟩, ⟨h5, fun vs h => by cases h⟩, trivial⟩ (by simp) ⟨.same _ (on_dt _ _), .same _ trivial, trivial⟩
  have up := unif_bytes p
  have hz := zb_len 64
  have hzb : Dt.zero.body.length = 64 := zb_len 64
  have hn1 : numAt p 15 4 < 2 ^ 32 := numAt_lt
  have hn2 : numAt p 19 2 < 2 ^ 16 := numAt_lt
  have hG1 := num_spec p hp 15 4 (by omega) (by omega)
  have hG2 := num_spec p hp 19 2 (by omega) (by omega)
  obtain ⟨y, hy⟩ := list_get (xs := p) (i := 21) (by omega)
  have hy2 : p.getD 21 0 = y := by rw [List.getD_eq_getElem?_getD, hy]; rfl
  have hsz : AV.sizeL ((p.map byteAV).take 21) = 21 * 1 := up.sizeL_take (by simp; omega)
  have c21 : (21 : Int) < ((224 : Nat) : Int) := by omega
  have w1 : IntKind.u32.wrap (numAt p 15 4 : Int) = (numAt p 15 4 : Int) := by rw [wrap_u32, Nat.mod_eq_of_lt (by omega)]
  have w2 : IntKind.u16.wrap (numAt p 19 2 : Int) = (numAt p 19 2 : Int) := by rw [wrap_u16, Nat.mod_eq_of_lt (by omega)]
  simp -dsimp -implicitDefEqProofs only [↓j0, ↓j1, ↓j4, ↓j7, ↓j8, ↓j12, ↓j15, j17, j18, j20, j24, ↓j25, ↓j27, ↓j29, ↓j30, j32, ↓j39, ↓j41, ↓j42, ↓j43, ↓j53, ↓j76, j129, ↓j145, ↓j146, ↓j153, AV.proj, AV.offOf, AV.layable, argEnv, j170, j171, j172, j174, reduceCtorEq, ↓reduceIte, Nat.reduceAdd, Nat.reduceEqDiff, j182, j196, j240, j273, j274, j431, hp]
  refine CallTo.pure (args := [arrAV p]) rfl fok32 (by simp -dsimp -implicitDefEqProofs only [↓j25, ↓j29, j173, j174, ↓reduceIte]) (fun x hx => (args_arr x hx).2) (rlsn_spec p hp) ?_
  simp -dsimp -implicitDefEqProofs only [↓j4, j17, j18, j20, j24, ↓j25, ↓j27, ↓j29, ↓j43, ↓j53, ↓j76, j129, ↓j145, ↓j146, ↓j153, AV.proj, AV.offOf, j170, j171, j172, j174, reduceCtorEq, ↓reduceIte, Nat.reduceEqDiff, j182, j240, j273, j274, hp]
  refine CallTo.pure (args := [arrAV p, .int .i64 ((15 : Nat) : Int), .int .i64 ((4 : Nat) : Int)]) rfl fok45 (by simp -dsimp -implicitDefEqProofs only [↓j25, ↓j29, ↓j30, j33, j173, j174, ↓reduceIte]; rfl) (fun x hx => (args_num x hx).2) hG1 ?_
  simp -dsimp -implicitDefEqProofs only [↓j4, j17, j18, j20, j24, ↓j25, ↓j27, ↓j29, ↓j43, ↓j50, ↓j53, ↓j76, j129, ↓j145, ↓j146, ↓j153, AV.proj, AV.offOf, j170, j171, j172, j174, reduceCtorEq, ↓reduceIte, Nat.reduceEqDiff, j182, ↓j225, j240, j273, j274, j283, j466, hp, w1]
  refine CallTo.pure (args := [arrAV p, .int .i64 ((19 : Nat) : Int), .int .i64 ((2 : Nat) : Int)]) rfl fok45 (by simp -dsimp -implicitDefEqProofs only [↓j25, ↓j29, ↓j30, j33, j173, j174, ↓reduceIte]; rfl) (fun x hx => (args_num x hx).2) hG2 ?_
  simp -dsimp -implicitDefEqProofs only [↓j3, ↓j4, j17, j18, j19, j20, j21, j22, j23, j24, ↓j25, ↓j27, ↓j29, ↓j30, j33, ↓j41, ↓j43, ↓j44, ↓j46, ↓j50, ↓j54, ↓j76, ↓j78, ↓j94, ↓j124, j125, j126, j127, j128, j130, ↓j145, ↓j146, ↓j153, partsAV, AV.proj, AV.offOf, AV.upd, AV.size, AV.sizeL, AV.layable, j163, j164, j166, j167, j168, j169, j170, j171, j172, j173, j174, j177, j179, j180, reduceCtorEq, ↓reduceIte, Nat.reduceAdd, Nat.reduceMul, Nat.reduceEqDiff, Int.reduceLE, Int.reduceToNat, j182, j183, j196, j197, j206, j213, j214, j215, j216, j217, ↓j225, j240, j255, j262, j275, j288, j291, j371, j375, j378, j381, j431, j440, j449, j466, hz, w2, hy, hsz, c21, byteAV]
  refine ⟨by kernel_rfl, ?_⟩
  simp -dsimp -implicitDefEqProofs only [↓j0, ↓j1, ↓j7, ↓j12, ↓j14, ↓j15, ↓j16, j17, j18, j20, ↓j30, j33, ↓j39, ↓j145, j171]
  refine AWp.loopR (Z := Z) mixed hZ (by kernel_rfl) (fun n s => ∃ i, i + n = 64 ∧ s = rdSt no p i) (n0 := 64) (s0 := rdSt no p 0) ?_ ⟨0, by omega, rfl⟩ ?_ rfl
  · refine Wk.sub ?_
    simp -dsimp -implicitDefEqProofs only [↓j25, ↓j27, j167, j171, j179, reduceCtorEq, ↓reduceIte, Nat.reduceEqDiff, j182, j183, j184, j202, j203, j204, j205, j209, j223, j233, rdT, rdA, hy2]
    exact ⟨rfl, rfl⟩
  rintro n s ⟨i, hi, rfl⟩
  refine ⟨rfl, ?_⟩
  have hdl : ((p.drop 22).take 64).length = 64 := by simp; omega
  obtain ⟨b, hb⟩ : ∃ b, (p.drop 22).take 64 = b := ⟨_, rfl⟩
  rw [hb] at hdl
  have hll := fillB_len (l := b) (n := 64) (i := i) (by omega) (by omega)
  rcases Nat.lt_or_ge i 64 with hlt | hge
  · have hd : decide ((i : Int) < 64) = true := decide_eq_true (by omega)
    have hw : IntKind.i64.wrap ((i : Int) + 1) = ((i + 1 : Nat) : Int) := by rw [wrap_i64 (by omega) (by omega)]; omega
    have hw2 : IntKind.i64.wrap (22 + (i : Int)) = ((22 + i : Nat) : Int) := by rw [wrap_i64 (by omega) (by omega)]; omega
    obtain ⟨x, hx⟩ := list_get (xs := p) (i := 22 + i) (by omega)
    have hx2 : b[i]? = some x := by rw [← hb, List.getElem?_take, if_pos hlt, List.getElem?_drop]; exact hx
    have hst := fillB_step (n := 64) hx2 hlt
    obtain ⟨q, hq⟩ : ∃ q, b.take i ++ zb (64 - i) = q := ⟨_, rfl⟩
    rw [hq] at hll hst
    obtain ⟨z, hzz⟩ := list_get (xs := q) (i := i) (by omega)
    have f2 : (i : Int) < ((64 : Nat) : Int) := by omega
    have f3 : ((22 + i : Nat) : Int) < ((224 : Nat) : Int) := by omega
    have hsz1 : AV.sizeL ((p.map byteAV).take (22 + i)) = (22 + i) * 1 := up.sizeL_take (by simp; omega)
    have hsz2 : AV.sizeL ((q.map byteAV).take i) = i * 1 := (unif_bytes q).sizeL_take (by simp; omega)
    have hset : (q.map byteAV).set i (AV.int .u8 (x.toNat : Int)) = (b.take (i + 1) ++ zb (64 - (i + 1))).map byteAV := by
      rw [← hst, List.map_set]; rfl
    simp -dsimp -implicitDefEqProofs only [↓j0, ↓j1, ↓j7, ↓j9, ↓j12, ↓j13, ↓j14, ↓j15, j17, j18, j19, j20, j21, j22, j23, ↓j25, ↓j27, ↓j29, ↓j30, j33, ↓j38, ↓j39, ↓j43, ↓j44, ↓j45, ↓j46, ↓j48, ↓j76, ↓j78, ↓j79, ↓j89, ↓j94, j130, ↓j145, ↓j146, ↓j147, ↓j149, ↓j153, j154, j159, AV.proj, AV.offOf, AV.upd, AV.size, AV.sizeL, AV.layable, j163, j164, j166, j167, j168, j169, j170, j171, j177, reduceCtorEq, ↓reduceIte, Nat.reduceAdd, Nat.reduceEqDiff, j182, j185, j196, j197, j206, j207, j208, j254, j255, j275, j368, j383, rdSt, rdT, rdA, hb, hq, hd, hw2, f2, f3, hx, hzz, hsz1, hsz2, byteAV]
    exact ⟨n - 1, rdSt no p (i + 1), by omega, ⟨i + 1, by omega, by rw [← hb]; rfl⟩, Wk.sub (by simp -dsimp -implicitDefEqProofs only [↓j25, ↓j27, reduceCtorEq, ↓reduceIte, Nat.reduceEqDiff, j182, j202, j203, j204, j205, j223, rdT, rdA, hb, hw, hset] <;> simp)⟩
  have hi2 : i = 64 := by omega
  subst hi2
  have hd : decide (((64 : Nat) : Int) < 64) = false := rfl
  have e : b.take 64 ++ zb (64 - 64) = b := by
    rw [List.take_of_length_le (by omega)]; simp [zb]
  have hdt : rdA p b = (dtOf p).av := by rw [← hb]; rfl
  have hok := dtOf_ok hp
  have hpl := putData_len (no := no) hok
  have hce := cellsEq_bytes (l := putData no (dtOf p)) (k := p) (by omega)
  have hkb1 := kinds_bytes hpl
  have hkb2 := kinds_bytes hp
  obtain ⟨w, hw⟩ : ∃ w, (putData no (dtOf p) == p) = w := ⟨_, rfl⟩
  rw [hw] at hce
  have hsp := rputData_spec no hno (dtOf p) hok
  have hbod := hok.body
  have hso : AV.size (dtOf p).av = 68 := by simp -dsimp -implicitDefEqProofs only [AV.size, AV.sizeL, Nat.reduceAdd, j197, j240, hbod]
  rw [rdSt, hb, e, hdt]
  obtain ⟨D, hD⟩ : ∃ D, dtOf p = D := ⟨_, rfl⟩
  rw [hD] at hsp hce hkb1 hbod hpl
  simp -dsimp -implicitDefEqProofs only [↓j0, ↓j1, ↓j4, ↓j7, ↓j8, ↓j11, ↓j12, ↓j13, ↓j15, j17, j18, j20, j24, ↓j25, ↓j27, ↓j29, ↓j30, j33, ↓j38, ↓j43, ↓j48, ↓j53, ↓j76, ↓j89, j129, ↓j145, ↓j146, ↓j148, ↓j149, ↓j153, j159, AV.proj, AV.offOf, AV.size, AV.sizeL, j170, j171, j172, j174, reduceCtorEq, ↓reduceIte, Nat.reduceAdd, Nat.reduceEqDiff, j182, j185, j197, j240, j371, j372, rdT, hd, hD, hbod]
  refine CallTo.pure (args := [.int .u16 no, D.av]) rfl fok24 (by simp -dsimp -implicitDefEqProofs only [↓j25, ↓j29, j173, j174, ↓reduceIte, Nat.reduceEqDiff]) (fun x hx => (args_nd x hx).2) hsp ?_
  simp -dsimp -implicitDefEqProofs only [↓j3, ↓j4, j17, j18, j20, j24, ↓j25, ↓j27, ↓j29, ↓j43, ↓j48, ↓j76, ↓j91, j129, ↓j145, ↓j146, ↓j153, AV.proj, AV.offOf, j170, j171, j172, j174, reduceCtorEq, ↓reduceIte, Nat.reduceEqDiff, j182, j212, j240, j241, j273, j274, j276, j277, hp, hce, hkb1]
  refine ⟨by kernel_rfl, ?_⟩
  cases w
  · simp -dsimp -implicitDefEqProofs only [↓j0, ↓j1, ↓j7, ↓j10, ↓j12, ↓j13, ↓j15, j17, j18, j19, j20, j21, j22, j23, ↓j25, ↓j27, ↓j29, ↓j30, j32, ↓j39, ↓j44, ↓j54, ↓j78, ↓j124, j125, j127, ↓j145, ↓j146, ↓j147, ↓j149, ↓j153, partsAV, AV.proj, AV.offOf, AV.upd, AV.size, AV.sizeL, AV.layable, j170, j171, reduceCtorEq, ↓reduceIte, Nat.reduceAdd, Nat.reduceEqDiff, j182, j194, j197, j214, j218, j219, j240, j371, j449, hz, hzb]
    exact fin (.zero, false) _ _ _ (by rw [rgetData, hw]; rfl) hz rfl rfl (by rfl)
  · simp -dsimp -implicitDefEqProofs only [↓j0, ↓j1, ↓j7, ↓j9, ↓j10, ↓j12, ↓j13, ↓j15, j17, j18, j19, j20, j21, j22, j23, ↓j25, ↓j27, ↓j29, ↓j30, j32, ↓j39, ↓j43, ↓j44, ↓j76, ↓j78, j129, ↓j145, ↓j146, ↓j148, ↓j149, ↓j153, AV.proj, AV.offOf, AV.upd, AV.size, AV.sizeL, AV.layable, j170, j171, reduceCtorEq, ↓reduceIte, Nat.reduceAdd, Nat.reduceEqDiff, j182, j193, j197, j240, j371, j372, hbod, hzb]
    exact fin (D, true) _ _ _ (by rw [rgetData, hw, ← hD]; rfl) hbod rfl rfl (by rfl)
end Go.Proofs.Ytimdepgenefkmaa
end
