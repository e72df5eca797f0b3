/- A master's block. -/
import Derived.Test.YthfaldoagmkllaaE2
set_option linter.unusedVariables false
set_option linter.unusedSimpArgs false
namespace Go.Proofs.Ythfaldoagmkllaa
open Go Go.RowKit

theorem copyB0 (k b : Nat) (l x : List UInt8) : List.take k (x.map byteAV) ++ List.drop b (l.map byteAV) = (x.take k ++ l.drop b).map byteAV := by
  rw [← List.map_take, ← List.map_drop, ← List.map_append]
def msAll (m : Ms) : List UInt8 := msText m ++ putL (crcSum (msText m)) 4
theorem msAll_len (m : Ms) : (msAll m).length = 48 := by rw [msAll, List.length_append, msText_len, putL_len]
def msPay (m : Ms) : List UInt8 := msAll m ++ zb 176
theorem msPay_len (m : Ms) : (msPay m).length = 224 := by rw [msPay, List.length_append, msAll_len, zb_len]
def packM (m : Ms) : List UInt8 := if mayM m then sealL m.seq (msPay m) 4 else zb 256
theorem packM_len (m : Ms) : (packM m).length = 256 := by
  unfold packM
  split
  · rw [sealL_len m.seq (msPay_len m) 4 (by omega)]
  · exact zb_len 256
theorem pack_spec (m : Ms) (hm : m.Ok) : ACall Try.prog 8 [m.av] [] (.tuple [arrAV (packM m), .int .i64 (if mayM m then 0 else 1)]) [] := by
  refine ACall.run (Z := Z) (N := 24) mixed hZ Try.func8 rfl rfl (by kernel_rfl) (by simp) args_ms 0 ?_
  have hz := zb_len 256
  have hz2 := zb_len 224
  simp -dsimp -implicitDefEqProofs only [↓j0, ↓j1, ↓j7, ↓j12, ↓j15, j17, j18, j20, ↓j25, ↓j27, ↓j29, ↓j30, j33, ↓j39, ↓j41, ↓j42, ↓j43, ↓j53, ↓j76, j129, ↓j145, ↓j146, ↓j153, AV.proj, AV.offOf, AV.size, AV.sizeL, AV.layable, argEnv, j170, j171, j172, reduceCtorEq, ↓reduceIte, Nat.reduceAdd, Nat.reduceEqDiff, j182, j196, j197, j282, j283, j414]
  refine CallTo.pure (args := [m.av]) rfl fok13 (by simp -dsimp -implicitDefEqProofs only [↓j25, ↓j29, j173, j174, ↓reduceIte]) (fun x hx => (args_ms x hx).2) (may_spec m) ?_
  cases hy : mayM m
  · simp -dsimp -implicitDefEqProofs only [↓j0, ↓j1, ↓j7, ↓j10, ↓j12, ↓j13, ↓j15, j17, j18, j19, j20, j21, j22, j23, ↓j25, ↓j27, ↓j29, ↓j30, j33, ↓j39, ↓j44, ↓j54, ↓j55, ↓j78, j84, ↓j124, j125, j127, ↓j145, ↓j146, ↓j147, ↓j149, ↓j153, partsAV, AV.proj, AV.offOf, AV.upd, AV.size, AV.layable, j170, j171, reduceCtorEq, ↓reduceIte, Nat.reduceEqDiff, j182, j194, j195, j214, j218, j219, j240, j309, j434, hz]
    have e1 : packM m = zb 256 := by unfold packM; rw [hy]; rfl
    rw [e1]
    exact Final.many (.inr rfl) (rs := [.cell 2 29, .tmp 3]) (us := [arrAV (zb 256), .int .i64 1]) rfl ⟨⟨1, 0, [], _, rfl, rfl, rfl, rfl, by simp -dsimp -implicitDefEqProofs only [j129, j182, j240, j309, j310, hz]⟩, ⟨rfl, fun vs h => by cases h⟩, trivial⟩ (by simp) ⟨.same _ (on_bytes _ _), .same _ trivial, trivial⟩
  have hl := msText_len m
  have hal := msAll_len m
  have hpl := msPay_len m
  have hs := crcSum_lt (msText m)
  have w1 : IntKind.u64.wrap (crcSum (msText m) : Int) = (crcSum (msText m) : Int) := by rw [wrap_u64, Nat.mod_eq_of_lt (by omega)]
  have l4 := putL_len (crcSum (msText m)) 4
  have ha : (ByteArray.mk (msText m).toArray) ++ (ByteArray.mk (putL (crcSum (msText m)) 4).toArray) = ByteArray.mk (msAll m).toArray := str_append _ _
  have uz := unif_bytes (zb 224)
  have mn : Nat.min 48 224 = 48 := rfl
  have hcp : List.take 48 ((msAll m).map byteAV) ++ List.drop 48 ((zb 224).map byteAV) = (msPay m).map byteAV := by
    rw [copyB0, List.take_of_length_le (by omega)]; rfl
  have hse := seal_spec m.seq (msPay m) hpl
  have e1 : packM m = sealL m.seq (msPay m) 4 := by unfold packM; rw [hy]; rfl
  have hql := packM_len m
  rw [← e1] at hse
  obtain ⟨q, hq⟩ : ∃ q, packM m = q := ⟨_, rfl⟩
  rw [hq] at hse hql
  obtain ⟨p, hp⟩ : ∃ p, msPay m = p := ⟨_, rfl⟩
  rw [hp] at hpl hcp hse
  have up := unif_bytes p
  simp -dsimp -implicitDefEqProofs only [↓j0, ↓j1, ↓j7, ↓j9, ↓j12, ↓j13, ↓j15, j17, j18, j20, ↓j25, ↓j27, ↓j29, ↓j43, ↓j53, ↓j55, ↓j76, j84, j129, ↓j145, ↓j146, ↓j148, ↓j149, ↓j153, AV.proj, AV.offOf, AV.size, AV.sizeL, j171, reduceCtorEq, ↓reduceIte, Nat.reduceAdd, Nat.reduceEqDiff, j182, j193, j197, j282, j283]
  refine CallTo.pure (args := [m.av]) rfl fok23 (by simp -dsimp -implicitDefEqProofs only [↓j25, ↓j29, j173, j174, ↓reduceIte]) (fun x hx => (args_ms x hx).2) (text_spec m hm hy) ?_
  simp -dsimp -implicitDefEqProofs only [↓j0, ↓j1, ↓j4, ↓j7, ↓j8, ↓j12, ↓j15, j17, j18, j20, j24, ↓j25, ↓j27, ↓j29, ↓j38, ↓j39, ↓j41, ↓j49, ↓j53, j107, ↓j145, ↓j146, ↓j153, AV.proj, AV.offOf, j170, j171, j172, j174, ↓reduceIte, Nat.reduceAdd, Nat.reduceMul, Nat.reduceEqDiff, Int.reduceToNat, j182, j197, j207, j208, bndAV, j232, j233, j234, ↓j238, j240, j335, j420, hz2]
  refine CallTo.pure (args := [.str ⟨(msText m).toArray⟩]) rfl fok25 (by simp -dsimp -implicitDefEqProofs only [↓j25, ↓j29, j173, j174, ↓reduceIte]) (fun x hx => (args_s x hx).2) (sum_spec _ (by omega)) ?_
  simp -dsimp -implicitDefEqProofs only [↓j4, j17, j18, j20, j24, ↓j25, ↓j29, ↓j50, ↓j53, ↓j145, j170, j171, j172, j174, ↓reduceIte, ↓j225, j262, j462, w1]
  refine CallTo.pure (args := [.int .u64 (crcSum (msText m) : Nat), .int .i64 ((4 : Nat) : Int)]) rfl fok24 (by simp -dsimp -implicitDefEqProofs only [↓j25, ↓j29, ↓j30, j33, j173, j174, ↓reduceIte]; rfl) (notup (fun vs h => by cases h) fun vs h => by cases h) (put_spec _ 4 (by omega)) ?_
  simp -dsimp -implicitDefEqProofs only [↓j3, ↓j4, j17, j18, j20, j21, j22, j23, j24, ↓j25, ↓j27, ↓j29, ↓j48, ↓j52, ↓j105, j107, j117, ↓j120, ↓j145, ↓j146, ↓j153, AV.proj, AV.offOf, AV.upd, j167, j170, j171, j172, j173, j174, reduceCtorEq, ↓reduceIte, Nat.reduceAdd, Nat.reduceEqDiff, Nat.reduceLeDiff, j182, j189, j196, j197, j214, j222, j223, j234, ↓j239, j340, str_bytes, l4, hl, ha, hal, mn, hz2, uz, hcp]
  refine ⟨by kernel_rfl, ?_⟩
  simp -dsimp -implicitDefEqProofs only [↓j1, ↓j7, ↓j12, ↓j15, j17, j18, j20, ↓j25, ↓j27, ↓j29, ↓j43, ↓j45, ↓j53, ↓j76, ↓j79, j129, j130, ↓j145, ↓j146, ↓j153, AV.proj, AV.offOf, AV.sizeL, j163, j167, j171, reduceCtorEq, ↓reduceIte, Nat.reduceEqDiff, j182, j197, j240, j261, j285, j333, j334, hpl]
  refine CallTo.pure (args := [.int .u64 (m.seq : Nat), arrAV p]) rfl fok26 (by simp -dsimp -implicitDefEqProofs only [↓j25, ↓j29, j173, j174, ↓reduceIte, Nat.reduceEqDiff]) (fun x hx => (args_seal x hx).2) hse ?_
  simp -dsimp -implicitDefEqProofs only [↓j0, ↓j1, ↓j10, j17, j18, j19, j20, j21, j22, j23, ↓j25, ↓j27, ↓j29, ↓j30, j33, ↓j39, ↓j44, ↓j78, ↓j145, ↓j146, ↓j153, AV.proj, AV.offOf, AV.upd, AV.size, AV.layable, j170, j171, reduceCtorEq, ↓reduceIte, Nat.reduceEqDiff, j182, j240, j309, hql, hz]
  rw [hq]
  exact Final.many (.inr rfl) (rs := [.cell 2 29, .tmp 3]) (us := [arrAV q, .int .i64 0]) rfl ⟨⟨1, 0, [], _, rfl, rfl, rfl, rfl, by simp -dsimp -implicitDefEqProofs only [j129, j182, j240, j309, j310, hql]⟩, ⟨rfl, fun vs h => by cases h⟩, trivial⟩ (by simp) ⟨.same _ (on_bytes _ _), .same _ trivial, trivial⟩
theorem byteAt_list {s : List UInt8} {i : Nat} {b : UInt8} (h : s[i]? = some b) : byteAt ⟨s.toArray⟩ (i : Int) = (b.toNat : Int) := by
  unfold byteAt
  rw [Int.toNat_natCast, Array.getD_eq_getD_getElem?, List.getElem?_toArray, h]; rfl
def msParts (m : Ms) : List (Nat × Nat) := [(m.seq, 8), (m.epoch, 4), (m.tail, 4), (m.lsn, 8), (m.last, 4), (m.pages.toNat, 2), (m.undo.toNat, 2), (m.log.toNat, 2), (m.maxTs, 4)]
def mtL : List (Nat × Nat) → List UInt8
  | [] => []
  | q :: l => putL q.1 q.2 ++ mtL l
theorem mtL_append : ∀ a b, mtL (a ++ b) = mtL a ++ mtL b
  | [], b => rfl
  | q :: a, b => by rw [List.cons_append, mtL, mtL, mtL_append a b, List.append_assoc]
theorem mtL_all (m : Ms) : markL ++ mtL (msParts m) = msText m := by simp [msParts, mtL, msText]
theorem mtL_len : ∀ l : List (Nat × Nat), (mtL l).length = (l.map (·.2)).sum
  | [] => rfl
  | q :: l => by rw [mtL, List.length_append, putL_len, mtL_len l]; simp
theorem msParts_lt {m : Ms} (hm : m.Ok) (hy : mayM m = true) : ∀ q, q ∈ msParts m → q.1 < 18446744073709551616 ∧ q.2 ≤ 8 := fun q hq => by
  obtain ⟨g1, g2, g3, g4, g5, g6, g7⟩ := may_nums hy
  have k1 := hm.seq
  have k2 := hm.epoch
  have k3 := hm.tail
  have k4 := hm.lsn
  have k5 := hm.last
  have k6 := hm.maxTs
  simp only [msParts, List.mem_cons, List.not_mem_nil, or_false] at hq
  rcases hq with rfl | rfl | rfl | rfl | rfl | rfl | rfl | rfl | rfl <;> simp only <;> omega
def rkTx (m : Ms) (i : Nat) : List UInt8 := markL ++ mtL ((msParts m).take i)
theorem rkTx_len (m : Ms) (i : Nat) : (rkTx m i).length ≤ 44 := by
  have h := congrArg List.length (mtL_all m)
  rw [msText_len, List.length_append, ← List.take_append_drop i (msParts m), mtL_append, List.length_append] at h
  rw [rkTx, List.length_append]; omega
def rkT (m : Ms) (i : Nat) : Env := [(7, .int .i64 i), (6, .sl 3 0 [] 0 9 9 1), (5, .sl 2 0 [] 0 9 9 1), (4, .str ⟨(rkTx m i).toArray⟩), (1, .ptr 0 0 []), (2, .ptr 1 0 []), (3, .bool false)]
def rkN (m : Ms) : List AV := (msParts m).map fun q => .int .u64 (q.1 : Nat)
def rkZ (m : Ms) : List AV := (msParts m).map fun q => .int .i64 (q.2 : Nat)
def rkSt (m : Ms) (i : Nat) : St := ⟨83, rkT m i, [(3, .cells (.agg (rkZ m))), (2, .cells (.agg (rkN m))), (1, .cells (arrAV (zb 256))), (0, .cells m.av)], 4⟩
def rkT2 (s : List UInt8) (i : Nat) : Env := [(9, .int .i64 i), (8, .ptr 4 0 []), (4, .str ⟨s.toArray⟩), (1, .ptr 0 0 []), (2, .ptr 1 0 []), (3, .bool false)]
def rkSt2 (m : Ms) (i : Nat) : St := ⟨83, rkT2 (msAll m) i, [(4, .cells (arrAV ((msPay m).take i ++ zb (224 - i)))), (1, .cells (arrAV (zb 256))), (0, .cells m.av)], 5⟩
theorem rpack_spec (m : Ms) (hm : m.Ok) : ACall Try.prog 9 [m.av] [] (.tuple [arrAV (packM m), .bool (mayM m)]) [] := by
  refine ACall.run (Z := Z) (N := 83) mixed hZ Try.func9 rfl rfl (by kernel_rfl) (by simp) args_ms 0 ?_
  have hz := zb_len 256
  have hz2 := zb_len 224
  simp -dsimp -implicitDefEqProofs only [↓j0, ↓j1, ↓j7, ↓j12, ↓j15, j17, j18, j20, ↓j25, ↓j27, ↓j29, ↓j30, j32, ↓j39, ↓j41, ↓j42, ↓j43, ↓j53, ↓j76, j129, ↓j145, ↓j146, ↓j153, AV.proj, AV.offOf, AV.size, AV.sizeL, AV.layable, argEnv, j170, j171, j172, reduceCtorEq, ↓reduceIte, Nat.reduceAdd, Nat.reduceEqDiff, j182, j196, j197, j282, j283, j414]
  refine CallTo.pure (args := [m.av]) rfl fok12 (by simp -dsimp -implicitDefEqProofs only [↓j25, ↓j29, j173, j174, ↓reduceIte]) (fun x hx => (args_ms x hx).2) (rmay_spec m) ?_
  cases hy : mayM m
  · simp -dsimp -implicitDefEqProofs only [↓j0, ↓j1, ↓j7, ↓j10, ↓j12, ↓j13, ↓j15, j17, j18, j19, j20, j21, j22, j23, ↓j25, ↓j27, ↓j29, ↓j30, j32, ↓j39, ↓j44, ↓j54, ↓j55, ↓j78, j84, ↓j124, j125, j127, ↓j145, ↓j146, ↓j147, ↓j149, ↓j153, partsAV, AV.proj, AV.offOf, AV.upd, AV.size, AV.layable, j170, j171, reduceCtorEq, ↓reduceIte, Nat.reduceEqDiff, j182, j194, j214, j218, j219, j240, j309, j434, hz]
    have e1 : packM m = zb 256 := by unfold packM; rw [hy]; rfl
    rw [e1]
    exact Final.many (.inr rfl) (rs := [.cell 2 29, .tmp 3]) (us := [arrAV (zb 256), .bool false]) rfl ⟨⟨1, 0, [], _, rfl, rfl, rfl, rfl, by simp -dsimp -implicitDefEqProofs only [j129, j182, j240, j309, j310, hz]⟩, ⟨rfl, fun vs h => by cases h⟩, trivial⟩ (by simp) ⟨.same _ (on_bytes _ _), .same _ trivial, trivial⟩
  obtain ⟨g1, g2, g3, g4, g5, g6, g7⟩ := may_nums hy
  have k1 := hm.seq
  have k2 := hm.epoch
  have k3 := hm.tail
  have k4 := hm.lsn
  have k5 := hm.last
  have k6 := hm.maxTs
  have x2 : IntKind.u64.wrap (m.epoch : Int) = (m.epoch : Int) := by rw [wrap_u64, Nat.mod_eq_of_lt (by omega)]
  have x3 : IntKind.u64.wrap (m.tail : Int) = (m.tail : Int) := by rw [wrap_u64, Nat.mod_eq_of_lt (by omega)]
  have x5 : IntKind.u64.wrap (m.last : Int) = (m.last : Int) := by rw [wrap_u64, Nat.mod_eq_of_lt (by omega)]
  have x6 : IntKind.u64.wrap m.pages = (m.pages.toNat : Int) := by
    have : m.pages = ((m.pages.toNat : Nat) : Int) := by omega
    conv => lhs; rw [this]
    rw [wrap_u64, Nat.mod_eq_of_lt (by omega)]
  have x7 : IntKind.u64.wrap m.undo = (m.undo.toNat : Int) := by
    have : m.undo = ((m.undo.toNat : Nat) : Int) := by omega
    conv => lhs; rw [this]
    rw [wrap_u64, Nat.mod_eq_of_lt (by omega)]
  have x8 : IntKind.u64.wrap m.log = (m.log.toNat : Int) := by
    have : m.log = ((m.log.toNat : Nat) : Int) := by omega
    conv => lhs; rw [this]
    rw [wrap_u64, Nat.mod_eq_of_lt (by omega)]
  have x9 : IntKind.u64.wrap (m.maxTs : Int) = (m.maxTs : Int) := by rw [wrap_u64, Nat.mod_eq_of_lt (by omega)]
  simp -dsimp -implicitDefEqProofs only [↓j0, ↓j1, ↓j7, ↓j9, ↓j12, ↓j13, ↓j14, ↓j15, ↓j16, j17, j18, j20, ↓j25, ↓j27, ↓j29, ↓j30, j33, j34, ↓j39, ↓j43, ↓j45, ↓j50, ↓j55, ↓j74, ↓j76, ↓j79, j84, j125, j126, j127, j128, j130, ↓j145, ↓j146, ↓j148, ↓j149, ↓j153, partsAV, AV.proj, AV.offOf, AV.size, AV.sizeL, AV.layable, j163, j164, j166, j167, j168, j169, j170, j171, j179, j180, reduceCtorEq, ↓reduceIte, Nat.reduceAdd, Nat.reduceMul, Nat.reduceEqDiff, Nat.reduceLeDiff, j182, j183, j193, j196, j197, j213, j214, j215, j216, j217, ↓j225, Nat.reducePow, List.replicate, j234, j250, j261, j262, j264, j269, j272, j275, j278, j285, j288, j291, j294, j297, j300, j435, j446, j457, j462, x2, x3, x5, x6, x7, x8, x9]
  refine AWp.loopR (Z := Z) mixed hZ (by kernel_rfl) (fun n s => ∃ i, i + n = 9 ∧ s = rkSt m i) (n0 := 9) (s0 := rkSt m 0) ?_ ⟨0, by omega, rfl⟩ ?_ rfl
  · refine Wk.mk (SubT.spec (by simp -dsimp -implicitDefEqProofs only [↓j25, j167, j170, j171, j179, ↓reduceIte, Nat.reduceEqDiff, j182, j183, j184, j202, j203, j209, rkSt, rkT, rkTx, markL] <;> simp [mtL])) (fun n c h => ?_) (Nat.le_refl _) rfl
    exact h
  rintro n s ⟨i, hi, rfl⟩
  refine ⟨rfl, ?_⟩
  have hpl : (msParts m).length = 9 := rfl
  have u1 : Unif 1 (rkN m) := fun x hx => by
    obtain ⟨q, _, rfl⟩ := List.mem_map.1 hx; rfl
  have u2 : Unif 1 (rkZ m) := fun x hx => by
    obtain ⟨q, _, rfl⟩ := List.mem_map.1 hx; rfl
  have hTl := rkTx_len m i
  rcases Nat.lt_or_ge i 9 with hlt | hge
  · have hd : decide ((i : Int) < ((9 : Nat) : Int)) = true := decide_eq_true (by omega)
    have hlt1 : (i : Int) < ((9 : Nat) : Int) := by omega
    have hw : IntKind.i64.wrap ((i : Int) + 1) = ((i + 1 : Nat) : Int) := by rw [wrap_i64 (by omega) (by omega)]; omega
    obtain ⟨q, hq⟩ := list_get (xs := msParts m) (i := i) (by omega)
    have hq1 : (rkN m)[i]? = some (.int .u64 (q.1 : Nat)) := by simp [rkN, hq]
    have hq2 : (rkZ m)[i]? = some (.int .i64 (q.2 : Nat)) := by simp [rkZ, hq]
    have s1 : AV.sizeL ((rkN m).take i) = i * 1 := u1.sizeL_take (by simp [rkN]; omega)
    have s2 : AV.sizeL ((rkZ m).take i) = i * 1 := u2.sizeL_take (by simp [rkZ]; omega)
    obtain ⟨b1, b2⟩ := msParts_lt hm hy q (List.mem_of_getElem? hq)
    have l1 := putL_len q.1 q.2
    have hS : rkTx m (i + 1) = rkTx m i ++ putL q.1 q.2 := by rw [rkTx, rkTx, take_succ hq, mtL_append]; simp [mtL]
    obtain ⟨T, hT⟩ : ∃ T, rkTx m i = T := ⟨_, rfl⟩
    rw [hT] at hS hTl
    have a1 : (ByteArray.mk T.toArray) ++ (ByteArray.mk (putL q.1 q.2).toArray) = ByteArray.mk (rkTx m (i + 1)).toArray := by rw [hS]; exact str_append _ _
    have k7 : T.length + q.2 ≤ 9223372036854775807 := by omega
    simp -dsimp -implicitDefEqProofs only [↓j0, ↓j1, ↓j4, ↓j7, ↓j8, ↓j9, ↓j12, ↓j13, ↓j14, ↓j15, j17, j18, j20, j24, ↓j25, ↓j27, ↓j29, ↓j38, ↓j43, ↓j46, ↓j48, ↓j53, ↓j58, ↓j61, ↓j76, ↓j89, ↓j93, j130, j143, ↓j145, ↓j146, ↓j147, ↓j149, ↓j153, j159, AV.proj, AV.offOf, j170, j171, j172, j174, ↓reduceIte, Nat.reduceEqDiff, j182, j185, j191, j196, j197, j207, j208, j250, j261, j322, j345, j474, rkSt, rkT, hT, hlt1, hq1, hq2, s1, s2]
    refine CallTo.pure (args := [.int .u64 (q.1 : Nat), .int .i64 (q.2 : Nat)]) rfl fok27 (by simp -dsimp -implicitDefEqProofs only [↓j25, ↓j29, j173, j174, ↓reduceIte, Nat.reduceEqDiff]) (notup (fun vs h => by cases h) fun vs h => by cases h) (rput_spec q.1 q.2 b1 b2) ?_
    simp -dsimp -implicitDefEqProofs only [↓j3, ↓j4, j17, j18, j20, j24, ↓j25, ↓j29, ↓j39, ↓j48, j117, ↓j120, ↓j145, j170, j171, j172, j174, ↓reduceIte, Nat.reduceEqDiff, str_bytes, l1, a1, k7]
    refine ⟨by kernel_rfl, ?_⟩
    simp -dsimp -implicitDefEqProofs only [↓j0, ↓j1, ↓j7, ↓j15, j17, j18, j20, ↓j25, ↓j29, ↓j30, j33, ↓j38, ↓j39, ↓j48, ↓j89, ↓j145, ↓j146, j154, j171, ↓reduceIte, Nat.reduceEqDiff, j185]
    exact ⟨n - 1, rkSt m (i + 1), by omega, ⟨i + 1, by omega, rfl⟩, Wk.mk (SubT.spec (by simp -dsimp -implicitDefEqProofs only [↓j25, ↓reduceIte, Nat.reduceEqDiff, j182, j202, j203, rkSt, rkT, hw] <;> simp)) (fun n c h => h) (Nat.le_refl _) rfl⟩
  have hi2 : i = 9 := by omega
  subst hi2
  have hd : decide (((9 : Nat) : Int) < ((9 : Nat) : Int)) = false := rfl
  have hT : rkTx m 9 = msText m := mtL_all m
  have hl := msText_len m
  have hal := msAll_len m
  have hpl := msPay_len m
  have hs := crcSum_lt (msText m)
  have w1 : IntKind.u64.wrap (crcSum (msText m) : Int) = (crcSum (msText m) : Int) := by rw [wrap_u64, Nat.mod_eq_of_lt (by omega)]
  have l4 := putL_len (crcSum (msText m)) 4
  have ha : (ByteArray.mk (msText m).toArray) ++ (ByteArray.mk (putL (crcSum (msText m)) 4).toArray) = ByteArray.mk (msAll m).toArray := str_append _ _
  simp -dsimp -implicitDefEqProofs only [↓j0, ↓j1, ↓j7, ↓j11, ↓j12, ↓j13, ↓j15, j17, j18, j20, ↓j25, ↓j29, ↓j38, ↓j48, ↓j53, ↓j58, ↓j61, ↓j89, j143, ↓j145, ↓j146, ↓j148, ↓j149, j159, j171, ↓reduceIte, Nat.reduceEqDiff, j185, j474, rkSt, rkT, hT, hd]
  refine CallTo.pure (args := [.str ⟨(msText m).toArray⟩]) rfl fok28 (by simp -dsimp -implicitDefEqProofs only [↓j25, ↓j29, j173, j174, ↓reduceIte]) (fun x hx => (args_s x hx).2) (rsum_spec _ (by omega)) ?_
  simp -dsimp -implicitDefEqProofs only [↓j1, j17, j18, j20, ↓j25, ↓j29, ↓j50, ↓j53, ↓j145, j171, ↓reduceIte, ↓j225, j262, j462, w1]
  refine CallTo.pure (args := [.int .u64 (crcSum (msText m) : Nat), .int .i64 ((4 : Nat) : Int)]) rfl fok27 (by simp -dsimp -implicitDefEqProofs only [↓j25, ↓j29, ↓j30, j33, j173, j174, ↓reduceIte]; rfl) (notup (fun vs h => by cases h) fun vs h => by cases h) (rput_spec _ 4 (by omega) (by omega)) ?_
  simp -dsimp -implicitDefEqProofs only [↓j0, ↓j1, ↓j7, ↓j12, ↓j14, ↓j15, ↓j16, j17, j18, j20, ↓j25, ↓j29, ↓j30, j33, ↓j39, ↓j41, ↓j48, j117, ↓j120, ↓j145, j170, j171, ↓reduceIte, Nat.reduceAdd, Nat.reduceEqDiff, Nat.reduceLeDiff, j419, str_bytes, l4, hl, ha]
  refine AWp.loopR (Z := Z) mixed hZ (by kernel_rfl) (fun n s => ∃ i, i + n = 48 ∧ s = rkSt2 m i) (n0 := 48) (s0 := rkSt2 m 0) ?_ ⟨0, by omega, rfl⟩ ?_ rfl
  · exact Wk.sub (by simp -dsimp -implicitDefEqProofs only [↓j25, ↓j27, j167, j171, j179, reduceCtorEq, ↓reduceIte, Nat.reduceEqDiff, j182, j183, j184, j202, j203, j204, j205, j209, j223, j233, rkT2] <;> simp)
  rintro n2 s ⟨i, hi3, rfl⟩
  refine ⟨rfl, ?_⟩
  have hll := fillB_len (l := msPay m) (n := 224) (i := i) (by omega) (by omega)
  rcases Nat.lt_or_ge i 48 with hlt2 | hge2
  · obtain ⟨x, hx⟩ := list_get (xs := msAll m) (i := i) (by omega)
    have hxp : (msPay m)[i]? = some x := by rw [msPay, List.getElem?_append_left (by omega)]; exact hx
    have hst := fillB_step (n := 224) hxp (by omega)
    obtain ⟨q, hq⟩ : ∃ q, (msPay m).take i ++ zb (224 - i) = q := ⟨_, rfl⟩
    rw [hq] at hll hst
    obtain ⟨y, hy2⟩ := list_get (xs := q) (i := i) (by omega)
    have f1 : decide ((i : Int) < ((48 : Nat) : Int)) = true := decide_eq_true (by omega)
    have f2 : (i : Int) < ((224 : Nat) : Int) := by omega
    have f3 : (i : Int) < ((48 : Nat) : Int) := by omega
    have hbt : byteAt ⟨(msAll m).toArray⟩ (i : Int) = (x.toNat : Int) := byteAt_list hx
    have hsz : AV.sizeL ((q.map byteAV).take i) = i * 1 := (unif_bytes q).sizeL_take (by simp; omega)
    have hset : (q.map byteAV).set i (AV.int .u8 (x.toNat : Int)) = ((msPay m).take (i + 1) ++ zb (224 - (i + 1))).map byteAV := by
      rw [← hst, List.map_set]; rfl
    have hw : IntKind.i64.wrap ((i : Int) + 1) = ((i + 1 : Nat) : Int) := by rw [wrap_i64 (by omega) (by omega)]; omega
    simp -dsimp -implicitDefEqProofs only [↓j0, ↓j1, ↓j7, ↓j9, ↓j12, ↓j13, ↓j14, ↓j15, j17, j18, j19, j20, j21, j22, j23, ↓j25, ↓j27, ↓j29, ↓j30, j33, ↓j38, ↓j39, ↓j44, ↓j46, ↓j47, ↓j48, ↓j58, ↓j59, ↓j78, ↓j89, ↓j94, ↓j95, j141, ↓j145, ↓j146, ↓j147, ↓j149, ↓j153, j154, j159, AV.proj, AV.offOf, AV.upd, AV.size, AV.layable, j170, j171, j177, reduceCtorEq, ↓reduceIte, Nat.reduceEqDiff, j182, j185, j191, j196, j197, j206, j207, j208, ↓j245, j254, j259, j330, rkSt2, rkT2, hq, f2, f3, str_bytes, hal, hbt, hy2, hsz, hset]
    exact ⟨n2 - 1, rkSt2 m (i + 1), by omega, ⟨i + 1, by omega, rfl⟩, Wk.sub (by simp -dsimp -implicitDefEqProofs only [↓j25, ↓j27, reduceCtorEq, ↓reduceIte, Nat.reduceEqDiff, j182, j202, j203, j204, j205, j223, rkT2, hw] <;> simp)⟩
  have hi4 : i = 48 := by omega
  subst hi4
  have f1 : decide (((48 : Nat) : Int) < ((48 : Nat) : Int)) = false := rfl
  have e : (msPay m).take 48 ++ zb (224 - 48) = msPay m := by
    rw [msPay, List.take_append_of_le_length (by omega), List.take_of_length_le (by omega)]
  rw [e] at hll
  have hse := rseal_spec m.seq (msPay m) hm.seq hpl
  have e1 : packM m = sealL m.seq (msPay m) 4 := by unfold packM; rw [hy]; rfl
  have hql := packM_len m
  rw [← e1] at hse
  simp -dsimp -implicitDefEqProofs only [↓j0, ↓j1, ↓j7, ↓j11, ↓j12, ↓j13, ↓j15, j17, j18, j20, ↓j25, ↓j27, ↓j29, ↓j38, ↓j43, ↓j45, ↓j48, ↓j53, ↓j58, ↓j59, ↓j76, ↓j79, ↓j89, j129, j130, j141, ↓j145, ↓j146, ↓j148, ↓j149, ↓j153, j159, AV.proj, AV.offOf, AV.sizeL, j163, j167, j171, reduceCtorEq, ↓reduceIte, Nat.reduceEqDiff, Nat.reduceSub, j182, j185, j197, j240, j259, j261, j285, j328, j329, rkSt2, rkT2, e, f1, hal, hpl, str_bytes]
  refine CallTo.pure (args := [.int .u64 (m.seq : Nat), arrAV (msPay m)]) rfl fok29 (by simp -dsimp -implicitDefEqProofs only [↓j25, ↓j29, j173, j174, ↓reduceIte, Nat.reduceEqDiff]) (fun x hx => (args_seal x hx).2) hse ?_
  simp -dsimp -implicitDefEqProofs only [↓j0, ↓j1, ↓j10, j17, j18, j19, j20, j21, j22, j23, ↓j25, ↓j27, ↓j29, ↓j30, j32, ↓j39, ↓j44, ↓j78, ↓j145, ↓j146, ↓j153, AV.proj, AV.offOf, AV.upd, AV.size, AV.layable, j170, j171, reduceCtorEq, ↓reduceIte, Nat.reduceEqDiff, j182, j240, j309, hql, hz]
  exact Final.many (.inr rfl) (rs := [.cell 2 29, .tmp 3]) (us := [arrAV (packM m), .bool true]) rfl ⟨⟨1, 0, [], _, rfl, rfl, rfl, rfl, by simp -dsimp -implicitDefEqProofs only [j129, j182, j240, j309, j310, hql]⟩, ⟨rfl, fun vs h => by cases h⟩, trivial⟩ (by simp) ⟨.same _ (on_bytes _ _), .same _ trivial, trivial⟩
end Go.Proofs.Ythfaldoagmkllaa
