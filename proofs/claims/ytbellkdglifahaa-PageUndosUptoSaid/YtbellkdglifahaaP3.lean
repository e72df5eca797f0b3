/- Pages: their sum, seals, what opens. -/
import Derived.Test.YtbellkdglifahaaP2
set_option linter.unusedVariables false
set_option linter.unusedSimpArgs false
namespace Go.Proofs.Ytbellkdglifahaa
open Go Go.RowKit

theorem copyB (a k b : Nat) (l x : List UInt8) : List.take a (l.map byteAV) ++ List.take k (x.map byteAV) ++ List.drop b (l.map byteAV) = (l.take a ++ x.take k ++ l.drop b).map byteAV := by
  rw [← List.map_take, ← List.map_take, ← List.map_drop, ← List.map_append, ← List.map_append]
theorem copyB0 (k b : Nat) (l x : List UInt8) : List.take k (x.map byteAV) ++ List.drop b (l.map byteAV) = (x.take k ++ l.drop b).map byteAV := by
  rw [← List.map_take, ← List.map_drop, ← List.map_append]
def pgSum (p : List UInt8) : Nat := crcSum (p.take 3 ++ (zb 4 ++ p.drop 7))
theorem psum_spec (p : List UInt8) (hp : p.length = 224) : ACall Try.prog 38 [arrAV p] [] (.int .u32 (pgSum p : Nat)) [] := by
  refine ACall.run (Z := Z) (N := 8) mixed hZ Try.func38 rfl rfl (by kernel_rfl) (by simp) args_arr 0 ?_
  have up := unif_bytes p
  have b7 : (7 : Int) ≤ ((224 : Nat) : Int) := by omega
  have hcp : List.take 3 (p.map byteAV) ++ List.take (Nat.min 4 4) [byteAV 0, byteAV 0, byteAV 0, byteAV 0] ++ List.drop (3 + Nat.min 4 4) (p.map byteAV) = (p.take 3 ++ (zb 4 ++ p.drop 7)).map byteAV := by
    rw [show List.take (Nat.min 4 4) [byteAV 0, byteAV 0, byteAV 0, byteAV 0] = (zb 4).map byteAV from rfl, ← List.map_take, ← List.map_drop, ← List.map_append, ← List.map_append, List.append_assoc]; rfl
  obtain ⟨q, hq⟩ : ∃ q, p.take 3 ++ (zb 4 ++ p.drop 7) = q := ⟨_, rfl⟩
  have hql : q.length = 224 := by rw [← hq]; simp only [List.length_append, List.length_take, List.length_drop, zb_len]; omega
  have uq := unif_bytes q
  have hbo := bytesOf_bytes q
  have hT : List.take 224 (q.map byteAV) = q.map byteAV := List.take_of_length_le (by simp; omega)
  rw [hq] at hcp
  simp -dsimp -implicitDefEqProofs only [↓j0, ↓j1, ↓j7, ↓j12, ↓j15, j17, j18, j20, j21, j22, j23, ↓j25, ↓j27, ↓j29, ↓j30, j33, j34, ↓j39, ↓j42, ↓j49, ↓j50, ↓j52, ↓j53, ↓j105, ↓j106, j107, ↓j121, ↓j145, ↓j146, ↓j153, AV.proj, AV.offOf, AV.upd, AV.layable, argEnv, j171, j172, j173, j174, ↓reduceIte, Nat.reduceAdd, Nat.reduceMul, Nat.reduceEqDiff, Nat.reduceLeDiff, Nat.reduceSub, Int.reduceLE, Int.reduceToNat, j182, j189, j196, j197, j207, j208, j214, j222, j223, j227, j230, j231, bndAV, j232, j233, j234, ↓j238, ↓j239, j240, j259, j302, j335, j337, hp, up, b7, hcp, uq, hql, hbo, hT]
  refine CallTo.pure (args := [.str ⟨q.toArray⟩]) rfl fok41 (by simp -dsimp -implicitDefEqProofs only [↓j25, ↓j29, j173, j174, ↓reduceIte]) (fun x hx => (args_s x hx).2) (sum_spec q (by omega)) ?_
  simp -dsimp -implicitDefEqProofs only [↓j0, ↓j1, ↓j10, j17, j18, j20, ↓j25, ↓j29, ↓j39, ↓j145, j171, ↓reduceIte]
  rw [pgSum, hq]
  exact Final.one (.inr rfl) (r := .tmp 2) rfl ⟨rfl, fun vs h => by cases h⟩ (fun vs h => by cases h) (fun vs h => by cases h) (.same _ trivial)
/-- A page of its kind, number, LSN and what stands behind it. -/
def behL (lsn : Nat) (t : List UInt8) : List UInt8 := putL lsn 8 ++ t
def sealP (k : UInt8) (no lsn : Nat) (t : List UInt8) : List UInt8 :=
  (k :: putL no 2) ++ (putL (crcSum ((k :: putL no 2) ++ (zb 4 ++ behL lsn t))) 4 ++ behL lsn t)
theorem sealP_len {k : UInt8} {no lsn : Nat} {t : List UInt8} (h : t.length = 209) : (sealP k no lsn t).length = 224 := by
  simp only [sealP, behL, List.length_append, List.length_cons, putL_len]; omega
theorem args_seal {k no lsn : Nat} {p : List UInt8} : ∀ x, x ∈ [AV.int .u8 (k : Int), .int .u16 (no : Int), .int .u64 (lsn : Int), arrAV p] → AV.on (fun _ => False) x ∧ ∀ vs, x ≠ .tuple vs := fun x hx => by
  simp only [List.mem_cons, List.not_mem_nil, or_false] at hx
  rcases hx with rfl | rfl | rfl | rfl
  · exact ⟨trivial, fun vs h => by cases h⟩
  · exact ⟨trivial, fun vs h => by cases h⟩
  · exact ⟨trivial, fun vs h => by cases h⟩
  · exact ⟨on_bytes _ _, fun vs h => by cases h⟩
theorem pseal_spec (k : UInt8) (no lsn : Nat) (hno : no < 65536) (hl : lsn < 18446744073709551616) (p : List UInt8) (hp : p.length = 224) : ACall Try.prog 33 [.int .u8 k.toNat, .int .u16 no, .int .u64 lsn, arrAV p] [] (arrAV (sealP k no lsn (p.drop 15))) [] := by
  refine ACall.run (Z := Z) (N := 27) mixed hZ Try.func33 rfl rfl (by kernel_rfl) (by simp) args_seal 0 ?_
  have up := unif_bytes p
  obtain ⟨y, hy⟩ := list_get (xs := p) (i := 0) (by omega)
  have c0 : (0 : Int) < ((224 : Nat) : Int) := by omega
  have c1 : (1 : Int) ≤ ((224 : Nat) : Int) := by omega
  have c3 : (3 : Int) ≤ ((224 : Nat) : Int) := by omega
  have c7 : (7 : Int) ≤ ((224 : Nat) : Int) := by omega
  have hset : (p.map byteAV).set 0 (AV.int .u8 (k.toNat : Int)) = (p.set 0 k).map byteAV := by rw [List.map_set]; rfl
  obtain ⟨q0, hq0⟩ : ∃ q, p.set 0 k = q := ⟨_, rfl⟩
  have hl0 : q0.length = 224 := by rw [← hq0, List.length_set, hp]
  have u0 := unif_bytes q0
  have w1 : IntKind.u64.wrap (no : Int) = (no : Int) := by rw [wrap_u64, Nat.mod_eq_of_lt (by omega)]
  have hpu := put_spec no 2 (by omega)
  have hpl := put_spec lsn 8 (by omega)
  have l2 := putL_len no 2
  have l8 := putL_len lsn 8
  rw [hq0] at hset
  simp -dsimp -implicitDefEqProofs only [↓j0, ↓j1, ↓j4, ↓j7, ↓j8, ↓j12, ↓j15, j17, j18, j19, j20, j21, j22, j23, j24, ↓j25, ↓j27, ↓j29, ↓j30, j33, ↓j38, ↓j41, ↓j42, ↓j44, ↓j46, ↓j49, ↓j50, ↓j53, ↓j78, ↓j94, j107, ↓j145, ↓j146, ↓j153, AV.proj, AV.offOf, AV.upd, AV.size, AV.sizeL, AV.layable, argEnv, j167, j170, j171, j172, j174, j177, reduceCtorEq, ↓reduceIte, Nat.reduceAdd, Nat.reduceMul, Nat.reduceEqDiff, Nat.reduceSub, Int.reduceLE, Int.reduceToNat, j182, j196, j197, j206, j207, ↓j225, bndAV, j232, j234, ↓j238, j240, ↓j245, j254, j265, j302, j367, j393, hy, c0, hset, c1, hl0, w1]
  refine CallTo.pure (args := [.int .u64 no, .int .i64 ((2 : Nat) : Int)]) rfl fok32 (by simp -dsimp -implicitDefEqProofs only [↓j25, ↓j29, ↓j30, j33, j173, j174, ↓reduceIte]; rfl) (notup (fun vs h => by cases h) fun vs h => by cases h) hpu ?_
  have m2 : Nat.min 2 223 = 2 := rfl
  have cp1 := copyB 1 2 3 q0 (putL no 2)
  obtain ⟨q1, hq1⟩ : ∃ q, q0.take 1 ++ (putL no 2).take 2 ++ q0.drop 3 = q := ⟨_, rfl⟩
  have hl1 : q1.length = 224 := by rw [← hq1]; simp only [List.length_append, List.length_take, List.length_drop, l2]; omega
  have u1 := unif_bytes q1
  rw [hq1] at cp1
  simp -dsimp -implicitDefEqProofs only [↓j3, ↓j4, j17, j18, j20, j21, j22, j23, j24, ↓j25, ↓j27, ↓j29, ↓j52, ↓j105, j107, ↓j145, ↓j146, ↓j153, AV.proj, AV.offOf, AV.upd, j170, j171, j172, j173, j174, reduceCtorEq, ↓reduceIte, Nat.reduceAdd, Nat.reduceMul, Nat.reduceEqDiff, j182, j189, j196, j214, j222, j223, ↓j239, j335, l2, u0, hl0, m2, cp1]
  refine ⟨by kernel_rfl, ?_⟩
  simp -dsimp -implicitDefEqProofs only [↓j4, ↓j8, ↓j12, ↓j15, j17, j18, j20, j24, ↓j25, ↓j27, ↓j29, ↓j30, j33, ↓j38, ↓j49, ↓j53, j107, ↓j145, ↓j146, ↓j153, AV.proj, AV.offOf, j170, j171, j172, j174, reduceCtorEq, ↓reduceIte, Nat.reduceMul, Nat.reduceEqDiff, Nat.reduceSub, Int.reduceLE, Int.reduceToNat, j182, j196, j207, bndAV, j232, ↓j238, j240, j302, hl1, c7]
  refine CallTo.pure (args := [.int .u64 lsn, .int .i64 ((8 : Nat) : Int)]) rfl fok32 (by simp -dsimp -implicitDefEqProofs only [↓j25, ↓j29, ↓j30, j33, j173, j174, ↓reduceIte]; rfl) (notup (fun vs h => by cases h) fun vs h => by cases h) hpl ?_
  have m8 : Nat.min 8 217 = 8 := rfl
  have cp2 := copyB 7 8 15 q1 (putL lsn 8)
  obtain ⟨q2, hq2⟩ : ∃ q, q1.take 7 ++ (putL lsn 8).take 8 ++ q1.drop 15 = q := ⟨_, rfl⟩
  have hl2 : q2.length = 224 := by rw [← hq2]; simp only [List.length_append, List.length_take, List.length_drop, l8]; omega
  have u2 := unif_bytes q2
  rw [hq2] at cp2
  simp -dsimp -implicitDefEqProofs only [↓j3, ↓j4, j17, j18, j20, j21, j22, j23, j24, ↓j25, ↓j27, ↓j29, ↓j52, ↓j105, j107, ↓j145, ↓j146, ↓j153, AV.proj, AV.offOf, AV.upd, j170, j171, j172, j173, j174, reduceCtorEq, ↓reduceIte, Nat.reduceAdd, Nat.reduceMul, Nat.reduceEqDiff, j182, j189, j196, j214, j222, j223, ↓j239, j335, l8, u1, hl1, m8, cp2]
  refine ⟨by kernel_rfl, ?_⟩
  simp -dsimp -implicitDefEqProofs only [↓j4, ↓j8, ↓j12, ↓j15, j17, j18, j20, j24, ↓j25, ↓j27, ↓j29, ↓j30, j33, ↓j43, ↓j49, ↓j53, ↓j76, j107, j129, ↓j145, ↓j146, ↓j153, AV.proj, AV.offOf, j170, j171, j172, j174, ↓reduceIte, Nat.reduceMul, Nat.reduceEqDiff, Nat.reduceSub, Int.reduceLE, Int.reduceToNat, j182, j196, j207, bndAV, j232, ↓j238, j240, j300, j301, j302, hl2, c3]
  refine CallTo.pure (args := [arrAV q2]) rfl fok38 (by simp -dsimp -implicitDefEqProofs only [↓j25, ↓j29, j173, j174, ↓reduceIte]) (fun x hx => (args_arr x hx).2) (psum_spec q2 hl2) ?_
  have hsl := crcSum_lt (q2.take 3 ++ (zb 4 ++ q2.drop 7))
  have w2 : IntKind.u64.wrap (pgSum q2 : Int) = (pgSum q2 : Int) := by rw [wrap_u64, pgSum, Nat.mod_eq_of_lt (by omega)]
  have l4 := putL_len (pgSum q2) 4
  have m4 : Nat.min 4 221 = 4 := rfl
  simp -dsimp -implicitDefEqProofs only [↓j4, j17, j18, j20, j24, ↓j25, ↓j29, ↓j50, ↓j53, ↓j145, j170, j171, j172, j174, ↓reduceIte, ↓j225, j265, j395, w2]
  refine CallTo.pure (args := [.int .u64 (pgSum q2 : Nat), .int .i64 ((4 : Nat) : Int)]) rfl fok32 (by simp -dsimp -implicitDefEqProofs only [↓j25, ↓j29, ↓j30, j33, j173, j174, ↓reduceIte]; rfl) (notup (fun vs h => by cases h) fun vs h => by cases h) (put_spec (pgSum q2) 4 (by omega)) ?_
  have cp3 := copyB 3 4 7 q2 (putL (pgSum q2) 4)
  obtain ⟨q3, hq3⟩ : ∃ q, q2.take 3 ++ (putL (pgSum q2) 4).take 4 ++ q2.drop 7 = q := ⟨_, rfl⟩
  have hl3 : q3.length = 224 := by rw [← hq3]; simp only [List.length_append, List.length_take, List.length_drop, l4]; omega
  have u3 := unif_bytes q3
  rw [hq3] at cp3
  have hz := zb_len 224
  simp -dsimp -implicitDefEqProofs only [↓j3, ↓j4, j17, j18, j20, j21, j22, j23, j24, ↓j25, ↓j27, ↓j29, ↓j52, ↓j105, j107, ↓j145, ↓j146, ↓j153, AV.proj, AV.offOf, AV.upd, j170, j171, j172, j173, j174, reduceCtorEq, ↓reduceIte, Nat.reduceAdd, Nat.reduceMul, Nat.reduceEqDiff, j182, j189, j196, j214, j222, j223, ↓j239, j335, l4, u2, hl2, m4, cp3]
  refine ⟨by kernel_rfl, ?_⟩
  simp -dsimp -implicitDefEqProofs only [↓j0, ↓j1, ↓j7, ↓j10, ↓j12, ↓j15, j17, j18, j19, j20, j21, j22, j23, ↓j25, ↓j27, ↓j29, ↓j43, ↓j44, ↓j76, ↓j78, j129, ↓j145, ↓j146, ↓j153, AV.proj, AV.offOf, AV.upd, AV.size, AV.layable, j170, j171, reduceCtorEq, ↓reduceIte, Nat.reduceEqDiff, j182, j240, j300, j301, hl3, hz]
  have e0 : q0 = k :: p.drop 1 := by
    rw [← hq0]
    cases p with
    | nil => simp at hp
    | cons a r => rfl
  have e1 : q1 = k :: (putL no 2 ++ p.drop 3) := by
    rw [← hq1, e0, List.take_of_length_le (l := putL no 2) (by omega)]
    simp [List.drop_drop]
  have e2 : q2 = (k :: putL no 2) ++ (q1.drop 3).take 4 ++ behL lsn (p.drop 15) := by
    rw [← hq2, List.take_of_length_le (l := putL lsn 8) (by omega), e1]
    obtain ⟨y1, y2, hy2⟩ : ∃ a b, putL no 2 = [a, b] := ⟨_, _, rfl⟩
    rw [hy2, behL]
    simp [List.drop_drop]
  have e4 : q2.take 3 = k :: putL no 2 ∧ q2.drop 7 = behL lsn (p.drop 15) := by
    have hx : ((q1.drop 3).take 4).length = 4 := by simp only [List.length_take, List.length_drop]; omega
    rw [e2]
    constructor
    · rw [List.append_assoc, List.take_append_of_le_length (by simp [l2]), List.take_of_length_le (by simp [l2])]
    · rw [List.drop_append, List.drop_eq_nil_of_le (by simp only [List.length_append, List.length_cons]; omega), List.nil_append]
      simp only [List.length_append, List.length_cons, hx, l2]
      rfl
  have e5 : q3 = sealP k no lsn (p.drop 15) := by
    rw [← hq3, List.take_of_length_le (l := putL (pgSum q2) 4) (by omega), pgSum, e4.1, e4.2, sealP, List.append_assoc]
  have hsp := sealP_len (k := k) (no := no) (lsn := lsn) (t := p.drop 15) (by simp; omega)
  rw [e5]
  exact Final.one (.inr rfl) (r := .cell 8 32) rfl ⟨1, 0, [], _, rfl, rfl, rfl, rfl, by simp -dsimp -implicitDefEqProofs only [j129, j182, j240, j300, j301, hsp]⟩ (fun vs h => by cases h) (fun vs h => by cases h) (.same _ (on_bytes _ _))
end Go.Proofs.Ytbellkdglifahaa
