/- Data pages: put by the document, read by both. -/
import Derived.Test.YtbellkdglifahaaP5
set_option linter.unusedVariables false
set_option linter.unusedSimpArgs false
namespace Go.Proofs.Ytbellkdglifahaa
open Go Go.RowKit

theorem str_one (b : UInt8) : (ByteArray.mk #[b]) = ByteArray.mk [b].toArray := rfl
theorem rputData_spec (no : Nat) (hno : no < 65536) (d : Dt) (hd : d.Ok) : ACall Try.prog 12 [.int .u16 no, d.av] [] (arrAV (putData no d)) [] := by
  refine ACall.run (Z := Z) (N := 29) mixed hZ Try.func12 rfl rfl (by kernel_rfl) (by simp) args_nd 0 ?_
  have hbl := hd.body
  have hz := zb_len 224
  have hts := hd.ts
  have hpg := hd.pg
  have w1 : IntKind.u64.wrap (d.ts : Int) = (d.ts : Int) := by rw [wrap_u64, Nat.mod_eq_of_lt (by omega)]
  have w2 : IntKind.u64.wrap (d.pg : Int) = (d.pg : Int) := by rw [wrap_u64, Nat.mod_eq_of_lt (by omega)]
  have l4 := putL_len d.ts 4
  have l2 := putL_len d.pg 2
  simp -dsimp -implicitDefEqProofs only [↓j0, ↓j1, ↓j4, ↓j7, ↓j8, ↓j12, ↓j15, j17, j18, j20, j24, ↓j25, ↓j27, ↓j29, ↓j38, ↓j41, ↓j42, ↓j43, ↓j45, ↓j50, ↓j53, ↓j76, ↓j79, j130, ↓j145, ↓j146, ↓j153, AV.proj, AV.offOf, AV.size, AV.sizeL, AV.layable, argEnv, j163, j164, j166, j167, j170, j171, j172, j174, reduceCtorEq, ↓reduceIte, Nat.reduceAdd, Nat.reduceEqDiff, j182, j196, j197, ↓j225, j264, j265, j267, j287, j290, j367, j395, w1]
  refine CallTo.pure (args := [.int .u64 d.ts, .int .i64 ((4 : Nat) : Int)]) rfl fok35 (by simp -dsimp -implicitDefEqProofs only [↓j25, ↓j29, ↓j30, j33, j173, j174, ↓reduceIte]; rfl) (notup (fun vs h => by cases h) fun vs h => by cases h) (rput_spec d.ts 4 (by omega) (by omega)) ?_
  simp -dsimp -implicitDefEqProofs only [↓j4, j17, j18, j20, j24, ↓j25, ↓j27, ↓j29, ↓j43, ↓j45, ↓j50, ↓j53, ↓j76, ↓j79, j130, ↓j145, ↓j146, ↓j153, AV.proj, AV.offOf, AV.size, AV.sizeL, j163, j164, j166, j167, j170, j171, j172, j174, reduceCtorEq, ↓reduceIte, Nat.reduceAdd, Nat.reduceEqDiff, j182, j196, j197, ↓j225, j261, j265, j272, j293, j393, w2]
  refine CallTo.pure (args := [.int .u64 d.pg, .int .i64 ((2 : Nat) : Int)]) rfl fok35 (by simp -dsimp -implicitDefEqProofs only [↓j25, ↓j29, ↓j30, j33, j173, j174, ↓reduceIte]; rfl) (notup (fun vs h => by cases h) fun vs h => by cases h) (rput_spec d.pg 2 (by omega) (by omega)) ?_
  have hbo : bytesOf [AV.int .u8 (d.sl.toNat : Int)] = some [d.sl] := bytesOf_bytes [d.sl]
  have hu : Unif 1 [AV.int .u8 (d.sl.toNat : Int)] := fun x hx => by
    simp only [List.mem_singleton] at hx; subst hx; rfl
  have hub := unif_bytes d.body
  have hbb := bytesOf_bytes d.body
  have hT : List.take 64 (d.body.map byteAV) = d.body.map byteAV := List.take_of_length_le (by simp; omega)
  have h6 : (putL d.ts 4 ++ putL d.pg 2).length = 6 := by rw [List.length_append, l4, l2]
  have h7 : (putL d.ts 4 ++ putL d.pg 2 ++ [d.sl]).length = 7 := by rw [List.length_append, h6]; rfl
  have hs1 : (ByteArray.mk #[d.sl]).size = 1 := rfl
  have ha1 : (ByteArray.mk (putL d.ts 4 ++ putL d.pg 2).toArray) ++ (ByteArray.mk #[d.sl]) = ByteArray.mk (putL d.ts 4 ++ putL d.pg 2 ++ [d.sl]).toArray := str_append _ [d.sl]
  have he : putL d.ts 4 ++ putL d.pg 2 ++ [d.sl] ++ d.body = dtRest d := by simp [dtRest]
  have hrl := dtRest_len hd
  have q1 : 4 + 2 ≤ 9223372036854775807 := by omega
  have q2 : 6 + 1 ≤ 9223372036854775807 := by omega
  have q3 : 7 + 64 ≤ 9223372036854775807 := by omega
  simp -dsimp -implicitDefEqProofs only [↓j4, j17, j18, j20, j24, ↓j25, ↓j27, ↓j29, ↓j43, ↓j45, ↓j48, ↓j49, ↓j50, ↓j53, ↓j74, ↓j76, ↓j79, ↓j106, j107, j117, ↓j120, ↓j121, j125, j126, j127, j128, j130, ↓j145, ↓j146, ↓j153, partsAV, AV.proj, AV.offOf, AV.size, AV.sizeL, AV.layable, j163, j164, j166, j167, j169, j170, j171, j172, j173, j174, j179, j180, reduceCtorEq, ↓reduceIte, Nat.reduceAdd, Nat.reduceMul, Nat.reduceEqDiff, Nat.reduceLeDiff, Int.reduceToNat, j182, j183, j196, j197, j207, j208, j213, j214, j215, j217, j222, j223, Nat.reducePow, j227, List.replicate, j228, j230, j231, bndAV, j232, j233, j234, ↓j238, j240, j255, j259, j275, j281, j293, j296, j337, j384, str_bytes, str_append, hbl, l4, l2, h6, h7, hs1, ha1, he, q1, q2, q3, hbo, hu, hub, hbb, hT]
  have hla := laid_spec 1 no d.lsn hno hd.lsn (dtRest d) (by omega)
  rw [hrl] at hla
  refine CallTo.pure (args := [.int .u8 ((1 : UInt8).toNat : Nat), .int .u16 no, .int .u64 d.lsn, .str ⟨(dtRest d).toArray⟩]) rfl fok34 (by simp -dsimp -implicitDefEqProofs only [↓j25, ↓j29, ↓j30, j33, j173, j174, ↓reduceIte, Nat.reduceEqDiff]; rfl) (fun x hx => (args_laid x hx).2) hla ?_
  have hpl : (sealP 1 no d.lsn (dtRest d ++ zb (209 - 71))).length = 224 := putData_len hd
  simp -dsimp -implicitDefEqProofs only [↓j3, ↓j4, j17, j18, j19, j20, j21, j22, j23, j24, ↓j25, ↓j27, ↓j29, ↓j44, ↓j78, ↓j145, ↓j146, ↓j153, AV.proj, AV.offOf, AV.upd, AV.size, AV.layable, j170, j171, j172, j173, j174, reduceCtorEq, ↓reduceIte, Nat.reduceEqDiff, Nat.reduceSub, j182, j240, j300, hz, hpl]
  refine ⟨by kernel_rfl, ?_⟩
  exact Final.one (.inr rfl) (r := .cell 4 32) rfl ⟨1, 0, [], _, rfl, rfl, rfl, rfl, by simp -dsimp -implicitDefEqProofs only [j129, j182, j240, j300, j301, hpl]⟩ (fun vs h => by cases h) (fun vs h => by cases h) (.same _ (on_bytes _ _))
end Go.Proofs.Ytbellkdglifahaa
