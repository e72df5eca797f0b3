/- Sectors of blocks: Cut, Lay; filled blocks. -/
import Derived.Test.YthfaldoagmkllaaE4
import Derived.Test.YthfaldoagmkllaaF39
set_option linter.unusedVariables false
set_option linter.unusedSimpArgs false
namespace Go.Proofs.Ythfaldoagmkllaa
open Go Go.RowKit

theorem args_ai {p : List UInt8} {a : Int} {k : IntKind} : ∀ x, x ∈ [arrAV p, .int k a] → AV.on (fun _ => False) x ∧ ∀ vs, x ≠ .tuple vs := fun x hx => by
  simp only [List.mem_cons, List.not_mem_nil, or_false] at hx
  rcases hx with rfl | rfl
  · exact ⟨on_bytes _ _, fun vs h => by cases h⟩
  · exact ⟨trivial, fun vs h => by cases h⟩
theorem args_aia {p q : List UInt8} {a : Int} {k : IntKind} : ∀ x, x ∈ [arrAV p, .int k a, arrAV q] → AV.on (fun _ => False) x ∧ ∀ vs, x ≠ .tuple vs := fun x hx => by
  simp only [List.mem_cons, List.not_mem_nil, or_false] at hx
  rcases hx with rfl | rfl | rfl
  · exact ⟨on_bytes _ _, fun vs h => by cases h⟩
  · exact ⟨trivial, fun vs h => by cases h⟩
  · exact ⟨on_bytes _ _, fun vs h => by cases h⟩
theorem fok38 : fnOk Try.prog 38 = true := by kernel_rfl
theorem fok46 : fnOk Try.prog 46 = true := by kernel_rfl
theorem cut_spec (b : List UInt8) (i : Nat) (hb : b.length = 256) (hi : i < 4) : ACall Try.prog 38 [arrAV b, .int .i64 i] [] (arrAV (sec b i)) [] := by
  refine ACall.run (Z := Z) (N := 18) mixed hZ Try.func38 rfl rfl (by kernel_rfl) (by simp) args_ai 0 ?_
  have hz := zb_len 64
  have d1 : decide (0 ≤ (i : Int)) = true := decide_eq_true (by omega)
  have d2 : decide ((i : Int) < 4) = true := decide_eq_true (by omega)
  have w1 : IntKind.i64.wrap ((i : Int) * 64) = ((64 * i : Nat) : Int) := by rw [wrap_i64 (by omega) (by omega)]; omega
  have b1 : ((64 * i : Nat) : Int) ≤ ((256 : Nat) : Int) := by omega
  have b2 : 64 * i + (256 - 64 * i) ≤ 256 := by omega
  have ub := unif_bytes b
  have uz := unif_bytes (zb 64)
  have hxs : List.take (256 - 64 * i) (List.drop (64 * i) (b.map byteAV)) = (b.drop (64 * i)).map byteAV := by
    rw [← List.map_drop, List.take_of_length_le (by simp; omega)]
  have hdl : (b.drop (64 * i)).length = 256 - 64 * i := by rw [List.length_drop, hb]
  have hmn : Nat.min (256 - 64 * i) 64 = 64 := by
    show min (256 - 64 * i) 64 = 64
    omega
  have hcp : List.take 64 ((b.drop (64 * i)).map byteAV) ++ List.drop 64 ((zb 64).map byteAV) = (sec b i).map byteAV := by
    have hnil : List.drop 64 ((zb 64).map byteAV) = [] := List.drop_eq_nil_of_le (by simp [zb])
    rw [hnil, List.append_nil, ← List.map_take]; rfl
  have hsl := sec_len hb hi
  simp -dsimp -implicitDefEqProofs only [↓j0, ↓j1, ↓j2, ↓j3, ↓j4, ↓j7, ↓j8, ↓j12, ↓j13, ↓j15, j17, j18, j20, j21, j22, j23, j24, ↓j25, ↓j27, ↓j29, ↓j30, j32, j33, ↓j38, ↓j40, ↓j41, ↓j42, ↓j48, ↓j49, ↓j52, j83, ↓j89, ↓j106, j107, ↓j145, ↓j146, ↓j147, ↓j149, ↓j150, ↓j153, j156, j159, j162, AV.proj, AV.offOf, AV.upd, AV.layable, argEnv, j163, j164, j167, j170, j171, j172, j173, j174, j175, reduceCtorEq, ↓reduceIte, Nat.reduceAdd, Nat.reduceMul, Nat.reduceEqDiff, Int.reduceToNat, j182, j185, j189, j191, j196, j197, j207, j208, j213, j214, j215, j222, j223, bndAV, j232, j233, j234, ↓j238, ↓j239, j240, j311, j340, j392, j429, hb, hz, d2, w1, b1, b2, ub, uz, hxs, hdl, hmn, hcp]
  refine ⟨by kernel_rfl, ?_⟩
  simp -dsimp -implicitDefEqProofs only [↓j0, ↓j1, ↓j7, ↓j10, ↓j12, ↓j15, j17, j18, j19, j20, j21, j22, j23, ↓j25, ↓j27, ↓j29, ↓j43, ↓j44, ↓j76, ↓j78, j129, ↓j145, ↓j146, ↓j153, AV.proj, AV.offOf, AV.upd, AV.size, AV.layable, j170, j171, reduceCtorEq, ↓reduceIte, Nat.reduceEqDiff, j182, j240, j390, j391, hsl, hz]
  exact Final.one (.inr rfl) (r := .cell 4 83) rfl ⟨1, 0, [], _, rfl, rfl, rfl, rfl, by simp -dsimp -implicitDefEqProofs only [j129, j182, j240, j390, j391, hsl]⟩ (fun vs h => by cases h) (fun vs h => by cases h) (.same _ (on_bytes _ _))
theorem layL_len {b s : List UInt8} {i : Nat} (hb : b.length = 256) (hs : s.length = 64) (hi : i < 4) : (layL b i s).length = 256 := by
  simp only [layL, List.length_append, List.length_take, List.length_drop]; omega
theorem lay_spec (b s : List UInt8) (i : Nat) (hb : b.length = 256) (hs : s.length = 64) (hi : i < 4) : ACall Try.prog 46 [arrAV b, .int .i64 i, arrAV s] [] (arrAV (layL b i s)) [] := by
  refine ACall.run (Z := Z) (N := 19) mixed hZ Try.func46 rfl rfl (by kernel_rfl) (by simp) args_aia 0 ?_
  have hz := zb_len 256
  have d1 : decide (0 ≤ (i : Int)) = true := decide_eq_true (by omega)
  have d2 : decide ((i : Int) < 4) = true := decide_eq_true (by omega)
  have w1 : IntKind.i64.wrap ((i : Int) * 64) = ((64 * i : Nat) : Int) := by rw [wrap_i64 (by omega) (by omega)]; omega
  have b1 : ((64 * i : Nat) : Int) ≤ ((256 : Nat) : Int) := by omega
  have b2 : 64 * i + (256 - 64 * i) ≤ 256 := by omega
  have ub := unif_bytes b
  have us := unif_bytes s
  have hxs : List.take 64 (s.map byteAV) = s.map byteAV := List.take_of_length_le (by simp; omega)
  have hmn : Nat.min 64 (256 - 64 * i) = 64 := by
    show min 64 (256 - 64 * i) = 64
    omega
  have hcp : List.take (64 * i) (b.map byteAV) ++ s.map byteAV ++ List.drop (64 * i + 64) (b.map byteAV) = (layL b i s).map byteAV := by
    rw [← List.map_take, ← List.map_drop, ← List.map_append, ← List.map_append]; rfl
  have hll := layL_len hb hs hi
  simp -dsimp -implicitDefEqProofs only [↓j0, ↓j1, ↓j2, ↓j3, ↓j4, ↓j7, ↓j8, ↓j12, ↓j13, ↓j15, j17, j18, j20, j21, j22, j23, j24, ↓j25, ↓j27, ↓j29, ↓j30, j32, j33, ↓j38, ↓j40, ↓j41, ↓j42, ↓j48, ↓j49, ↓j52, j83, ↓j89, ↓j106, j107, ↓j145, ↓j146, ↓j147, ↓j149, ↓j150, ↓j153, j156, j159, j162, AV.proj, AV.offOf, AV.upd, AV.layable, argEnv, j163, j164, j170, j171, j172, j173, j174, j175, reduceCtorEq, ↓reduceIte, Nat.reduceAdd, Nat.reduceMul, Nat.reduceEqDiff, Int.reduceToNat, j182, j185, j189, j191, j196, j197, j207, j208, j213, j214, j215, j222, j223, j227, bndAV, j232, j233, j234, ↓j238, ↓j239, j240, j311, j340, j392, j414, hb, hs, d2, w1, b1, b2, ub, us, hxs, hmn, hcp]
  refine ⟨by kernel_rfl, ?_⟩
  simp -dsimp -implicitDefEqProofs only [↓j0, ↓j1, ↓j7, ↓j10, ↓j12, ↓j15, j17, j18, j19, j20, j21, j22, j23, ↓j25, ↓j27, ↓j29, ↓j43, ↓j44, ↓j76, ↓j78, j129, ↓j145, ↓j146, ↓j153, AV.proj, AV.offOf, AV.upd, AV.size, AV.layable, j170, j171, reduceCtorEq, ↓reduceIte, Nat.reduceEqDiff, j182, j240, j309, j310, hll, hz]
  exact Final.one (.inr rfl) (r := .cell 6 29) rfl ⟨2, 0, [], _, rfl, rfl, rfl, rfl, by simp -dsimp -implicitDefEqProofs only [j129, j182, j240, j309, j310, hll]⟩ (fun vs h => by cases h) (fun vs h => by cases h) (.same _ (on_bytes _ _))
end Go.Proofs.Ythfaldoagmkllaa
