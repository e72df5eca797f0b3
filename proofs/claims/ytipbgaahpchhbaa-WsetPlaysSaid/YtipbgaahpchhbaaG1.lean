/- Facts of this seat's types, by the kernel's own reckoning. -/
import Derived.Test.YtipbgaahpchhbaaM4
import Derived.Test.YtipbgaahpchhbaaProg
set_option linter.unusedVariables false
set_option linter.unusedSimpArgs false
namespace Go.Proofs.Ytipbgaahpchhbaa
open Go Go.RowKit

theorem mixed : Try.prog.follows .mixedOrders = true := by kernel_rfl
theorem sz3 : szOf Try.prog 3 = some 1 := by kernel_rfl
theorem ag3 : isAggT Try.prog 3 = some false := by kernel_rfl
theorem it3 : intT Try.prog 3 = some .i64 := by kernel_rfl
theorem sz4 : szOf Try.prog 4 = some 1 := by kernel_rfl
theorem ag4 : isAggT Try.prog 4 = some false := by kernel_rfl
theorem sz5 : szOf Try.prog 5 = some 1 := by kernel_rfl
theorem ag5 : isAggT Try.prog 5 = some false := by kernel_rfl
theorem it5 : intT Try.prog 5 = some .u8 := by kernel_rfl
theorem sz9 : szOf Try.prog 9 = some 1 := by kernel_rfl
theorem ag9 : isAggT Try.prog 9 = some false := by kernel_rfl
theorem ss9 : isStrT Try.prog 9 = true := by kernel_rfl
theorem sz20 : szOf Try.prog 20 = some 1 := by kernel_rfl
theorem ag20 : isAggT Try.prog 20 = some false := by kernel_rfl
theorem sz22 : szOf Try.prog 22 = some 1 := by kernel_rfl
theorem ag22 : isAggT Try.prog 22 = some false := by kernel_rfl
theorem es22 : elS Try.prog 22 = some 67 := by kernel_rfl
theorem ap22 : isStrT Try.prog 22 = false := by kernel_rfl
theorem sz23 : szOf Try.prog 23 = some 1 := by kernel_rfl
theorem ag23 : isAggT Try.prog 23 = some false := by kernel_rfl
theorem it23 : intT Try.prog 23 = some .u16 := by kernel_rfl
theorem sz24 : szOf Try.prog 24 = some 64 := by kernel_rfl
theorem ag24 : isAggT Try.prog 24 = some true := by kernel_rfl
theorem ea24 : elA Try.prog 24 = some (64, 1) := by kernel_rfl
theorem fk24 : flatKinds Try.prog 40 24 = some (kreps 64) := by kernel_rfl
theorem eg24 : Try.prog.eqGuardType Try.prog.depth 24 = false := by kernel_rfl
theorem sz25 : szOf Try.prog 25 = some 64 := by kernel_rfl
theorem ag25 : isAggT Try.prog 25 = some true := by kernel_rfl
theorem ea25 : elA Try.prog 25 = some (64, 1) := by kernel_rfl
theorem fk25 : flatKinds Try.prog 40 25 = some (kreps 64) := by kernel_rfl
theorem eg25 : Try.prog.eqGuardType Try.prog.depth 25 = false := by kernel_rfl
theorem sz27 : szOf Try.prog 27 = some 67 := by kernel_rfl
theorem ag27 : isAggT Try.prog 27 = some true := by kernel_rfl
theorem ft27_0 : fldT Try.prog 27 0 = some (0, 23) := by kernel_rfl
theorem fa27_0 : fAt Try.prog 27 0 = some 0 := by kernel_rfl
theorem pl27_0 : placeAt Try.prog 27 0 = some (0, 1) := by kernel_rfl
theorem ft27_1 : fldT Try.prog 27 1 = some (1, 25) := by kernel_rfl
theorem fa27_1 : fAt Try.prog 27 1 = some 1 := by kernel_rfl
theorem pl27_1 : placeAt Try.prog 27 1 = some (1, 64) := by kernel_rfl
theorem ft27_2 : fldT Try.prog 27 2 = some (65, 3) := by kernel_rfl
theorem fa27_2 : fAt Try.prog 27 2 = some 65 := by kernel_rfl
theorem pl27_2 : placeAt Try.prog 27 2 = some (65, 1) := by kernel_rfl
theorem ft27_3 : fldT Try.prog 27 3 = some (66, 9) := by kernel_rfl
theorem fa27_3 : fAt Try.prog 27 3 = some 66 := by kernel_rfl
theorem pl27_3 : placeAt Try.prog 27 3 = some (66, 1) := by kernel_rfl
theorem fk27 : flatKinds Try.prog 40 27 = some [.i, .i, .i, .i, .i, .i, .i, .i, .i, .i, .i, .i, .i, .i, .i, .i, .i, .i, .i, .i, .i, .i, .i, .i, .i, .i, .i, .i, .i, .i, .i, .i, .i, .i, .i, .i, .i, .i, .i, .i, .i, .i, .i, .i, .i, .i, .i, .i, .i, .i, .i, .i, .i, .i, .i, .i, .i, .i, .i, .i, .i, .i, .i, .i, .i, .i, .s] := by kernel_rfl
theorem eg27 : Try.prog.eqGuardType Try.prog.depth 27 = false := by kernel_rfl
theorem sz28 : szOf Try.prog 28 = some 1 := by kernel_rfl
theorem ag28 : isAggT Try.prog 28 = some false := by kernel_rfl
theorem pt28 : isPtrT Try.prog 28 = true := by kernel_rfl
theorem sz30 : szOf Try.prog 30 = some 1 := by kernel_rfl
theorem ag30 : isAggT Try.prog 30 = some false := by kernel_rfl
theorem it30 : intT Try.prog 30 = some .i64 := by kernel_rfl
theorem sz32 : szOf Try.prog 32 = some 1 := by kernel_rfl
theorem ag32 : isAggT Try.prog 32 = some false := by kernel_rfl
theorem es32 : elS Try.prog 32 = some 1 := by kernel_rfl
theorem ap32 : isStrT Try.prog 32 = false := by kernel_rfl
theorem sz34 : szOf Try.prog 34 = some 1 := by kernel_rfl
theorem ag34 : isAggT Try.prog 34 = some false := by kernel_rfl
theorem es34 : elS Try.prog 34 = some 64 := by kernel_rfl
theorem ap34 : isStrT Try.prog 34 = false := by kernel_rfl
theorem sz39 : szOf Try.prog 39 = some 1 := by kernel_rfl
theorem ag39 : isAggT Try.prog 39 = some false := by kernel_rfl
theorem pt39 : isPtrT Try.prog 39 = true := by kernel_rfl
theorem sz40 : szOf Try.prog 40 = some 1 := by kernel_rfl
theorem ag40 : isAggT Try.prog 40 = some false := by kernel_rfl
theorem es40 : elS Try.prog 40 = some 67 := by kernel_rfl
theorem ap40 : isStrT Try.prog 40 = false := by kernel_rfl
theorem sz42 : szOf Try.prog 42 = some 1 := by kernel_rfl
theorem ag42 : isAggT Try.prog 42 = some true := by kernel_rfl
theorem ft42_0 : fldT Try.prog 42 0 = some (0, 40) := by kernel_rfl
theorem fa42_0 : fAt Try.prog 42 0 = some 0 := by kernel_rfl
theorem pl42_0 : placeAt Try.prog 42 0 = some (0, 1) := by kernel_rfl
theorem sz45 : szOf Try.prog 45 = some 67 := by kernel_rfl
theorem ag45 : isAggT Try.prog 45 = some true := by kernel_rfl
theorem ft45_0 : fldT Try.prog 45 0 = some (0, 23) := by kernel_rfl
theorem fa45_0 : fAt Try.prog 45 0 = some 0 := by kernel_rfl
theorem pl45_0 : placeAt Try.prog 45 0 = some (0, 1) := by kernel_rfl
theorem ft45_1 : fldT Try.prog 45 1 = some (1, 24) := by kernel_rfl
theorem fa45_1 : fAt Try.prog 45 1 = some 1 := by kernel_rfl
theorem pl45_1 : placeAt Try.prog 45 1 = some (1, 64) := by kernel_rfl
theorem ft45_2 : fldT Try.prog 45 2 = some (65, 3) := by kernel_rfl
theorem fa45_2 : fAt Try.prog 45 2 = some 65 := by kernel_rfl
theorem pl45_2 : placeAt Try.prog 45 2 = some (65, 1) := by kernel_rfl
theorem ft45_3 : fldT Try.prog 45 3 = some (66, 9) := by kernel_rfl
theorem fa45_3 : fAt Try.prog 45 3 = some 66 := by kernel_rfl
theorem pl45_3 : placeAt Try.prog 45 3 = some (66, 1) := by kernel_rfl
theorem fk45 : flatKinds Try.prog 40 45 = some [.i, .i, .i, .i, .i, .i, .i, .i, .i, .i, .i, .i, .i, .i, .i, .i, .i, .i, .i, .i, .i, .i, .i, .i, .i, .i, .i, .i, .i, .i, .i, .i, .i, .i, .i, .i, .i, .i, .i, .i, .i, .i, .i, .i, .i, .i, .i, .i, .i, .i, .i, .i, .i, .i, .i, .i, .i, .i, .i, .i, .i, .i, .i, .i, .i, .i, .s] := by kernel_rfl
theorem eg45 : Try.prog.eqGuardType Try.prog.depth 45 = false := by kernel_rfl
theorem sz54 : szOf Try.prog 54 = some 1 := by kernel_rfl
theorem ag54 : isAggT Try.prog 54 = some false := by kernel_rfl
theorem sz56 : szOf Try.prog 56 = some 1 := by kernel_rfl
theorem ag56 : isAggT Try.prog 56 = some true := by kernel_rfl
theorem ft56_0 : fldT Try.prog 56 0 = some (0, 54) := by kernel_rfl
theorem fa56_0 : fAt Try.prog 56 0 = some 0 := by kernel_rfl
theorem pl56_0 : placeAt Try.prog 56 0 = some (0, 1) := by kernel_rfl
theorem sz58 : szOf Try.prog 58 = some 128 := by kernel_rfl
theorem ag58 : isAggT Try.prog 58 = some true := by kernel_rfl
theorem ft58_0 : fldT Try.prog 58 0 = some (0, 25) := by kernel_rfl
theorem fa58_0 : fAt Try.prog 58 0 = some 0 := by kernel_rfl
theorem pl58_0 : placeAt Try.prog 58 0 = some (0, 64) := by kernel_rfl
theorem ft58_1 : fldT Try.prog 58 1 = some (64, 25) := by kernel_rfl
theorem fa58_1 : fAt Try.prog 58 1 = some 64 := by kernel_rfl
theorem pl58_1 : placeAt Try.prog 58 1 = some (64, 64) := by kernel_rfl
theorem fk58 : flatKinds Try.prog 40 58 = some [.i, .i, .i, .i, .i, .i, .i, .i, .i, .i, .i, .i, .i, .i, .i, .i, .i, .i, .i, .i, .i, .i, .i, .i, .i, .i, .i, .i, .i, .i, .i, .i, .i, .i, .i, .i, .i, .i, .i, .i, .i, .i, .i, .i, .i, .i, .i, .i, .i, .i, .i, .i, .i, .i, .i, .i, .i, .i, .i, .i, .i, .i, .i, .i, .i, .i, .i, .i, .i, .i, .i, .i, .i, .i, .i, .i, .i, .i, .i, .i, .i, .i, .i, .i, .i, .i, .i, .i, .i, .i, .i, .i, .i, .i, .i, .i, .i, .i, .i, .i, .i, .i, .i, .i, .i, .i, .i, .i, .i, .i, .i, .i, .i, .i, .i, .i, .i, .i, .i, .i, .i, .i, .i, .i, .i, .i, .i, .i] := by kernel_rfl
theorem eg58 : Try.prog.eqGuardType Try.prog.depth 58 = false := by kernel_rfl
theorem sz60 : szOf Try.prog 60 = some 1 := by kernel_rfl
theorem ag60 : isAggT Try.prog 60 = some false := by kernel_rfl
theorem es60 : elS Try.prog 60 = some 1 := by kernel_rfl
theorem ap60 : isStrT Try.prog 60 = false := by kernel_rfl
theorem by60 : isByT Try.prog 60 = true := by kernel_rfl
theorem sz64 : szOf Try.prog 64 = some 64 := by kernel_rfl
theorem ag64 : isAggT Try.prog 64 = some true := by kernel_rfl
theorem ea64 : elA Try.prog 64 = some (64, 1) := by kernel_rfl
theorem fk64 : flatKinds Try.prog 40 64 = some [.b, .b, .b, .b, .b, .b, .b, .b, .b, .b, .b, .b, .b, .b, .b, .b, .b, .b, .b, .b, .b, .b, .b, .b, .b, .b, .b, .b, .b, .b, .b, .b, .b, .b, .b, .b, .b, .b, .b, .b, .b, .b, .b, .b, .b, .b, .b, .b, .b, .b, .b, .b, .b, .b, .b, .b, .b, .b, .b, .b, .b, .b, .b, .b] := by kernel_rfl
theorem eg64 : Try.prog.eqGuardType Try.prog.depth 64 = false := by kernel_rfl
theorem sz67 : szOf Try.prog 67 = some 1 := by kernel_rfl
theorem ag67 : isAggT Try.prog 67 = some false := by kernel_rfl
theorem sz69 : szOf Try.prog 69 = some 1 := by kernel_rfl
theorem ag69 : isAggT Try.prog 69 = some false := by kernel_rfl
def Z : TypeId → Option AV
  | 3 => some (.int .i64 0)
  | 4 => some (.bool false)
  | 5 => some (.int .u8 0)
  | 9 => some (.str ⟨#[]⟩)
  | 20 => some (.niliface)
  | 22 => some (.vsl [] 0)
  | 23 => some (.int .u16 0)
  | 24 => some (.agg (bytesAV (zb 64)))
  | 25 => some (.agg (bytesAV (zb 64)))
  | 27 => some (.agg [.int .u16 0, .agg (bytesAV (zb 64)), .int .i64 0, .str ⟨#[]⟩])
  | 28 => some (.nilptr)
  | 30 => some (.int .i64 0)
  | 32 => some (.nilsl)
  | 34 => some (.nilsl)
  | 39 => some (.nilptr)
  | 40 => some (.nilsl)
  | 42 => some (.agg [.nilsl])
  | 45 => some (.agg [.int .u16 0, .agg (bytesAV (zb 64)), .int .i64 0, .str ⟨#[]⟩])
  | 54 => some (.nilmap)
  | 56 => some (.agg [.nilmap])
  | 58 => some (.agg [.agg (bytesAV (zb 64)), .agg (bytesAV (zb 64))])
  | 60 => some (.nilsl)
  | 64 => some (.agg (List.replicate 64 (.bool false)))
  | 67 => some (.nilfunc)
  | 69 => some (.nilfunc)
  | _ => none
theorem hZ : ∀ T z, Z T = some z → ZeroIs Try.prog T z := by
  intro T z h
  unfold Z at h
  split at h <;> simp only [Option.some.injEq, reduceCtorEq] at h <;> subst h
  · exact ZeroIs.one' (c := .int .i64 0) (by kernel_rfl) rfl
  · exact ZeroIs.one' (c := .bool false) (by kernel_rfl) rfl
  · exact ZeroIs.one' (c := .int .u8 0) (by kernel_rfl) rfl
  · exact ZeroIs.one' (c := .string ⟨#[]⟩) (by kernel_rfl) rfl
  · exact ZeroIs.one' (c := .nilIface) (by kernel_rfl) rfl
  · exact ZeroIs.one' (c := .slice none 0 0) (by kernel_rfl) rfl
  · exact ZeroIs.one' (c := .int .u16 0) (by kernel_rfl) rfl
  · exact ZeroIs.agg' (cs := #[.int .u8 0, .int .u8 0, .int .u8 0, .int .u8 0, .int .u8 0, .int .u8 0, .int .u8 0, .int .u8 0, .int .u8 0, .int .u8 0, .int .u8 0, .int .u8 0, .int .u8 0, .int .u8 0, .int .u8 0, .int .u8 0, .int .u8 0, .int .u8 0, .int .u8 0, .int .u8 0, .int .u8 0, .int .u8 0, .int .u8 0, .int .u8 0, .int .u8 0, .int .u8 0, .int .u8 0, .int .u8 0, .int .u8 0, .int .u8 0, .int .u8 0, .int .u8 0, .int .u8 0, .int .u8 0, .int .u8 0, .int .u8 0, .int .u8 0, .int .u8 0, .int .u8 0, .int .u8 0, .int .u8 0, .int .u8 0, .int .u8 0, .int .u8 0, .int .u8 0, .int .u8 0, .int .u8 0, .int .u8 0, .int .u8 0, .int .u8 0, .int .u8 0, .int .u8 0, .int .u8 0, .int .u8 0, .int .u8 0, .int .u8 0, .int .u8 0, .int .u8 0, .int .u8 0, .int .u8 0, .int .u8 0, .int .u8 0, .int .u8 0, .int .u8 0]) (by kernel_rfl) (by kernel_rfl)
  · exact ZeroIs.agg' (cs := #[.int .u8 0, .int .u8 0, .int .u8 0, .int .u8 0, .int .u8 0, .int .u8 0, .int .u8 0, .int .u8 0, .int .u8 0, .int .u8 0, .int .u8 0, .int .u8 0, .int .u8 0, .int .u8 0, .int .u8 0, .int .u8 0, .int .u8 0, .int .u8 0, .int .u8 0, .int .u8 0, .int .u8 0, .int .u8 0, .int .u8 0, .int .u8 0, .int .u8 0, .int .u8 0, .int .u8 0, .int .u8 0, .int .u8 0, .int .u8 0, .int .u8 0, .int .u8 0, .int .u8 0, .int .u8 0, .int .u8 0, .int .u8 0, .int .u8 0, .int .u8 0, .int .u8 0, .int .u8 0, .int .u8 0, .int .u8 0, .int .u8 0, .int .u8 0, .int .u8 0, .int .u8 0, .int .u8 0, .int .u8 0, .int .u8 0, .int .u8 0, .int .u8 0, .int .u8 0, .int .u8 0, .int .u8 0, .int .u8 0, .int .u8 0, .int .u8 0, .int .u8 0, .int .u8 0, .int .u8 0, .int .u8 0, .int .u8 0, .int .u8 0, .int .u8 0]) (by kernel_rfl) (by kernel_rfl)
  · exact ZeroIs.agg' (cs := #[.int .u16 0, .int .u8 0, .int .u8 0, .int .u8 0, .int .u8 0, .int .u8 0, .int .u8 0, .int .u8 0, .int .u8 0, .int .u8 0, .int .u8 0, .int .u8 0, .int .u8 0, .int .u8 0, .int .u8 0, .int .u8 0, .int .u8 0, .int .u8 0, .int .u8 0, .int .u8 0, .int .u8 0, .int .u8 0, .int .u8 0, .int .u8 0, .int .u8 0, .int .u8 0, .int .u8 0, .int .u8 0, .int .u8 0, .int .u8 0, .int .u8 0, .int .u8 0, .int .u8 0, .int .u8 0, .int .u8 0, .int .u8 0, .int .u8 0, .int .u8 0, .int .u8 0, .int .u8 0, .int .u8 0, .int .u8 0, .int .u8 0, .int .u8 0, .int .u8 0, .int .u8 0, .int .u8 0, .int .u8 0, .int .u8 0, .int .u8 0, .int .u8 0, .int .u8 0, .int .u8 0, .int .u8 0, .int .u8 0, .int .u8 0, .int .u8 0, .int .u8 0, .int .u8 0, .int .u8 0, .int .u8 0, .int .u8 0, .int .u8 0, .int .u8 0, .int .u8 0, .int .i64 0, .string ⟨#[]⟩]) (by kernel_rfl) (by kernel_rfl)
  · exact ZeroIs.one' (c := .pointer none) (by kernel_rfl) rfl
  · exact ZeroIs.one' (c := .int .i64 0) (by kernel_rfl) rfl
  · exact ZeroIs.mk_one (c := .slice none 0 0) (by kernel_rfl) rfl
  · exact ZeroIs.mk_one (c := .slice none 0 0) (by kernel_rfl) rfl
  · exact ZeroIs.one' (c := .pointer none) (by kernel_rfl) rfl
  · exact ZeroIs.mk_one (c := .slice none 0 0) (by kernel_rfl) rfl
  · exact ZeroIs.mk_agg (cs := #[.slice none 0 0]) (by kernel_rfl) rfl
  · exact ZeroIs.agg' (cs := #[.int .u16 0, .int .u8 0, .int .u8 0, .int .u8 0, .int .u8 0, .int .u8 0, .int .u8 0, .int .u8 0, .int .u8 0, .int .u8 0, .int .u8 0, .int .u8 0, .int .u8 0, .int .u8 0, .int .u8 0, .int .u8 0, .int .u8 0, .int .u8 0, .int .u8 0, .int .u8 0, .int .u8 0, .int .u8 0, .int .u8 0, .int .u8 0, .int .u8 0, .int .u8 0, .int .u8 0, .int .u8 0, .int .u8 0, .int .u8 0, .int .u8 0, .int .u8 0, .int .u8 0, .int .u8 0, .int .u8 0, .int .u8 0, .int .u8 0, .int .u8 0, .int .u8 0, .int .u8 0, .int .u8 0, .int .u8 0, .int .u8 0, .int .u8 0, .int .u8 0, .int .u8 0, .int .u8 0, .int .u8 0, .int .u8 0, .int .u8 0, .int .u8 0, .int .u8 0, .int .u8 0, .int .u8 0, .int .u8 0, .int .u8 0, .int .u8 0, .int .u8 0, .int .u8 0, .int .u8 0, .int .u8 0, .int .u8 0, .int .u8 0, .int .u8 0, .int .u8 0, .int .i64 0, .string ⟨#[]⟩]) (by kernel_rfl) (by kernel_rfl)
  · exact ZeroIs.one' (c := .map none) (by kernel_rfl) rfl
  · exact ZeroIs.agg' (cs := #[.map none]) (by kernel_rfl) rfl
  · exact ZeroIs.agg' (cs := #[.int .u8 0, .int .u8 0, .int .u8 0, .int .u8 0, .int .u8 0, .int .u8 0, .int .u8 0, .int .u8 0, .int .u8 0, .int .u8 0, .int .u8 0, .int .u8 0, .int .u8 0, .int .u8 0, .int .u8 0, .int .u8 0, .int .u8 0, .int .u8 0, .int .u8 0, .int .u8 0, .int .u8 0, .int .u8 0, .int .u8 0, .int .u8 0, .int .u8 0, .int .u8 0, .int .u8 0, .int .u8 0, .int .u8 0, .int .u8 0, .int .u8 0, .int .u8 0, .int .u8 0, .int .u8 0, .int .u8 0, .int .u8 0, .int .u8 0, .int .u8 0, .int .u8 0, .int .u8 0, .int .u8 0, .int .u8 0, .int .u8 0, .int .u8 0, .int .u8 0, .int .u8 0, .int .u8 0, .int .u8 0, .int .u8 0, .int .u8 0, .int .u8 0, .int .u8 0, .int .u8 0, .int .u8 0, .int .u8 0, .int .u8 0, .int .u8 0, .int .u8 0, .int .u8 0, .int .u8 0, .int .u8 0, .int .u8 0, .int .u8 0, .int .u8 0, .int .u8 0, .int .u8 0, .int .u8 0, .int .u8 0, .int .u8 0, .int .u8 0, .int .u8 0, .int .u8 0, .int .u8 0, .int .u8 0, .int .u8 0, .int .u8 0, .int .u8 0, .int .u8 0, .int .u8 0, .int .u8 0, .int .u8 0, .int .u8 0, .int .u8 0, .int .u8 0, .int .u8 0, .int .u8 0, .int .u8 0, .int .u8 0, .int .u8 0, .int .u8 0, .int .u8 0, .int .u8 0, .int .u8 0, .int .u8 0, .int .u8 0, .int .u8 0, .int .u8 0, .int .u8 0, .int .u8 0, .int .u8 0, .int .u8 0, .int .u8 0, .int .u8 0, .int .u8 0, .int .u8 0, .int .u8 0, .int .u8 0, .int .u8 0, .int .u8 0, .int .u8 0, .int .u8 0, .int .u8 0, .int .u8 0, .int .u8 0, .int .u8 0, .int .u8 0, .int .u8 0, .int .u8 0, .int .u8 0, .int .u8 0, .int .u8 0, .int .u8 0, .int .u8 0, .int .u8 0, .int .u8 0, .int .u8 0, .int .u8 0, .int .u8 0]) (by kernel_rfl) (by kernel_rfl)
  · exact ZeroIs.mk_one (c := .slice none 0 0) (by kernel_rfl) rfl
  · exact ZeroIs.agg' (cs := #[.bool false, .bool false, .bool false, .bool false, .bool false, .bool false, .bool false, .bool false, .bool false, .bool false, .bool false, .bool false, .bool false, .bool false, .bool false, .bool false, .bool false, .bool false, .bool false, .bool false, .bool false, .bool false, .bool false, .bool false, .bool false, .bool false, .bool false, .bool false, .bool false, .bool false, .bool false, .bool false, .bool false, .bool false, .bool false, .bool false, .bool false, .bool false, .bool false, .bool false, .bool false, .bool false, .bool false, .bool false, .bool false, .bool false, .bool false, .bool false, .bool false, .bool false, .bool false, .bool false, .bool false, .bool false, .bool false, .bool false, .bool false, .bool false, .bool false, .bool false, .bool false, .bool false, .bool false, .bool false]) (by kernel_rfl) (by kernel_rfl)
  · exact ZeroIs.one' (c := .nilFunc) (by kernel_rfl) rfl
  · exact ZeroIs.one' (c := .nilFunc) (by kernel_rfl) rfl
theorem Z3 : Z 3 = some (.int .i64 0) := rfl
theorem Z4 : Z 4 = some (.bool false) := rfl
theorem Z5 : Z 5 = some (.int .u8 0) := rfl
theorem Z9 : Z 9 = some (.str ⟨#[]⟩) := rfl
theorem Z20 : Z 20 = some (.niliface) := rfl
theorem Z22 : Z 22 = some (.vsl [] 0) := rfl
theorem Z23 : Z 23 = some (.int .u16 0) := rfl
theorem Z24 : Z 24 = some (.agg (bytesAV (zb 64))) := rfl
theorem Z25 : Z 25 = some (.agg (bytesAV (zb 64))) := rfl
theorem Z27 : Z 27 = some (.agg [.int .u16 0, .agg (bytesAV (zb 64)), .int .i64 0, .str ⟨#[]⟩]) := rfl
theorem Z28 : Z 28 = some (.nilptr) := rfl
theorem Z30 : Z 30 = some (.int .i64 0) := rfl
theorem Z32 : Z 32 = some (.nilsl) := rfl
theorem Z34 : Z 34 = some (.nilsl) := rfl
theorem Z39 : Z 39 = some (.nilptr) := rfl
theorem Z40 : Z 40 = some (.nilsl) := rfl
theorem Z42 : Z 42 = some (.agg [.nilsl]) := rfl
theorem Z45 : Z 45 = some (.agg [.int .u16 0, .agg (bytesAV (zb 64)), .int .i64 0, .str ⟨#[]⟩]) := rfl
theorem Z54 : Z 54 = some (.nilmap) := rfl
theorem Z56 : Z 56 = some (.agg [.nilmap]) := rfl
theorem Z58 : Z 58 = some (.agg [.agg (bytesAV (zb 64)), .agg (bytesAV (zb 64))]) := rfl
theorem Z60 : Z 60 = some (.nilsl) := rfl
theorem Z64 : Z 64 = some (.agg (List.replicate 64 (.bool false))) := rfl
theorem Z67 : Z 67 = some (.nilfunc) := rfl
theorem Z69 : Z 69 = some (.nilfunc) := rfl
theorem el22 : elemS Try.prog Z 22 = some (.agg [.int .u16 0, .agg (bytesAV (zb 64)), .int .i64 0, .str ⟨#[]⟩], 67) := by kernel_rfl
theorem em22 : elemM Try.prog Z 22 = some (.agg [.int .u16 0, .agg (bytesAV (zb 64)), .int .i64 0, .str ⟨#[]⟩], 67, 96) := by kernel_rfl
theorem at22 : apT Try.prog Z 22 22 = some (67, 96) := by kernel_rfl
theorem bz24 : bldZ Try.prog Z 24 = some (bytesAV (zb 64)) := by kernel_rfl
theorem bz25 : bldZ Try.prog Z 25 = some (bytesAV (zb 64)) := by kernel_rfl
theorem bz27 : bldZ Try.prog Z 27 = some [.int .u16 0, .agg (bytesAV (zb 64)), .int .i64 0, .str ⟨#[]⟩] := by kernel_rfl
theorem el32 : elemS Try.prog Z 32 = some (.int .u16 0, 1) := by kernel_rfl
theorem em32 : elemM Try.prog Z 32 = some (.int .u16 0, 1, 2) := by kernel_rfl
theorem at32 : apT Try.prog Z 32 32 = some (1, 2) := by kernel_rfl
theorem el34 : elemS Try.prog Z 34 = some (.agg (bytesAV (zb 64)), 64) := by kernel_rfl
theorem em34 : elemM Try.prog Z 34 = some (.agg (bytesAV (zb 64)), 64, 64) := by kernel_rfl
theorem at34 : apT Try.prog Z 34 34 = some (64, 64) := by kernel_rfl
theorem el40 : elemS Try.prog Z 40 = some (.agg [.int .u16 0, .agg (bytesAV (zb 64)), .int .i64 0, .str ⟨#[]⟩], 67) := by kernel_rfl
theorem em40 : elemM Try.prog Z 40 = some (.agg [.int .u16 0, .agg (bytesAV (zb 64)), .int .i64 0, .str ⟨#[]⟩], 67, 96) := by kernel_rfl
theorem at40 : apT Try.prog Z 40 40 = some (67, 96) := by kernel_rfl
theorem bz42 : bldZ Try.prog Z 42 = some [.nilsl] := by kernel_rfl
theorem bz45 : bldZ Try.prog Z 45 = some [.int .u16 0, .agg (bytesAV (zb 64)), .int .i64 0, .str ⟨#[]⟩] := by kernel_rfl
theorem bz56 : bldZ Try.prog Z 56 = some [.nilmap] := by kernel_rfl
theorem bz58 : bldZ Try.prog Z 58 = some [.agg (bytesAV (zb 64)), .agg (bytesAV (zb 64))] := by kernel_rfl
theorem el60 : elemS Try.prog Z 60 = some (.int .u8 0, 1) := by kernel_rfl
theorem em60 : elemM Try.prog Z 60 = some (.int .u8 0, 1, 1) := by kernel_rfl
theorem at60 : apT Try.prog Z 60 60 = some (1, 1) := by kernel_rfl
theorem bz64 : bldZ Try.prog Z 64 = some (List.replicate 64 (.bool false)) := by kernel_rfl
theorem at60_9 : apT Try.prog Z 60 9 = some (1, 1) := by kernel_rfl
end Go.Proofs.Ytipbgaahpchhbaa
