/- Facts of this seat's types, by the kernel's own reckoning. -/
import Derived.Test.YthfaldoagmkllaaM4
import Derived.Test.YthfaldoagmkllaaProg
set_option linter.unusedVariables false
set_option linter.unusedSimpArgs false
namespace Go.Proofs.Ythfaldoagmkllaa
open Go Go.RowKit

theorem mixed : Try.prog.follows .mixedOrders = true := by kernel_rfl
theorem sz3 : szOf Try.prog 3 = some 1 := by kernel_rfl
theorem ag3 : isAggT Try.prog 3 = some false := by kernel_rfl
theorem it3 : intT Try.prog 3 = some .i64 := by kernel_rfl
theorem sz4 : szOf Try.prog 4 = some 1 := by kernel_rfl
theorem ag4 : isAggT Try.prog 4 = some false := by kernel_rfl
theorem sz5 : szOf Try.prog 5 = some 1 := by kernel_rfl
theorem ag5 : isAggT Try.prog 5 = some false := by kernel_rfl
theorem it5 : intT Try.prog 5 = some .u8 := by kernel_rfl
theorem sz9 : szOf Try.prog 9 = some 1 := by kernel_rfl
theorem ag9 : isAggT Try.prog 9 = some false := by kernel_rfl
theorem ss9 : isStrT Try.prog 9 = true := by kernel_rfl
theorem sz22 : szOf Try.prog 22 = some 1 := by kernel_rfl
theorem ag22 : isAggT Try.prog 22 = some false := by kernel_rfl
theorem it22 : intT Try.prog 22 = some .u64 := by kernel_rfl
theorem sz23 : szOf Try.prog 23 = some 1 := by kernel_rfl
theorem ag23 : isAggT Try.prog 23 = some false := by kernel_rfl
theorem it23 : intT Try.prog 23 = some .u32 := by kernel_rfl
theorem sz25 : szOf Try.prog 25 = some 4 := by kernel_rfl
theorem ag25 : isAggT Try.prog 25 = some true := by kernel_rfl
theorem ft25_0 : fldT Try.prog 25 0 = some (0, 3) := by kernel_rfl
theorem fa25_0 : fAt Try.prog 25 0 = some 0 := by kernel_rfl
theorem pl25_0 : placeAt Try.prog 25 0 = some (0, 1) := by kernel_rfl
theorem ft25_1 : fldT Try.prog 25 1 = some (1, 3) := by kernel_rfl
theorem fa25_1 : fAt Try.prog 25 1 = some 1 := by kernel_rfl
theorem pl25_1 : placeAt Try.prog 25 1 = some (1, 1) := by kernel_rfl
theorem ft25_2 : fldT Try.prog 25 2 = some (2, 3) := by kernel_rfl
theorem fa25_2 : fAt Try.prog 25 2 = some 2 := by kernel_rfl
theorem pl25_2 : placeAt Try.prog 25 2 = some (2, 1) := by kernel_rfl
theorem ft25_3 : fldT Try.prog 25 3 = some (3, 23) := by kernel_rfl
theorem fa25_3 : fAt Try.prog 25 3 = some 3 := by kernel_rfl
theorem pl25_3 : placeAt Try.prog 25 3 = some (3, 1) := by kernel_rfl
theorem fk25 : flatKinds Try.prog 40 25 = some [.i, .i, .i, .i] := by kernel_rfl
theorem eg25 : Try.prog.eqGuardType Try.prog.depth 25 = false := by kernel_rfl
theorem sz27 : szOf Try.prog 27 = some 9 := by kernel_rfl
theorem ag27 : isAggT Try.prog 27 = some true := by kernel_rfl
theorem ft27_0 : fldT Try.prog 27 0 = some (0, 22) := by kernel_rfl
theorem fa27_0 : fAt Try.prog 27 0 = some 0 := by kernel_rfl
theorem pl27_0 : placeAt Try.prog 27 0 = some (0, 1) := by kernel_rfl
theorem ft27_1 : fldT Try.prog 27 1 = some (1, 23) := by kernel_rfl
theorem fa27_1 : fAt Try.prog 27 1 = some 1 := by kernel_rfl
theorem pl27_1 : placeAt Try.prog 27 1 = some (1, 1) := by kernel_rfl
theorem ft27_2 : fldT Try.prog 27 2 = some (2, 23) := by kernel_rfl
theorem fa27_2 : fAt Try.prog 27 2 = some 2 := by kernel_rfl
theorem pl27_2 : placeAt Try.prog 27 2 = some (2, 1) := by kernel_rfl
theorem ft27_3 : fldT Try.prog 27 3 = some (3, 22) := by kernel_rfl
theorem fa27_3 : fAt Try.prog 27 3 = some 3 := by kernel_rfl
theorem pl27_3 : placeAt Try.prog 27 3 = some (3, 1) := by kernel_rfl
theorem ft27_4 : fldT Try.prog 27 4 = some (4, 23) := by kernel_rfl
theorem fa27_4 : fAt Try.prog 27 4 = some 4 := by kernel_rfl
theorem pl27_4 : placeAt Try.prog 27 4 = some (4, 1) := by kernel_rfl
theorem ft27_5 : fldT Try.prog 27 5 = some (5, 25) := by kernel_rfl
theorem fa27_5 : fAt Try.prog 27 5 = some 5 := by kernel_rfl
theorem pl27_5 : placeAt Try.prog 27 5 = some (5, 4) := by kernel_rfl
theorem fk27 : flatKinds Try.prog 40 27 = some [.i, .i, .i, .i, .i, .i, .i, .i, .i] := by kernel_rfl
theorem eg27 : Try.prog.eqGuardType Try.prog.depth 27 = false := by kernel_rfl
theorem sz28 : szOf Try.prog 28 = some 256 := by kernel_rfl
theorem ag28 : isAggT Try.prog 28 = some true := by kernel_rfl
theorem ea28 : elA Try.prog 28 = some (256, 1) := by kernel_rfl
theorem fk28 : flatKinds Try.prog 40 28 = some (kreps 256) := by kernel_rfl
theorem eg28 : Try.prog.eqGuardType Try.prog.depth 28 = false := by kernel_rfl
theorem sz29 : szOf Try.prog 29 = some 256 := by kernel_rfl
theorem ag29 : isAggT Try.prog 29 = some true := by kernel_rfl
theorem ea29 : elA Try.prog 29 = some (256, 1) := by kernel_rfl
theorem fk29 : flatKinds Try.prog 40 29 = some (kreps 256) := by kernel_rfl
theorem eg29 : Try.prog.eqGuardType Try.prog.depth 29 = false := by kernel_rfl
theorem sz30 : szOf Try.prog 30 = some 1 := by kernel_rfl
theorem ag30 : isAggT Try.prog 30 = some false := by kernel_rfl
theorem it30 : intT Try.prog 30 = some .i64 := by kernel_rfl
theorem sz42 : szOf Try.prog 42 = some 1 := by kernel_rfl
theorem ag42 : isAggT Try.prog 42 = some false := by kernel_rfl
theorem pt42 : isPtrT Try.prog 42 = true := by kernel_rfl
theorem sz51 : szOf Try.prog 51 = some 1 := by kernel_rfl
theorem ag51 : isAggT Try.prog 51 = some false := by kernel_rfl
theorem es51 : elS Try.prog 51 = some 1 := by kernel_rfl
theorem ap51 : isStrT Try.prog 51 = false := by kernel_rfl
theorem sz53 : szOf Try.prog 53 = some 1 := by kernel_rfl
theorem ag53 : isAggT Try.prog 53 = some false := by kernel_rfl
theorem es53 : elS Try.prog 53 = some 1 := by kernel_rfl
theorem ap53 : isStrT Try.prog 53 = false := by kernel_rfl
theorem sz57 : szOf Try.prog 57 = some 224 := by kernel_rfl
theorem ag57 : isAggT Try.prog 57 = some true := by kernel_rfl
theorem ea57 : elA Try.prog 57 = some (224, 1) := by kernel_rfl
theorem fk57 : flatKinds Try.prog 40 57 = some (kreps 224) := by kernel_rfl
theorem eg57 : Try.prog.eqGuardType Try.prog.depth 57 = false := by kernel_rfl
theorem sz58 : szOf Try.prog 58 = some 224 := by kernel_rfl
theorem ag58 : isAggT Try.prog 58 = some true := by kernel_rfl
theorem ea58 : elA Try.prog 58 = some (224, 1) := by kernel_rfl
theorem fk58 : flatKinds Try.prog 40 58 = some (kreps 224) := by kernel_rfl
theorem eg58 : Try.prog.eqGuardType Try.prog.depth 58 = false := by kernel_rfl
theorem sz59 : szOf Try.prog 59 = some 1 := by kernel_rfl
theorem ag59 : isAggT Try.prog 59 = some false := by kernel_rfl
theorem es59 : elS Try.prog 59 = some 1 := by kernel_rfl
theorem ap59 : isStrT Try.prog 59 = false := by kernel_rfl
theorem by59 : isByT Try.prog 59 = true := by kernel_rfl
theorem sz63 : szOf Try.prog 63 = some 1 := by kernel_rfl
theorem ag63 : isAggT Try.prog 63 = some false := by kernel_rfl
theorem es63 : elS Try.prog 63 = some 1 := by kernel_rfl
theorem ap63 : isStrT Try.prog 63 = false := by kernel_rfl
theorem sz69 : szOf Try.prog 69 = some 1 := by kernel_rfl
theorem ag69 : isAggT Try.prog 69 = some false := by kernel_rfl
theorem sz74 : szOf Try.prog 74 = some 1 := by kernel_rfl
theorem ag74 : isAggT Try.prog 74 = some false := by kernel_rfl
theorem sz75 : szOf Try.prog 75 = some 1 := by kernel_rfl
theorem ag75 : isAggT Try.prog 75 = some false := by kernel_rfl
theorem es75 : elS Try.prog 75 = some 66 := by kernel_rfl
theorem ap75 : isStrT Try.prog 75 = false := by kernel_rfl
theorem sz76 : szOf Try.prog 76 = some 1 := by kernel_rfl
theorem ag76 : isAggT Try.prog 76 = some false := by kernel_rfl
theorem sz78 : szOf Try.prog 78 = some 8 := by kernel_rfl
theorem ag78 : isAggT Try.prog 78 = some true := by kernel_rfl
theorem ft78_0 : fldT Try.prog 78 0 = some (0, 3) := by kernel_rfl
theorem fa78_0 : fAt Try.prog 78 0 = some 0 := by kernel_rfl
theorem pl78_0 : placeAt Try.prog 78 0 = some (0, 1) := by kernel_rfl
theorem ft78_1 : fldT Try.prog 78 1 = some (1, 74) := by kernel_rfl
theorem fa78_1 : fAt Try.prog 78 1 = some 1 := by kernel_rfl
theorem pl78_1 : placeAt Try.prog 78 1 = some (1, 1) := by kernel_rfl
theorem ft78_2 : fldT Try.prog 78 2 = some (2, 74) := by kernel_rfl
theorem fa78_2 : fAt Try.prog 78 2 = some 2 := by kernel_rfl
theorem pl78_2 : placeAt Try.prog 78 2 = some (2, 1) := by kernel_rfl
theorem ft78_3 : fldT Try.prog 78 3 = some (3, 75) := by kernel_rfl
theorem fa78_3 : fAt Try.prog 78 3 = some 3 := by kernel_rfl
theorem pl78_3 : placeAt Try.prog 78 3 = some (3, 1) := by kernel_rfl
theorem ft78_4 : fldT Try.prog 78 4 = some (4, 76) := by kernel_rfl
theorem fa78_4 : fAt Try.prog 78 4 = some 4 := by kernel_rfl
theorem pl78_4 : placeAt Try.prog 78 4 = some (4, 1) := by kernel_rfl
theorem ft78_5 : fldT Try.prog 78 5 = some (5, 3) := by kernel_rfl
theorem fa78_5 : fAt Try.prog 78 5 = some 5 := by kernel_rfl
theorem pl78_5 : placeAt Try.prog 78 5 = some (5, 1) := by kernel_rfl
theorem ft78_6 : fldT Try.prog 78 6 = some (6, 3) := by kernel_rfl
theorem fa78_6 : fAt Try.prog 78 6 = some 6 := by kernel_rfl
theorem pl78_6 : placeAt Try.prog 78 6 = some (6, 1) := by kernel_rfl
theorem ft78_7 : fldT Try.prog 78 7 = some (7, 4) := by kernel_rfl
theorem fa78_7 : fAt Try.prog 78 7 = some 7 := by kernel_rfl
theorem pl78_7 : placeAt Try.prog 78 7 = some (7, 1) := by kernel_rfl
theorem sz81 : szOf Try.prog 81 = some 2 := by kernel_rfl
theorem ag81 : isAggT Try.prog 81 = some true := by kernel_rfl
theorem pl81_0 : placeAt Try.prog 81 0 = some (0, 1) := by kernel_rfl
theorem pl81_1 : placeAt Try.prog 81 1 = some (1, 1) := by kernel_rfl
theorem ea81 : elA Try.prog 81 = some (2, 1) := by kernel_rfl
theorem fk81 : flatKinds Try.prog 40 81 = some [.i, .i] := by kernel_rfl
theorem eg81 : Try.prog.eqGuardType Try.prog.depth 81 = false := by kernel_rfl
theorem sz83 : szOf Try.prog 83 = some 64 := by kernel_rfl
theorem ag83 : isAggT Try.prog 83 = some true := by kernel_rfl
theorem ea83 : elA Try.prog 83 = some (64, 1) := by kernel_rfl
theorem fk83 : flatKinds Try.prog 40 83 = some (kreps 64) := by kernel_rfl
theorem eg83 : Try.prog.eqGuardType Try.prog.depth 83 = false := by kernel_rfl
theorem sz86 : szOf Try.prog 86 = some 66 := by kernel_rfl
theorem ag86 : isAggT Try.prog 86 = some true := by kernel_rfl
theorem ft86_0 : fldT Try.prog 86 0 = some (0, 81) := by kernel_rfl
theorem fa86_0 : fAt Try.prog 86 0 = some 0 := by kernel_rfl
theorem pl86_0 : placeAt Try.prog 86 0 = some (0, 2) := by kernel_rfl
theorem ft86_1 : fldT Try.prog 86 1 = some (2, 83) := by kernel_rfl
theorem fa86_1 : fAt Try.prog 86 1 = some 2 := by kernel_rfl
theorem pl86_1 : placeAt Try.prog 86 1 = some (2, 64) := by kernel_rfl
theorem fk86 : flatKinds Try.prog 40 86 = some [.i, .i, .i, .i, .i, .i, .i, .i, .i, .i, .i, .i, .i, .i, .i, .i, .i, .i, .i, .i, .i, .i, .i, .i, .i, .i, .i, .i, .i, .i, .i, .i, .i, .i, .i, .i, .i, .i, .i, .i, .i, .i, .i, .i, .i, .i, .i, .i, .i, .i, .i, .i, .i, .i, .i, .i, .i, .i, .i, .i, .i, .i, .i, .i, .i, .i] := by kernel_rfl
theorem eg86 : Try.prog.eqGuardType Try.prog.depth 86 = false := by kernel_rfl
def Z : TypeId → Option AV
  | 3 => some (.int .i64 0)
  | 4 => some (.bool false)
  | 5 => some (.int .u8 0)
  | 9 => some (.str ⟨#[]⟩)
  | 22 => some (.int .u64 0)
  | 23 => some (.int .u32 0)
  | 25 => some (.agg [.int .i64 0, .int .i64 0, .int .i64 0, .int .u32 0])
  | 27 => some (.agg [.int .u64 0, .int .u32 0, .int .u32 0, .int .u64 0, .int .u32 0, .agg [.int .i64 0, .int .i64 0, .int .i64 0, .int .u32 0]])
  | 28 => some (.agg (bytesAV (zb 256)))
  | 29 => some (.agg (bytesAV (zb 256)))
  | 30 => some (.int .i64 0)
  | 42 => some (.nilptr)
  | 51 => some (.vsl [] 0)
  | 53 => some (.vsl [] 0)
  | 57 => some (.agg (bytesAV (zb 224)))
  | 58 => some (.agg (bytesAV (zb 224)))
  | 59 => some (.vsl [] 0)
  | 63 => some (.vsl [] 0)
  | 69 => some (.nilfunc)
  | 74 => some (.nilmap)
  | 75 => some (.vsl [] 0)
  | 76 => some (.nilmap)
  | 78 => some (.agg [.int .i64 0, .nilmap, .nilmap, .nilsl, .nilmap, .int .i64 0, .int .i64 0, .bool false])
  | 81 => some (.agg [.int .i64 0, .int .i64 0])
  | 83 => some (.agg (bytesAV (zb 64)))
  | 86 => some (.agg [.agg [.int .i64 0, .int .i64 0], .agg (bytesAV (zb 64))])
  | _ => none
theorem hZ : ∀ T z, Z T = some z → ZeroIs Try.prog T z := by
  intro T z h
  unfold Z at h
  split at h <;> simp only [Option.some.injEq, reduceCtorEq] at h <;> subst h
  · exact ZeroIs.one' (c := .int .i64 0) (by kernel_rfl) rfl
  · exact ZeroIs.one' (c := .bool false) (by kernel_rfl) rfl
  · exact ZeroIs.one' (c := .int .u8 0) (by kernel_rfl) rfl
  · exact ZeroIs.one' (c := .string ⟨#[]⟩) (by kernel_rfl) rfl
  · exact ZeroIs.one' (c := .int .u64 0) (by kernel_rfl) rfl
  · exact ZeroIs.one' (c := .int .u32 0) (by kernel_rfl) rfl
  · exact ZeroIs.agg' (cs := #[.int .i64 0, .int .i64 0, .int .i64 0, .int .u32 0]) (by kernel_rfl) rfl
  · exact ZeroIs.agg' (cs := #[.int .u64 0, .int .u32 0, .int .u32 0, .int .u64 0, .int .u32 0, .int .i64 0, .int .i64 0, .int .i64 0, .int .u32 0]) (by kernel_rfl) rfl
  · exact ZeroIs.agg' (cs := #[.int .u8 0, .int .u8 0, .int .u8 0, .int .u8 0, .int .u8 0, .int .u8 0, .int .u8 0, .int .u8 0, .int .u8 0, .int .u8 0, .int .u8 0, .int .u8 0, .int .u8 0, .int .u8 0, .int .u8 0, .int .u8 0, .int .u8 0, .int .u8 0, .int .u8 0, .int .u8 0, .int .u8 0, .int .u8 0, .int .u8 0, .int .u8 0, .int .u8 0, .int .u8 0, .int .u8 0, .int .u8 0, .int .u8 0, .int .u8 0, .int .u8 0, .int .u8 0, .int .u8 0, .int .u8 0, .int .u8 0, .int .u8 0, .int .u8 0, .int .u8 0, .int .u8 0, .int .u8 0, .int .u8 0, .int .u8 0, .int .u8 0, .int .u8 0, .int .u8 0, .int .u8 0, .int .u8 0, .int .u8 0, .int .u8 0, .int .u8 0, .int .u8 0, .int .u8 0, .int .u8 0, .int .u8 0, .int .u8 0, .int .u8 0, .int .u8 0, .int .u8 0, .int .u8 0, .int .u8 0, .int .u8 0, .int .u8 0, .int .u8 0, .int .u8 0, .int .u8 0, .int .u8 0, .int .u8 0, .int .u8 0, .int .u8 0, .int .u8 0, .int .u8 0, .int .u8 0, .int .u8 0, .int .u8 0, .int .u8 0, .int .u8 0, .int .u8 0, .int .u8 0, .int .u8 0, .int .u8 0, .int .u8 0, .int .u8 0, .int .u8 0, .int .u8 0, .int .u8 0, .int .u8 0, .int .u8 0, .int .u8 0, .int .u8 0, .int .u8 0, .int .u8 0, .int .u8 0, .int .u8 0, .int .u8 0, .int .u8 0, .int .u8 0, .int .u8 0, .int .u8 0, .int .u8 0, .int .u8 0, .int .u8 0, .int .u8 0, .int .u8 0, .int .u8 0, .int .u8 0, .int .u8 0, .int .u8 0, .int .u8 0, .int .u8 0, .int .u8 0, .int .u8 0, .int .u8 0, .int .u8 0, .int .u8 0, .int .u8 0, .int .u8 0, .int .u8 0, .int .u8 0, .int .u8 0, .int .u8 0, .int .u8 0, .int .u8 0, .int .u8 0, .int .u8 0, .int .u8 0, .int .u8 0, .int .u8 0, .int .u8 0, .int .u8 0, .int .u8 0, .int .u8 0, .int .u8 0, .int .u8 0, .int .u8 0, .int .u8 0, .int .u8 0, .int .u8 0, .int .u8 0, .int .u8 0, .int .u8 0, .int .u8 0, .int .u8 0, .int .u8 0, .int .u8 0, .int .u8 0, .int .u8 0, .int .u8 0, .int .u8 0, .int .u8 0, .int .u8 0, .int .u8 0, .int .u8 0, .int .u8 0, .int .u8 0, .int .u8 0, .int .u8 0, .int .u8 0, .int .u8 0, .int .u8 0, .int .u8 0, .int .u8 0, .int .u8 0, .int .u8 0, .int .u8 0, .int .u8 0, .int .u8 0, .int .u8 0, .int .u8 0, .int .u8 0, .int .u8 0, .int .u8 0, .int .u8 0, .int .u8 0, .int .u8 0, .int .u8 0, .int .u8 0, .int .u8 0, .int .u8 0, .int .u8 0, .int .u8 0, .int .u8 0, .int .u8 0, .int .u8 0, .int .u8 0, .int .u8 0, .int .u8 0, .int .u8 0, .int .u8 0, .int .u8 0, .int .u8 0, .int .u8 0, .int .u8 0, .int .u8 0, .int .u8 0, .int .u8 0, .int .u8 0, .int .u8 0, .int .u8 0, .int .u8 0, .int .u8 0, .int .u8 0, .int .u8 0, .int .u8 0, .int .u8 0, .int .u8 0, .int .u8 0, .int .u8 0, .int .u8 0, .int .u8 0, .int .u8 0, .int .u8 0, .int .u8 0, .int .u8 0, .int .u8 0, .int .u8 0, .int .u8 0, .int .u8 0, .int .u8 0, .int .u8 0, .int .u8 0, .int .u8 0, .int .u8 0, .int .u8 0, .int .u8 0, .int .u8 0, .int .u8 0, .int .u8 0, .int .u8 0, .int .u8 0, .int .u8 0, .int .u8 0, .int .u8 0, .int .u8 0, .int .u8 0, .int .u8 0, .int .u8 0, .int .u8 0, .int .u8 0, .int .u8 0, .int .u8 0, .int .u8 0, .int .u8 0, .int .u8 0, .int .u8 0, .int .u8 0, .int .u8 0, .int .u8 0, .int .u8 0, .int .u8 0, .int .u8 0, .int .u8 0, .int .u8 0, .int .u8 0, .int .u8 0, .int .u8 0, .int .u8 0]) (by kernel_rfl) (by kernel_rfl)
  · exact ZeroIs.agg' (cs := #[.int .u8 0, .int .u8 0, .int .u8 0, .int .u8 0, .int .u8 0, .int .u8 0, .int .u8 0, .int .u8 0, .int .u8 0, .int .u8 0, .int .u8 0, .int .u8 0, .int .u8 0, .int .u8 0, .int .u8 0, .int .u8 0, .int .u8 0, .int .u8 0, .int .u8 0, .int .u8 0, .int .u8 0, .int .u8 0, .int .u8 0, .int .u8 0, .int .u8 0, .int .u8 0, .int .u8 0, .int .u8 0, .int .u8 0, .int .u8 0, .int .u8 0, .int .u8 0, .int .u8 0, .int .u8 0, .int .u8 0, .int .u8 0, .int .u8 0, .int .u8 0, .int .u8 0, .int .u8 0, .int .u8 0, .int .u8 0, .int .u8 0, .int .u8 0, .int .u8 0, .int .u8 0, .int .u8 0, .int .u8 0, .int .u8 0, .int .u8 0, .int .u8 0, .int .u8 0, .int .u8 0, .int .u8 0, .int .u8 0, .int .u8 0, .int .u8 0, .int .u8 0, .int .u8 0, .int .u8 0, .int .u8 0, .int .u8 0, .int .u8 0, .int .u8 0, .int .u8 0, .int .u8 0, .int .u8 0, .int .u8 0, .int .u8 0, .int .u8 0, .int .u8 0, .int .u8 0, .int .u8 0, .int .u8 0, .int .u8 0, .int .u8 0, .int .u8 0, .int .u8 0, .int .u8 0, .int .u8 0, .int .u8 0, .int .u8 0, .int .u8 0, .int .u8 0, .int .u8 0, .int .u8 0, .int .u8 0, .int .u8 0, .int .u8 0, .int .u8 0, .int .u8 0, .int .u8 0, .int .u8 0, .int .u8 0, .int .u8 0, .int .u8 0, .int .u8 0, .int .u8 0, .int .u8 0, .int .u8 0, .int .u8 0, .int .u8 0, .int .u8 0, .int .u8 0, .int .u8 0, .int .u8 0, .int .u8 0, .int .u8 0, .int .u8 0, .int .u8 0, .int .u8 0, .int .u8 0, .int .u8 0, .int .u8 0, .int .u8 0, .int .u8 0, .int .u8 0, .int .u8 0, .int .u8 0, .int .u8 0, .int .u8 0, .int .u8 0, .int .u8 0, .int .u8 0, .int .u8 0, .int .u8 0, .int .u8 0, .int .u8 0, .int .u8 0, .int .u8 0, .int .u8 0, .int .u8 0, .int .u8 0, .int .u8 0, .int .u8 0, .int .u8 0, .int .u8 0, .int .u8 0, .int .u8 0, .int .u8 0, .int .u8 0, .int .u8 0, .int .u8 0, .int .u8 0, .int .u8 0, .int .u8 0, .int .u8 0, .int .u8 0, .int .u8 0, .int .u8 0, .int .u8 0, .int .u8 0, .int .u8 0, .int .u8 0, .int .u8 0, .int .u8 0, .int .u8 0, .int .u8 0, .int .u8 0, .int .u8 0, .int .u8 0, .int .u8 0, .int .u8 0, .int .u8 0, .int .u8 0, .int .u8 0, .int .u8 0, .int .u8 0, .int .u8 0, .int .u8 0, .int .u8 0, .int .u8 0, .int .u8 0, .int .u8 0, .int .u8 0, .int .u8 0, .int .u8 0, .int .u8 0, .int .u8 0, .int .u8 0, .int .u8 0, .int .u8 0, .int .u8 0, .int .u8 0, .int .u8 0, .int .u8 0, .int .u8 0, .int .u8 0, .int .u8 0, .int .u8 0, .int .u8 0, .int .u8 0, .int .u8 0, .int .u8 0, .int .u8 0, .int .u8 0, .int .u8 0, .int .u8 0, .int .u8 0, .int .u8 0, .int .u8 0, .int .u8 0, .int .u8 0, .int .u8 0, .int .u8 0, .int .u8 0, .int .u8 0, .int .u8 0, .int .u8 0, .int .u8 0, .int .u8 0, .int .u8 0, .int .u8 0, .int .u8 0, .int .u8 0, .int .u8 0, .int .u8 0, .int .u8 0, .int .u8 0, .int .u8 0, .int .u8 0, .int .u8 0, .int .u8 0, .int .u8 0, .int .u8 0, .int .u8 0, .int .u8 0, .int .u8 0, .int .u8 0, .int .u8 0, .int .u8 0, .int .u8 0, .int .u8 0, .int .u8 0, .int .u8 0, .int .u8 0, .int .u8 0, .int .u8 0, .int .u8 0, .int .u8 0, .int .u8 0, .int .u8 0, .int .u8 0, .int .u8 0, .int .u8 0, .int .u8 0, .int .u8 0, .int .u8 0, .int .u8 0, .int .u8 0, .int .u8 0, .int .u8 0, .int .u8 0, .int .u8 0, .int .u8 0, .int .u8 0]) (by kernel_rfl) (by kernel_rfl)
  · exact ZeroIs.one' (c := .int .i64 0) (by kernel_rfl) rfl
  · exact ZeroIs.one' (c := .pointer none) (by kernel_rfl) rfl
  · exact ZeroIs.one' (c := .slice none 0 0) (by kernel_rfl) rfl
  · exact ZeroIs.one' (c := .slice none 0 0) (by kernel_rfl) rfl
  · exact ZeroIs.agg' (cs := #[.int .u8 0, .int .u8 0, .int .u8 0, .int .u8 0, .int .u8 0, .int .u8 0, .int .u8 0, .int .u8 0, .int .u8 0, .int .u8 0, .int .u8 0, .int .u8 0, .int .u8 0, .int .u8 0, .int .u8 0, .int .u8 0, .int .u8 0, .int .u8 0, .int .u8 0, .int .u8 0, .int .u8 0, .int .u8 0, .int .u8 0, .int .u8 0, .int .u8 0, .int .u8 0, .int .u8 0, .int .u8 0, .int .u8 0, .int .u8 0, .int .u8 0, .int .u8 0, .int .u8 0, .int .u8 0, .int .u8 0, .int .u8 0, .int .u8 0, .int .u8 0, .int .u8 0, .int .u8 0, .int .u8 0, .int .u8 0, .int .u8 0, .int .u8 0, .int .u8 0, .int .u8 0, .int .u8 0, .int .u8 0, .int .u8 0, .int .u8 0, .int .u8 0, .int .u8 0, .int .u8 0, .int .u8 0, .int .u8 0, .int .u8 0, .int .u8 0, .int .u8 0, .int .u8 0, .int .u8 0, .int .u8 0, .int .u8 0, .int .u8 0, .int .u8 0, .int .u8 0, .int .u8 0, .int .u8 0, .int .u8 0, .int .u8 0, .int .u8 0, .int .u8 0, .int .u8 0, .int .u8 0, .int .u8 0, .int .u8 0, .int .u8 0, .int .u8 0, .int .u8 0, .int .u8 0, .int .u8 0, .int .u8 0, .int .u8 0, .int .u8 0, .int .u8 0, .int .u8 0, .int .u8 0, .int .u8 0, .int .u8 0, .int .u8 0, .int .u8 0, .int .u8 0, .int .u8 0, .int .u8 0, .int .u8 0, .int .u8 0, .int .u8 0, .int .u8 0, .int .u8 0, .int .u8 0, .int .u8 0, .int .u8 0, .int .u8 0, .int .u8 0, .int .u8 0, .int .u8 0, .int .u8 0, .int .u8 0, .int .u8 0, .int .u8 0, .int .u8 0, .int .u8 0, .int .u8 0, .int .u8 0, .int .u8 0, .int .u8 0, .int .u8 0, .int .u8 0, .int .u8 0, .int .u8 0, .int .u8 0, .int .u8 0, .int .u8 0, .int .u8 0, .int .u8 0, .int .u8 0, .int .u8 0, .int .u8 0, .int .u8 0, .int .u8 0, .int .u8 0, .int .u8 0, .int .u8 0, .int .u8 0, .int .u8 0, .int .u8 0, .int .u8 0, .int .u8 0, .int .u8 0, .int .u8 0, .int .u8 0, .int .u8 0, .int .u8 0, .int .u8 0, .int .u8 0, .int .u8 0, .int .u8 0, .int .u8 0, .int .u8 0, .int .u8 0, .int .u8 0, .int .u8 0, .int .u8 0, .int .u8 0, .int .u8 0, .int .u8 0, .int .u8 0, .int .u8 0, .int .u8 0, .int .u8 0, .int .u8 0, .int .u8 0, .int .u8 0, .int .u8 0, .int .u8 0, .int .u8 0, .int .u8 0, .int .u8 0, .int .u8 0, .int .u8 0, .int .u8 0, .int .u8 0, .int .u8 0, .int .u8 0, .int .u8 0, .int .u8 0, .int .u8 0, .int .u8 0, .int .u8 0, .int .u8 0, .int .u8 0, .int .u8 0, .int .u8 0, .int .u8 0, .int .u8 0, .int .u8 0, .int .u8 0, .int .u8 0, .int .u8 0, .int .u8 0, .int .u8 0, .int .u8 0, .int .u8 0, .int .u8 0, .int .u8 0, .int .u8 0, .int .u8 0, .int .u8 0, .int .u8 0, .int .u8 0, .int .u8 0, .int .u8 0, .int .u8 0, .int .u8 0, .int .u8 0, .int .u8 0, .int .u8 0, .int .u8 0, .int .u8 0, .int .u8 0, .int .u8 0, .int .u8 0, .int .u8 0, .int .u8 0, .int .u8 0, .int .u8 0, .int .u8 0, .int .u8 0, .int .u8 0, .int .u8 0, .int .u8 0, .int .u8 0, .int .u8 0, .int .u8 0, .int .u8 0]) (by kernel_rfl) (by kernel_rfl)
  · exact ZeroIs.agg' (cs := #[.int .u8 0, .int .u8 0, .int .u8 0, .int .u8 0, .int .u8 0, .int .u8 0, .int .u8 0, .int .u8 0, .int .u8 0, .int .u8 0, .int .u8 0, .int .u8 0, .int .u8 0, .int .u8 0, .int .u8 0, .int .u8 0, .int .u8 0, .int .u8 0, .int .u8 0, .int .u8 0, .int .u8 0, .int .u8 0, .int .u8 0, .int .u8 0, .int .u8 0, .int .u8 0, .int .u8 0, .int .u8 0, .int .u8 0, .int .u8 0, .int .u8 0, .int .u8 0, .int .u8 0, .int .u8 0, .int .u8 0, .int .u8 0, .int .u8 0, .int .u8 0, .int .u8 0, .int .u8 0, .int .u8 0, .int .u8 0, .int .u8 0, .int .u8 0, .int .u8 0, .int .u8 0, .int .u8 0, .int .u8 0, .int .u8 0, .int .u8 0, .int .u8 0, .int .u8 0, .int .u8 0, .int .u8 0, .int .u8 0, .int .u8 0, .int .u8 0, .int .u8 0, .int .u8 0, .int .u8 0, .int .u8 0, .int .u8 0, .int .u8 0, .int .u8 0, .int .u8 0, .int .u8 0, .int .u8 0, .int .u8 0, .int .u8 0, .int .u8 0, .int .u8 0, .int .u8 0, .int .u8 0, .int .u8 0, .int .u8 0, .int .u8 0, .int .u8 0, .int .u8 0, .int .u8 0, .int .u8 0, .int .u8 0, .int .u8 0, .int .u8 0, .int .u8 0, .int .u8 0, .int .u8 0, .int .u8 0, .int .u8 0, .int .u8 0, .int .u8 0, .int .u8 0, .int .u8 0, .int .u8 0, .int .u8 0, .int .u8 0, .int .u8 0, .int .u8 0, .int .u8 0, .int .u8 0, .int .u8 0, .int .u8 0, .int .u8 0, .int .u8 0, .int .u8 0, .int .u8 0, .int .u8 0, .int .u8 0, .int .u8 0, .int .u8 0, .int .u8 0, .int .u8 0, .int .u8 0, .int .u8 0, .int .u8 0, .int .u8 0, .int .u8 0, .int .u8 0, .int .u8 0, .int .u8 0, .int .u8 0, .int .u8 0, .int .u8 0, .int .u8 0, .int .u8 0, .int .u8 0, .int .u8 0, .int .u8 0, .int .u8 0, .int .u8 0, .int .u8 0, .int .u8 0, .int .u8 0, .int .u8 0, .int .u8 0, .int .u8 0, .int .u8 0, .int .u8 0, .int .u8 0, .int .u8 0, .int .u8 0, .int .u8 0, .int .u8 0, .int .u8 0, .int .u8 0, .int .u8 0, .int .u8 0, .int .u8 0, .int .u8 0, .int .u8 0, .int .u8 0, .int .u8 0, .int .u8 0, .int .u8 0, .int .u8 0, .int .u8 0, .int .u8 0, .int .u8 0, .int .u8 0, .int .u8 0, .int .u8 0, .int .u8 0, .int .u8 0, .int .u8 0, .int .u8 0, .int .u8 0, .int .u8 0, .int .u8 0, .int .u8 0, .int .u8 0, .int .u8 0, .int .u8 0, .int .u8 0, .int .u8 0, .int .u8 0, .int .u8 0, .int .u8 0, .int .u8 0, .int .u8 0, .int .u8 0, .int .u8 0, .int .u8 0, .int .u8 0, .int .u8 0, .int .u8 0, .int .u8 0, .int .u8 0, .int .u8 0, .int .u8 0, .int .u8 0, .int .u8 0, .int .u8 0, .int .u8 0, .int .u8 0, .int .u8 0, .int .u8 0, .int .u8 0, .int .u8 0, .int .u8 0, .int .u8 0, .int .u8 0, .int .u8 0, .int .u8 0, .int .u8 0, .int .u8 0, .int .u8 0, .int .u8 0, .int .u8 0, .int .u8 0, .int .u8 0, .int .u8 0, .int .u8 0, .int .u8 0, .int .u8 0, .int .u8 0, .int .u8 0, .int .u8 0, .int .u8 0, .int .u8 0, .int .u8 0, .int .u8 0, .int .u8 0, .int .u8 0, .int .u8 0, .int .u8 0]) (by kernel_rfl) (by kernel_rfl)
  · exact ZeroIs.one' (c := .slice none 0 0) (by kernel_rfl) rfl
  · exact ZeroIs.one' (c := .slice none 0 0) (by kernel_rfl) rfl
  · exact ZeroIs.one' (c := .nilFunc) (by kernel_rfl) rfl
  · exact ZeroIs.one' (c := .map none) (by kernel_rfl) rfl
  · exact ZeroIs.one' (c := .slice none 0 0) (by kernel_rfl) rfl
  · exact ZeroIs.one' (c := .map none) (by kernel_rfl) rfl
  · exact ZeroIs.mk_agg (cs := #[.int .i64 0, .map none, .map none, .slice none 0 0, .map none, .int .i64 0, .int .i64 0, .bool false]) (by kernel_rfl) rfl
  · exact ZeroIs.agg' (cs := #[.int .i64 0, .int .i64 0]) (by kernel_rfl) rfl
  · exact ZeroIs.agg' (cs := #[.int .u8 0, .int .u8 0, .int .u8 0, .int .u8 0, .int .u8 0, .int .u8 0, .int .u8 0, .int .u8 0, .int .u8 0, .int .u8 0, .int .u8 0, .int .u8 0, .int .u8 0, .int .u8 0, .int .u8 0, .int .u8 0, .int .u8 0, .int .u8 0, .int .u8 0, .int .u8 0, .int .u8 0, .int .u8 0, .int .u8 0, .int .u8 0, .int .u8 0, .int .u8 0, .int .u8 0, .int .u8 0, .int .u8 0, .int .u8 0, .int .u8 0, .int .u8 0, .int .u8 0, .int .u8 0, .int .u8 0, .int .u8 0, .int .u8 0, .int .u8 0, .int .u8 0, .int .u8 0, .int .u8 0, .int .u8 0, .int .u8 0, .int .u8 0, .int .u8 0, .int .u8 0, .int .u8 0, .int .u8 0, .int .u8 0, .int .u8 0, .int .u8 0, .int .u8 0, .int .u8 0, .int .u8 0, .int .u8 0, .int .u8 0, .int .u8 0, .int .u8 0, .int .u8 0, .int .u8 0, .int .u8 0, .int .u8 0, .int .u8 0, .int .u8 0]) (by kernel_rfl) (by kernel_rfl)
  · exact ZeroIs.agg' (cs := #[.int .i64 0, .int .i64 0, .int .u8 0, .int .u8 0, .int .u8 0, .int .u8 0, .int .u8 0, .int .u8 0, .int .u8 0, .int .u8 0, .int .u8 0, .int .u8 0, .int .u8 0, .int .u8 0, .int .u8 0, .int .u8 0, .int .u8 0, .int .u8 0, .int .u8 0, .int .u8 0, .int .u8 0, .int .u8 0, .int .u8 0, .int .u8 0, .int .u8 0, .int .u8 0, .int .u8 0, .int .u8 0, .int .u8 0, .int .u8 0, .int .u8 0, .int .u8 0, .int .u8 0, .int .u8 0, .int .u8 0, .int .u8 0, .int .u8 0, .int .u8 0, .int .u8 0, .int .u8 0, .int .u8 0, .int .u8 0, .int .u8 0, .int .u8 0, .int .u8 0, .int .u8 0, .int .u8 0, .int .u8 0, .int .u8 0, .int .u8 0, .int .u8 0, .int .u8 0, .int .u8 0, .int .u8 0, .int .u8 0, .int .u8 0, .int .u8 0, .int .u8 0, .int .u8 0, .int .u8 0, .int .u8 0, .int .u8 0, .int .u8 0, .int .u8 0, .int .u8 0, .int .u8 0]) (by kernel_rfl) (by kernel_rfl)
theorem Z3 : Z 3 = some (.int .i64 0) := rfl
theorem Z4 : Z 4 = some (.bool false) := rfl
theorem Z5 : Z 5 = some (.int .u8 0) := rfl
theorem Z9 : Z 9 = some (.str ⟨#[]⟩) := rfl
theorem Z22 : Z 22 = some (.int .u64 0) := rfl
theorem Z23 : Z 23 = some (.int .u32 0) := rfl
theorem Z25 : Z 25 = some (.agg [.int .i64 0, .int .i64 0, .int .i64 0, .int .u32 0]) := rfl
theorem Z27 : Z 27 = some (.agg [.int .u64 0, .int .u32 0, .int .u32 0, .int .u64 0, .int .u32 0, .agg [.int .i64 0, .int .i64 0, .int .i64 0, .int .u32 0]]) := rfl
theorem Z28 : Z 28 = some (.agg (bytesAV (zb 256))) := rfl
theorem Z29 : Z 29 = some (.agg (bytesAV (zb 256))) := rfl
theorem Z30 : Z 30 = some (.int .i64 0) := rfl
theorem Z42 : Z 42 = some (.nilptr) := rfl
theorem Z51 : Z 51 = some (.vsl [] 0) := rfl
theorem Z53 : Z 53 = some (.vsl [] 0) := rfl
theorem Z57 : Z 57 = some (.agg (bytesAV (zb 224))) := rfl
theorem Z58 : Z 58 = some (.agg (bytesAV (zb 224))) := rfl
theorem Z59 : Z 59 = some (.vsl [] 0) := rfl
theorem Z63 : Z 63 = some (.vsl [] 0) := rfl
theorem Z69 : Z 69 = some (.nilfunc) := rfl
theorem Z74 : Z 74 = some (.nilmap) := rfl
theorem Z75 : Z 75 = some (.vsl [] 0) := rfl
theorem Z76 : Z 76 = some (.nilmap) := rfl
theorem Z78 : Z 78 = some (.agg [.int .i64 0, .nilmap, .nilmap, .nilsl, .nilmap, .int .i64 0, .int .i64 0, .bool false]) := rfl
theorem Z81 : Z 81 = some (.agg [.int .i64 0, .int .i64 0]) := rfl
theorem Z83 : Z 83 = some (.agg (bytesAV (zb 64))) := rfl
theorem Z86 : Z 86 = some (.agg [.agg [.int .i64 0, .int .i64 0], .agg (bytesAV (zb 64))]) := rfl
theorem bz25 : bldZ Try.prog Z 25 = some [.int .i64 0, .int .i64 0, .int .i64 0, .int .u32 0] := by kernel_rfl
theorem bz27 : bldZ Try.prog Z 27 = some [.int .u64 0, .int .u32 0, .int .u32 0, .int .u64 0, .int .u32 0, .agg [.int .i64 0, .int .i64 0, .int .i64 0, .int .u32 0]] := by kernel_rfl
theorem bz28 : bldZ Try.prog Z 28 = some (bytesAV (zb 256)) := by kernel_rfl
theorem bz29 : bldZ Try.prog Z 29 = some (bytesAV (zb 256)) := by kernel_rfl
theorem el51 : elemS Try.prog Z 51 = some (.int .i64 0, 1) := by kernel_rfl
theorem em51 : elemM Try.prog Z 51 = some (.int .i64 0, 1, 8) := by kernel_rfl
theorem at51 : apT Try.prog Z 51 51 = some (1, 8) := by kernel_rfl
theorem el53 : elemS Try.prog Z 53 = some (.bool false, 1) := by kernel_rfl
theorem em53 : elemM Try.prog Z 53 = some (.bool false, 1, 1) := by kernel_rfl
theorem at53 : apT Try.prog Z 53 53 = some (1, 1) := by kernel_rfl
theorem bz57 : bldZ Try.prog Z 57 = some (bytesAV (zb 224)) := by kernel_rfl
theorem bz58 : bldZ Try.prog Z 58 = some (bytesAV (zb 224)) := by kernel_rfl
theorem el59 : elemS Try.prog Z 59 = some (.int .u8 0, 1) := by kernel_rfl
theorem em59 : elemM Try.prog Z 59 = some (.int .u8 0, 1, 1) := by kernel_rfl
theorem at59 : apT Try.prog Z 59 59 = some (1, 1) := by kernel_rfl
theorem el63 : elemS Try.prog Z 63 = some (.int .u64 0, 1) := by kernel_rfl
theorem em63 : elemM Try.prog Z 63 = some (.int .u64 0, 1, 8) := by kernel_rfl
theorem at63 : apT Try.prog Z 63 63 = some (1, 8) := by kernel_rfl
theorem el75 : elemS Try.prog Z 75 = some (.agg [.agg [.int .i64 0, .int .i64 0], .agg (bytesAV (zb 64))], 66) := by kernel_rfl
theorem em75 : elemM Try.prog Z 75 = some (.agg [.agg [.int .i64 0, .int .i64 0], .agg (bytesAV (zb 64))], 66, 80) := by kernel_rfl
theorem at75 : apT Try.prog Z 75 75 = some (66, 80) := by kernel_rfl
theorem bz78 : bldZ Try.prog Z 78 = some [.int .i64 0, .nilmap, .nilmap, .nilsl, .nilmap, .int .i64 0, .int .i64 0, .bool false] := by kernel_rfl
theorem bz81 : bldZ Try.prog Z 81 = some [.int .i64 0, .int .i64 0] := by kernel_rfl
theorem bz83 : bldZ Try.prog Z 83 = some (bytesAV (zb 64)) := by kernel_rfl
theorem bz86 : bldZ Try.prog Z 86 = some [.agg [.int .i64 0, .int .i64 0], .agg (bytesAV (zb 64))] := by kernel_rfl
theorem at59_9 : apT Try.prog Z 59 9 = some (1, 1) := by kernel_rfl
end Go.Proofs.Ythfaldoagmkllaa
