/- Facts of this seat's types, by the kernel's own reckoning. -/
import Derived.Test.YtiolhncfnoafeaaM4
import Derived.Test.YtiolhncfnoafeaaProg
set_option linter.unusedVariables false
set_option linter.unusedSimpArgs false
namespace Go.Proofs.Ytiolhncfnoafeaa
open Go Go.RowKit

theorem mixed : Try.prog.follows .mixedOrders = true := by kernel_rfl
theorem sz3 : szOf Try.prog 3 = some 1 := by kernel_rfl
theorem ag3 : isAggT Try.prog 3 = some false := by kernel_rfl
theorem it3 : intT Try.prog 3 = some .i64 := by kernel_rfl
theorem sz4 : szOf Try.prog 4 = some 1 := by kernel_rfl
theorem ag4 : isAggT Try.prog 4 = some false := by kernel_rfl
theorem sz5 : szOf Try.prog 5 = some 1 := by kernel_rfl
theorem ag5 : isAggT Try.prog 5 = some false := by kernel_rfl
theorem it5 : intT Try.prog 5 = some .u8 := by kernel_rfl
theorem sz20 : szOf Try.prog 20 = some 1 := by kernel_rfl
theorem ag20 : isAggT Try.prog 20 = some false := by kernel_rfl
theorem sz22 : szOf Try.prog 22 = some 1 := by kernel_rfl
theorem ag22 : isAggT Try.prog 22 = some false := by kernel_rfl
theorem it22 : intT Try.prog 22 = some .u32 := by kernel_rfl
theorem sz24 : szOf Try.prog 24 = some 1 := by kernel_rfl
theorem ag24 : isAggT Try.prog 24 = some false := by kernel_rfl
theorem pt24 : isPtrT Try.prog 24 = true := by kernel_rfl
theorem sz26 : szOf Try.prog 26 = some 1 := by kernel_rfl
theorem ag26 : isAggT Try.prog 26 = some false := by kernel_rfl
theorem it26 : intT Try.prog 26 = some .i64 := by kernel_rfl
theorem sz32 : szOf Try.prog 32 = some 1 := by kernel_rfl
theorem ag32 : isAggT Try.prog 32 = some false := by kernel_rfl
theorem es32 : elS Try.prog 32 = some 2 := by kernel_rfl
theorem ap32 : isStrT Try.prog 32 = false := by kernel_rfl
theorem sz33 : szOf Try.prog 33 = some 1 := by kernel_rfl
theorem ag33 : isAggT Try.prog 33 = some false := by kernel_rfl
theorem pt33 : isPtrT Try.prog 33 = true := by kernel_rfl
theorem sz34 : szOf Try.prog 34 = some 1 := by kernel_rfl
theorem ag34 : isAggT Try.prog 34 = some false := by kernel_rfl
theorem es34 : elS Try.prog 34 = some 3 := by kernel_rfl
theorem ap34 : isStrT Try.prog 34 = false := by kernel_rfl
theorem sz36 : szOf Try.prog 36 = some 3 := by kernel_rfl
theorem ag36 : isAggT Try.prog 36 = some true := by kernel_rfl
theorem ft36_0 : fldT Try.prog 36 0 = some (0, 22) := by kernel_rfl
theorem fa36_0 : fAt Try.prog 36 0 = some 0 := by kernel_rfl
theorem pl36_0 : placeAt Try.prog 36 0 = some (0, 1) := by kernel_rfl
theorem ft36_1 : fldT Try.prog 36 1 = some (1, 22) := by kernel_rfl
theorem fa36_1 : fAt Try.prog 36 1 = some 1 := by kernel_rfl
theorem pl36_1 : placeAt Try.prog 36 1 = some (1, 1) := by kernel_rfl
theorem ft36_2 : fldT Try.prog 36 2 = some (2, 34) := by kernel_rfl
theorem fa36_2 : fAt Try.prog 36 2 = some 2 := by kernel_rfl
theorem pl36_2 : placeAt Try.prog 36 2 = some (2, 1) := by kernel_rfl
theorem sz37 : szOf Try.prog 37 = some 1 := by kernel_rfl
theorem ag37 : isAggT Try.prog 37 = some false := by kernel_rfl
theorem it37 : intT Try.prog 37 = some .u64 := by kernel_rfl
theorem sz39 : szOf Try.prog 39 = some 2 := by kernel_rfl
theorem ag39 : isAggT Try.prog 39 = some true := by kernel_rfl
theorem ft39_0 : fldT Try.prog 39 0 = some (0, 3) := by kernel_rfl
theorem fa39_0 : fAt Try.prog 39 0 = some 0 := by kernel_rfl
theorem pl39_0 : placeAt Try.prog 39 0 = some (0, 1) := by kernel_rfl
theorem ft39_1 : fldT Try.prog 39 1 = some (1, 37) := by kernel_rfl
theorem fa39_1 : fAt Try.prog 39 1 = some 1 := by kernel_rfl
theorem pl39_1 : placeAt Try.prog 39 1 = some (1, 1) := by kernel_rfl
theorem fk39 : flatKinds Try.prog 40 39 = some [.i, .i] := by kernel_rfl
theorem eg39 : Try.prog.eqGuardType Try.prog.depth 39 = false := by kernel_rfl
theorem sz44 : szOf Try.prog 44 = some 3 := by kernel_rfl
theorem ag44 : isAggT Try.prog 44 = some true := by kernel_rfl
theorem ft44_0 : fldT Try.prog 44 0 = some (0, 37) := by kernel_rfl
theorem fa44_0 : fAt Try.prog 44 0 = some 0 := by kernel_rfl
theorem pl44_0 : placeAt Try.prog 44 0 = some (0, 1) := by kernel_rfl
theorem ft44_1 : fldT Try.prog 44 1 = some (1, 22) := by kernel_rfl
theorem fa44_1 : fAt Try.prog 44 1 = some 1 := by kernel_rfl
theorem pl44_1 : placeAt Try.prog 44 1 = some (1, 1) := by kernel_rfl
theorem ft44_2 : fldT Try.prog 44 2 = some (2, 4) := by kernel_rfl
theorem fa44_2 : fAt Try.prog 44 2 = some 2 := by kernel_rfl
theorem pl44_2 : placeAt Try.prog 44 2 = some (2, 1) := by kernel_rfl
theorem fk44 : flatKinds Try.prog 40 44 = some [.i, .i, .b] := by kernel_rfl
theorem eg44 : Try.prog.eqGuardType Try.prog.depth 44 = false := by kernel_rfl
theorem sz51 : szOf Try.prog 51 = some 1 := by kernel_rfl
theorem ag51 : isAggT Try.prog 51 = some false := by kernel_rfl
theorem es51 : elS Try.prog 51 = some 1 := by kernel_rfl
theorem ap51 : isStrT Try.prog 51 = false := by kernel_rfl
theorem sz57 : szOf Try.prog 57 = some 1 := by kernel_rfl
theorem ag57 : isAggT Try.prog 57 = some false := by kernel_rfl
theorem sz59 : szOf Try.prog 59 = some 4 := by kernel_rfl
theorem ag59 : isAggT Try.prog 59 = some true := by kernel_rfl
theorem ft59_0 : fldT Try.prog 59 0 = some (0, 22) := by kernel_rfl
theorem fa59_0 : fAt Try.prog 59 0 = some 0 := by kernel_rfl
theorem pl59_0 : placeAt Try.prog 59 0 = some (0, 1) := by kernel_rfl
theorem ft59_1 : fldT Try.prog 59 1 = some (1, 22) := by kernel_rfl
theorem fa59_1 : fAt Try.prog 59 1 = some 1 := by kernel_rfl
theorem pl59_1 : placeAt Try.prog 59 1 = some (1, 1) := by kernel_rfl
theorem ft59_2 : fldT Try.prog 59 2 = some (2, 37) := by kernel_rfl
theorem fa59_2 : fAt Try.prog 59 2 = some 2 := by kernel_rfl
theorem pl59_2 : placeAt Try.prog 59 2 = some (2, 1) := by kernel_rfl
theorem ft59_3 : fldT Try.prog 59 3 = some (3, 57) := by kernel_rfl
theorem fa59_3 : fAt Try.prog 59 3 = some 3 := by kernel_rfl
theorem pl59_3 : placeAt Try.prog 59 3 = some (3, 1) := by kernel_rfl
theorem sz63 : szOf Try.prog 63 = some 1 := by kernel_rfl
theorem ag63 : isAggT Try.prog 63 = some false := by kernel_rfl
def Z : TypeId → Option AV
  | 3 => some (.int .i64 0)
  | 4 => some (.bool false)
  | 5 => some (.int .u8 0)
  | 20 => some (.niliface)
  | 22 => some (.int .u32 0)
  | 24 => some (.nilptr)
  | 26 => some (.int .i64 0)
  | 32 => some (.vsl [] 0)
  | 33 => some (.nilptr)
  | 34 => some (.nilsl)
  | 36 => some (.agg [.int .u32 0, .int .u32 0, .nilsl])
  | 37 => some (.int .u64 0)
  | 39 => some (.agg [.int .i64 0, .int .u64 0])
  | 44 => some (.agg [.int .u64 0, .int .u32 0, .bool false])
  | 51 => some (.nilsl)
  | 57 => some (.nilmap)
  | 59 => some (.agg [.int .u32 0, .int .u32 0, .int .u64 0, .nilmap])
  | 63 => some (.nilfunc)
  | _ => none
theorem hZ : ∀ T z, Z T = some z → ZeroIs Try.prog T z := by
  intro T z h
  unfold Z at h
  split at h <;> simp only [Option.some.injEq, reduceCtorEq] at h <;> subst h
  · exact ZeroIs.one' (c := .int .i64 0) (by kernel_rfl) rfl
  · exact ZeroIs.one' (c := .bool false) (by kernel_rfl) rfl
  · exact ZeroIs.one' (c := .int .u8 0) (by kernel_rfl) rfl
  · exact ZeroIs.one' (c := .nilIface) (by kernel_rfl) rfl
  · exact ZeroIs.one' (c := .int .u32 0) (by kernel_rfl) rfl
  · exact ZeroIs.one' (c := .pointer none) (by kernel_rfl) rfl
  · exact ZeroIs.one' (c := .int .i64 0) (by kernel_rfl) rfl
  · exact ZeroIs.one' (c := .slice none 0 0) (by kernel_rfl) rfl
  · exact ZeroIs.one' (c := .pointer none) (by kernel_rfl) rfl
  · exact ZeroIs.mk_one (c := .slice none 0 0) (by kernel_rfl) rfl
  · exact ZeroIs.mk_agg (cs := #[.int .u32 0, .int .u32 0, .slice none 0 0]) (by kernel_rfl) rfl
  · exact ZeroIs.one' (c := .int .u64 0) (by kernel_rfl) rfl
  · exact ZeroIs.agg' (cs := #[.int .i64 0, .int .u64 0]) (by kernel_rfl) rfl
  · exact ZeroIs.agg' (cs := #[.int .u64 0, .int .u32 0, .bool false]) (by kernel_rfl) rfl
  · exact ZeroIs.mk_one (c := .slice none 0 0) (by kernel_rfl) rfl
  · exact ZeroIs.one' (c := .map none) (by kernel_rfl) rfl
  · exact ZeroIs.agg' (cs := #[.int .u32 0, .int .u32 0, .int .u64 0, .map none]) (by kernel_rfl) rfl
  · exact ZeroIs.one' (c := .nilFunc) (by kernel_rfl) rfl
theorem Z3 : Z 3 = some (.int .i64 0) := rfl
theorem Z4 : Z 4 = some (.bool false) := rfl
theorem Z5 : Z 5 = some (.int .u8 0) := rfl
theorem Z20 : Z 20 = some (.niliface) := rfl
theorem Z22 : Z 22 = some (.int .u32 0) := rfl
theorem Z24 : Z 24 = some (.nilptr) := rfl
theorem Z26 : Z 26 = some (.int .i64 0) := rfl
theorem Z32 : Z 32 = some (.vsl [] 0) := rfl
theorem Z33 : Z 33 = some (.nilptr) := rfl
theorem Z34 : Z 34 = some (.nilsl) := rfl
theorem Z36 : Z 36 = some (.agg [.int .u32 0, .int .u32 0, .nilsl]) := rfl
theorem Z37 : Z 37 = some (.int .u64 0) := rfl
theorem Z39 : Z 39 = some (.agg [.int .i64 0, .int .u64 0]) := rfl
theorem Z44 : Z 44 = some (.agg [.int .u64 0, .int .u32 0, .bool false]) := rfl
theorem Z51 : Z 51 = some (.nilsl) := rfl
theorem Z57 : Z 57 = some (.nilmap) := rfl
theorem Z59 : Z 59 = some (.agg [.int .u32 0, .int .u32 0, .int .u64 0, .nilmap]) := rfl
theorem Z63 : Z 63 = some (.nilfunc) := rfl
theorem el32 : elemS Try.prog Z 32 = some (.agg [.int .i64 0, .int .u64 0], 2) := by kernel_rfl
theorem em32 : elemM Try.prog Z 32 = some (.agg [.int .i64 0, .int .u64 0], 2, 16) := by kernel_rfl
theorem at32 : apT Try.prog Z 32 32 = some (2, 16) := by kernel_rfl
theorem el34 : elemS Try.prog Z 34 = some (.agg [.int .u64 0, .int .u32 0, .bool false], 3) := by kernel_rfl
theorem em34 : elemM Try.prog Z 34 = some (.agg [.int .u64 0, .int .u32 0, .bool false], 3, 16) := by kernel_rfl
theorem at34 : apT Try.prog Z 34 34 = some (3, 16) := by kernel_rfl
theorem bz36 : bldZ Try.prog Z 36 = some [.int .u32 0, .int .u32 0, .nilsl] := by kernel_rfl
theorem bz39 : bldZ Try.prog Z 39 = some [.int .i64 0, .int .u64 0] := by kernel_rfl
theorem bz44 : bldZ Try.prog Z 44 = some [.int .u64 0, .int .u32 0, .bool false] := by kernel_rfl
theorem el51 : elemS Try.prog Z 51 = some (.int .u64 0, 1) := by kernel_rfl
theorem em51 : elemM Try.prog Z 51 = some (.int .u64 0, 1, 8) := by kernel_rfl
theorem at51 : apT Try.prog Z 51 51 = some (1, 8) := by kernel_rfl
theorem bz59 : bldZ Try.prog Z 59 = some [.int .u32 0, .int .u32 0, .int .u64 0, .nilmap] := by kernel_rfl
end Go.Proofs.Ytiolhncfnoafeaa
