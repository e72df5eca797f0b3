/- Facts of this seat's types, by the kernel's own reckoning. -/
import Derived.Test.YtbellkdglifahaaM4
import Derived.Test.YtbellkdglifahaaProg
set_option linter.unusedVariables false
set_option linter.unusedSimpArgs false
namespace Go.Proofs.Ytbellkdglifahaa
open Go Go.RowKit

theorem mixed : Try.prog.follows .mixedOrders = true := by kernel_rfl
theorem sz3 : szOf Try.prog 3 = some 1 := by kernel_rfl
theorem ag3 : isAggT Try.prog 3 = some false := by kernel_rfl
theorem it3 : intT Try.prog 3 = some .i64 := by kernel_rfl
theorem sz4 : szOf Try.prog 4 = some 1 := by kernel_rfl
theorem ag4 : isAggT Try.prog 4 = some false := by kernel_rfl
theorem sz5 : szOf Try.prog 5 = some 1 := by kernel_rfl
theorem ag5 : isAggT Try.prog 5 = some false := by kernel_rfl
theorem it5 : intT Try.prog 5 = some .u8 := by kernel_rfl
theorem sz9 : szOf Try.prog 9 = some 1 := by kernel_rfl
theorem ag9 : isAggT Try.prog 9 = some false := by kernel_rfl
theorem ss9 : isStrT Try.prog 9 = true := by kernel_rfl
theorem sz22 : szOf Try.prog 22 = some 1 := by kernel_rfl
theorem ag22 : isAggT Try.prog 22 = some false := by kernel_rfl
theorem it22 : intT Try.prog 22 = some .u16 := by kernel_rfl
theorem sz23 : szOf Try.prog 23 = some 1 := by kernel_rfl
theorem ag23 : isAggT Try.prog 23 = some false := by kernel_rfl
theorem it23 : intT Try.prog 23 = some .u64 := by kernel_rfl
theorem sz24 : szOf Try.prog 24 = some 1 := by kernel_rfl
theorem ag24 : isAggT Try.prog 24 = some false := by kernel_rfl
theorem it24 : intT Try.prog 24 = some .u32 := by kernel_rfl
theorem sz26 : szOf Try.prog 26 = some 2 := by kernel_rfl
theorem ag26 : isAggT Try.prog 26 = some true := by kernel_rfl
theorem ft26_0 : fldT Try.prog 26 0 = some (0, 22) := by kernel_rfl
theorem fa26_0 : fAt Try.prog 26 0 = some 0 := by kernel_rfl
theorem pl26_0 : placeAt Try.prog 26 0 = some (0, 1) := by kernel_rfl
theorem ft26_1 : fldT Try.prog 26 1 = some (1, 5) := by kernel_rfl
theorem fa26_1 : fAt Try.prog 26 1 = some 1 := by kernel_rfl
theorem pl26_1 : placeAt Try.prog 26 1 = some (1, 1) := by kernel_rfl
theorem fk26 : flatKinds Try.prog 40 26 = some [.i, .i] := by kernel_rfl
theorem eg26 : Try.prog.eqGuardType Try.prog.depth 26 = false := by kernel_rfl
theorem sz28 : szOf Try.prog 28 = some 64 := by kernel_rfl
theorem ag28 : isAggT Try.prog 28 = some true := by kernel_rfl
theorem ea28 : elA Try.prog 28 = some (64, 1) := by kernel_rfl
theorem fk28 : flatKinds Try.prog 40 28 = some (kreps 64) := by kernel_rfl
theorem eg28 : Try.prog.eqGuardType Try.prog.depth 28 = false := by kernel_rfl
theorem sz30 : szOf Try.prog 30 = some 68 := by kernel_rfl
theorem ag30 : isAggT Try.prog 30 = some true := by kernel_rfl
theorem ft30_0 : fldT Try.prog 30 0 = some (0, 23) := by kernel_rfl
theorem fa30_0 : fAt Try.prog 30 0 = some 0 := by kernel_rfl
theorem pl30_0 : placeAt Try.prog 30 0 = some (0, 1) := by kernel_rfl
theorem ft30_1 : fldT Try.prog 30 1 = some (1, 24) := by kernel_rfl
theorem fa30_1 : fAt Try.prog 30 1 = some 1 := by kernel_rfl
theorem pl30_1 : placeAt Try.prog 30 1 = some (1, 1) := by kernel_rfl
theorem ft30_2 : fldT Try.prog 30 2 = some (2, 26) := by kernel_rfl
theorem fa30_2 : fAt Try.prog 30 2 = some 2 := by kernel_rfl
theorem pl30_2 : placeAt Try.prog 30 2 = some (2, 2) := by kernel_rfl
theorem ft30_3 : fldT Try.prog 30 3 = some (4, 28) := by kernel_rfl
theorem fa30_3 : fAt Try.prog 30 3 = some 4 := by kernel_rfl
theorem pl30_3 : placeAt Try.prog 30 3 = some (4, 64) := by kernel_rfl
theorem fk30 : flatKinds Try.prog 40 30 = some [.i, .i, .i, .i, .i, .i, .i, .i, .i, .i, .i, .i, .i, .i, .i, .i, .i, .i, .i, .i, .i, .i, .i, .i, .i, .i, .i, .i, .i, .i, .i, .i, .i, .i, .i, .i, .i, .i, .i, .i, .i, .i, .i, .i, .i, .i, .i, .i, .i, .i, .i, .i, .i, .i, .i, .i, .i, .i, .i, .i, .i, .i, .i, .i, .i, .i, .i, .i] := by kernel_rfl
theorem eg30 : Try.prog.eqGuardType Try.prog.depth 30 = false := by kernel_rfl
theorem sz32 : szOf Try.prog 32 = some 224 := by kernel_rfl
theorem ag32 : isAggT Try.prog 32 = some true := by kernel_rfl
theorem ea32 : elA Try.prog 32 = some (224, 1) := by kernel_rfl
theorem fk32 : flatKinds Try.prog 40 32 = some (kreps 224) := by kernel_rfl
theorem eg32 : Try.prog.eqGuardType Try.prog.depth 32 = false := by kernel_rfl
theorem sz33 : szOf Try.prog 33 = some 1 := by kernel_rfl
theorem ag33 : isAggT Try.prog 33 = some false := by kernel_rfl
theorem it33 : intT Try.prog 33 = some .i64 := by kernel_rfl
theorem sz42 : szOf Try.prog 42 = some 1 := by kernel_rfl
theorem ag42 : isAggT Try.prog 42 = some false := by kernel_rfl
theorem es42 : elS Try.prog 42 = some 6 := by kernel_rfl
theorem ap42 : isStrT Try.prog 42 = false := by kernel_rfl
theorem sz44 : szOf Try.prog 44 = some 2 := by kernel_rfl
theorem ag44 : isAggT Try.prog 44 = some true := by kernel_rfl
theorem ft44_0 : fldT Try.prog 44 0 = some (0, 23) := by kernel_rfl
theorem fa44_0 : fAt Try.prog 44 0 = some 0 := by kernel_rfl
theorem pl44_0 : placeAt Try.prog 44 0 = some (0, 1) := by kernel_rfl
theorem ft44_1 : fldT Try.prog 44 1 = some (1, 42) := by kernel_rfl
theorem fa44_1 : fAt Try.prog 44 1 = some 1 := by kernel_rfl
theorem pl44_1 : placeAt Try.prog 44 1 = some (1, 1) := by kernel_rfl
theorem sz59 : szOf Try.prog 59 = some 2 := by kernel_rfl
theorem ag59 : isAggT Try.prog 59 = some true := by kernel_rfl
theorem ft59_0 : fldT Try.prog 59 0 = some (0, 4) := by kernel_rfl
theorem fa59_0 : fAt Try.prog 59 0 = some 0 := by kernel_rfl
theorem pl59_0 : placeAt Try.prog 59 0 = some (0, 1) := by kernel_rfl
theorem ft59_1 : fldT Try.prog 59 1 = some (1, 22) := by kernel_rfl
theorem fa59_1 : fAt Try.prog 59 1 = some 1 := by kernel_rfl
theorem pl59_1 : placeAt Try.prog 59 1 = some (1, 1) := by kernel_rfl
theorem fk59 : flatKinds Try.prog 40 59 = some [.b, .i] := by kernel_rfl
theorem eg59 : Try.prog.eqGuardType Try.prog.depth 59 = false := by kernel_rfl
theorem sz64 : szOf Try.prog 64 = some 1 := by kernel_rfl
theorem ag64 : isAggT Try.prog 64 = some false := by kernel_rfl
theorem it64 : intT Try.prog 64 = some .u64 := by kernel_rfl
theorem sz68 : szOf Try.prog 68 = some 1 := by kernel_rfl
theorem ag68 : isAggT Try.prog 68 = some false := by kernel_rfl
theorem es68 : elS Try.prog 68 = some 1 := by kernel_rfl
theorem ap68 : isStrT Try.prog 68 = false := by kernel_rfl
theorem by68 : isByT Try.prog 68 = true := by kernel_rfl
theorem sz76 : szOf Try.prog 76 = some 6 := by kernel_rfl
theorem ag76 : isAggT Try.prog 76 = some true := by kernel_rfl
theorem ft76_0 : fldT Try.prog 76 0 = some (0, 4) := by kernel_rfl
theorem fa76_0 : fAt Try.prog 76 0 = some 0 := by kernel_rfl
theorem pl76_0 : placeAt Try.prog 76 0 = some (0, 1) := by kernel_rfl
theorem ft76_1 : fldT Try.prog 76 1 = some (1, 22) := by kernel_rfl
theorem fa76_1 : fAt Try.prog 76 1 = some 1 := by kernel_rfl
theorem pl76_1 : placeAt Try.prog 76 1 = some (1, 1) := by kernel_rfl
theorem ft76_2 : fldT Try.prog 76 2 = some (2, 24) := by kernel_rfl
theorem fa76_2 : fAt Try.prog 76 2 = some 2 := by kernel_rfl
theorem pl76_2 : placeAt Try.prog 76 2 = some (2, 1) := by kernel_rfl
theorem ft76_3 : fldT Try.prog 76 3 = some (3, 26) := by kernel_rfl
theorem fa76_3 : fAt Try.prog 76 3 = some 3 := by kernel_rfl
theorem pl76_3 : placeAt Try.prog 76 3 = some (3, 2) := by kernel_rfl
theorem ft76_4 : fldT Try.prog 76 4 = some (5, 9) := by kernel_rfl
theorem fa76_4 : fAt Try.prog 76 4 = some 5 := by kernel_rfl
theorem pl76_4 : placeAt Try.prog 76 4 = some (5, 1) := by kernel_rfl
theorem fk76 : flatKinds Try.prog 40 76 = some [.b, .i, .i, .i, .i, .s] := by kernel_rfl
theorem eg76 : Try.prog.eqGuardType Try.prog.depth 76 = false := by kernel_rfl
def Z : TypeId → Option AV
  | 3 => some (.int .i64 0)
  | 4 => some (.bool false)
  | 5 => some (.int .u8 0)
  | 9 => some (.str ⟨#[]⟩)
  | 22 => some (.int .u16 0)
  | 23 => some (.int .u64 0)
  | 24 => some (.int .u32 0)
  | 26 => some (.agg [.int .u16 0, .int .u8 0])
  | 28 => some (.agg (bytesAV (zb 64)))
  | 30 => some (.agg [.int .u64 0, .int .u32 0, .agg [.int .u16 0, .int .u8 0], .agg (bytesAV (zb 64))])
  | 32 => some (.agg (bytesAV (zb 224)))
  | 33 => some (.int .i64 0)
  | 42 => some (.vsl [] 0)
  | 44 => some (.agg [.int .u64 0, .nilsl])
  | 59 => some (.agg [.bool false, .int .u16 0])
  | 64 => some (.int .u64 0)
  | 68 => some (.vsl [] 0)
  | 76 => some (.agg [.bool false, .int .u16 0, .int .u32 0, .agg [.int .u16 0, .int .u8 0], .str ⟨#[]⟩])
  | _ => none
theorem hZ : ∀ T z, Z T = some z → ZeroIs Try.prog T z := by
  intro T z h
  unfold Z at h
  split at h <;> simp only [Option.some.injEq, reduceCtorEq] at h <;> subst h
  · exact ZeroIs.one' (c := .int .i64 0) (by kernel_rfl) rfl
  · exact ZeroIs.one' (c := .bool false) (by kernel_rfl) rfl
  · exact ZeroIs.one' (c := .int .u8 0) (by kernel_rfl) rfl
  · exact ZeroIs.one' (c := .string ⟨#[]⟩) (by kernel_rfl) rfl
  · exact ZeroIs.one' (c := .int .u16 0) (by kernel_rfl) rfl
  · exact ZeroIs.one' (c := .int .u64 0) (by kernel_rfl) rfl
  · exact ZeroIs.one' (c := .int .u32 0) (by kernel_rfl) rfl
  · exact ZeroIs.agg' (cs := #[.int .u16 0, .int .u8 0]) (by kernel_rfl) rfl
  · exact ZeroIs.agg' (cs := #[.int .u8 0, .int .u8 0, .int .u8 0, .int .u8 0, .int .u8 0, .int .u8 0, .int .u8 0, .int .u8 0, .int .u8 0, .int .u8 0, .int .u8 0, .int .u8 0, .int .u8 0, .int .u8 0, .int .u8 0, .int .u8 0, .int .u8 0, .int .u8 0, .int .u8 0, .int .u8 0, .int .u8 0, .int .u8 0, .int .u8 0, .int .u8 0, .int .u8 0, .int .u8 0, .int .u8 0, .int .u8 0, .int .u8 0, .int .u8 0, .int .u8 0, .int .u8 0, .int .u8 0, .int .u8 0, .int .u8 0, .int .u8 0, .int .u8 0, .int .u8 0, .int .u8 0, .int .u8 0, .int .u8 0, .int .u8 0, .int .u8 0, .int .u8 0, .int .u8 0, .int .u8 0, .int .u8 0, .int .u8 0, .int .u8 0, .int .u8 0, .int .u8 0, .int .u8 0, .int .u8 0, .int .u8 0, .int .u8 0, .int .u8 0, .int .u8 0, .int .u8 0, .int .u8 0, .int .u8 0, .int .u8 0, .int .u8 0, .int .u8 0, .int .u8 0]) (by kernel_rfl) (by kernel_rfl)
  · exact ZeroIs.agg' (cs := #[.int .u64 0, .int .u32 0, .int .u16 0, .int .u8 0, .int .u8 0, .int .u8 0, .int .u8 0, .int .u8 0, .int .u8 0, .int .u8 0, .int .u8 0, .int .u8 0, .int .u8 0, .int .u8 0, .int .u8 0, .int .u8 0, .int .u8 0, .int .u8 0, .int .u8 0, .int .u8 0, .int .u8 0, .int .u8 0, .int .u8 0, .int .u8 0, .int .u8 0, .int .u8 0, .int .u8 0, .int .u8 0, .int .u8 0, .int .u8 0, .int .u8 0, .int .u8 0, .int .u8 0, .int .u8 0, .int .u8 0, .int .u8 0, .int .u8 0, .int .u8 0, .int .u8 0, .int .u8 0, .int .u8 0, .int .u8 0, .int .u8 0, .int .u8 0, .int .u8 0, .int .u8 0, .int .u8 0, .int .u8 0, .int .u8 0, .int .u8 0, .int .u8 0, .int .u8 0, .int .u8 0, .int .u8 0, .int .u8 0, .int .u8 0, .int .u8 0, .int .u8 0, .int .u8 0, .int .u8 0, .int .u8 0, .int .u8 0, .int .u8 0, .int .u8 0, .int .u8 0, .int .u8 0, .int .u8 0, .int .u8 0]) (by kernel_rfl) (by kernel_rfl)
  · exact ZeroIs.agg' (cs := #[.int .u8 0, .int .u8 0, .int .u8 0, .int .u8 0, .int .u8 0, .int .u8 0, .int .u8 0, .int .u8 0, .int .u8 0, .int .u8 0, .int .u8 0, .int .u8 0, .int .u8 0, .int .u8 0, .int .u8 0, .int .u8 0, .int .u8 0, .int .u8 0, .int .u8 0, .int .u8 0, .int .u8 0, .int .u8 0, .int .u8 0, .int .u8 0, .int .u8 0, .int .u8 0, .int .u8 0, .int .u8 0, .int .u8 0, .int .u8 0, .int .u8 0, .int .u8 0, .int .u8 0, .int .u8 0, .int .u8 0, .int .u8 0, .int .u8 0, .int .u8 0, .int .u8 0, .int .u8 0, .int .u8 0, .int .u8 0, .int .u8 0, .int .u8 0, .int .u8 0, .int .u8 0, .int .u8 0, .int .u8 0, .int .u8 0, .int .u8 0, .int .u8 0, .int .u8 0, .int .u8 0, .int .u8 0, .int .u8 0, .int .u8 0, .int .u8 0, .int .u8 0, .int .u8 0, .int .u8 0, .int .u8 0, .int .u8 0, .int .u8 0, .int .u8 0, .int .u8 0, .int .u8 0, .int .u8 0, .int .u8 0, .int .u8 0, .int .u8 0, .int .u8 0, .int .u8 0, .int .u8 0, .int .u8 0, .int .u8 0, .int .u8 0, .int .u8 0, .int .u8 0, .int .u8 0, .int .u8 0, .int .u8 0, .int .u8 0, .int .u8 0, .int .u8 0, .int .u8 0, .int .u8 0, .int .u8 0, .int .u8 0, .int .u8 0, .int .u8 0, .int .u8 0, .int .u8 0, .int .u8 0, .int .u8 0, .int .u8 0, .int .u8 0, .int .u8 0, .int .u8 0, .int .u8 0, .int .u8 0, .int .u8 0, .int .u8 0, .int .u8 0, .int .u8 0, .int .u8 0, .int .u8 0, .int .u8 0, .int .u8 0, .int .u8 0, .int .u8 0, .int .u8 0, .int .u8 0, .int .u8 0, .int .u8 0, .int .u8 0, .int .u8 0, .int .u8 0, .int .u8 0, .int .u8 0, .int .u8 0, .int .u8 0, .int .u8 0, .int .u8 0, .int .u8 0, .int .u8 0, .int .u8 0, .int .u8 0, .int .u8 0, .int .u8 0, .int .u8 0, .int .u8 0, .int .u8 0, .int .u8 0, .int .u8 0, .int .u8 0, .int .u8 0, .int .u8 0, .int .u8 0, .int .u8 0, .int .u8 0, .int .u8 0, .int .u8 0, .int .u8 0, .int .u8 0, .int .u8 0, .int .u8 0, .int .u8 0, .int .u8 0, .int .u8 0, .int .u8 0, .int .u8 0, .int .u8 0, .int .u8 0, .int .u8 0, .int .u8 0, .int .u8 0, .int .u8 0, .int .u8 0, .int .u8 0, .int .u8 0, .int .u8 0, .int .u8 0, .int .u8 0, .int .u8 0, .int .u8 0, .int .u8 0, .int .u8 0, .int .u8 0, .int .u8 0, .int .u8 0, .int .u8 0, .int .u8 0, .int .u8 0, .int .u8 0, .int .u8 0, .int .u8 0, .int .u8 0, .int .u8 0, .int .u8 0, .int .u8 0, .int .u8 0, .int .u8 0, .int .u8 0, .int .u8 0, .int .u8 0, .int .u8 0, .int .u8 0, .int .u8 0, .int .u8 0, .int .u8 0, .int .u8 0, .int .u8 0, .int .u8 0, .int .u8 0, .int .u8 0, .int .u8 0, .int .u8 0, .int .u8 0, .int .u8 0, .int .u8 0, .int .u8 0, .int .u8 0, .int .u8 0, .int .u8 0, .int .u8 0, .int .u8 0, .int .u8 0, .int .u8 0, .int .u8 0, .int .u8 0, .int .u8 0, .int .u8 0, .int .u8 0, .int .u8 0, .int .u8 0, .int .u8 0, .int .u8 0, .int .u8 0, .int .u8 0, .int .u8 0, .int .u8 0, .int .u8 0, .int .u8 0, .int .u8 0]) (by kernel_rfl) (by kernel_rfl)
  · exact ZeroIs.one' (c := .int .i64 0) (by kernel_rfl) rfl
  · exact ZeroIs.one' (c := .slice none 0 0) (by kernel_rfl) rfl
  · exact ZeroIs.mk_agg (cs := #[.int .u64 0, .slice none 0 0]) (by kernel_rfl) rfl
  · exact ZeroIs.agg' (cs := #[.bool false, .int .u16 0]) (by kernel_rfl) rfl
  · exact ZeroIs.one' (c := .int .u64 0) (by kernel_rfl) rfl
  · exact ZeroIs.one' (c := .slice none 0 0) (by kernel_rfl) rfl
  · exact ZeroIs.agg' (cs := #[.bool false, .int .u16 0, .int .u32 0, .int .u16 0, .int .u8 0, .string ⟨#[]⟩]) (by kernel_rfl) rfl
theorem Z3 : Z 3 = some (.int .i64 0) := rfl
theorem Z4 : Z 4 = some (.bool false) := rfl
theorem Z5 : Z 5 = some (.int .u8 0) := rfl
theorem Z9 : Z 9 = some (.str ⟨#[]⟩) := rfl
theorem Z22 : Z 22 = some (.int .u16 0) := rfl
theorem Z23 : Z 23 = some (.int .u64 0) := rfl
theorem Z24 : Z 24 = some (.int .u32 0) := rfl
theorem Z26 : Z 26 = some (.agg [.int .u16 0, .int .u8 0]) := rfl
theorem Z28 : Z 28 = some (.agg (bytesAV (zb 64))) := rfl
theorem Z30 : Z 30 = some (.agg [.int .u64 0, .int .u32 0, .agg [.int .u16 0, .int .u8 0], .agg (bytesAV (zb 64))]) := rfl
theorem Z32 : Z 32 = some (.agg (bytesAV (zb 224))) := rfl
theorem Z33 : Z 33 = some (.int .i64 0) := rfl
theorem Z42 : Z 42 = some (.vsl [] 0) := rfl
theorem Z44 : Z 44 = some (.agg [.int .u64 0, .nilsl]) := rfl
theorem Z59 : Z 59 = some (.agg [.bool false, .int .u16 0]) := rfl
theorem Z64 : Z 64 = some (.int .u64 0) := rfl
theorem Z68 : Z 68 = some (.vsl [] 0) := rfl
theorem Z76 : Z 76 = some (.agg [.bool false, .int .u16 0, .int .u32 0, .agg [.int .u16 0, .int .u8 0], .str ⟨#[]⟩]) := rfl
theorem bz26 : bldZ Try.prog Z 26 = some [.int .u16 0, .int .u8 0] := by kernel_rfl
theorem bz28 : bldZ Try.prog Z 28 = some (bytesAV (zb 64)) := by kernel_rfl
theorem bz30 : bldZ Try.prog Z 30 = some [.int .u64 0, .int .u32 0, .agg [.int .u16 0, .int .u8 0], .agg (bytesAV (zb 64))] := by kernel_rfl
theorem bz32 : bldZ Try.prog Z 32 = some (bytesAV (zb 224)) := by kernel_rfl
theorem el42 : elemS Try.prog Z 42 = some (.agg [.bool false, .int .u16 0, .int .u32 0, .agg [.int .u16 0, .int .u8 0], .str ⟨#[]⟩], 6) := by kernel_rfl
theorem em42 : elemM Try.prog Z 42 = some (.agg [.bool false, .int .u16 0, .int .u32 0, .agg [.int .u16 0, .int .u8 0], .str ⟨#[]⟩], 6, 32) := by kernel_rfl
theorem at42 : apT Try.prog Z 42 42 = some (6, 32) := by kernel_rfl
theorem bz44 : bldZ Try.prog Z 44 = some [.int .u64 0, .nilsl] := by kernel_rfl
theorem bz59 : bldZ Try.prog Z 59 = some [.bool false, .int .u16 0] := by kernel_rfl
theorem el68 : elemS Try.prog Z 68 = some (.int .u8 0, 1) := by kernel_rfl
theorem em68 : elemM Try.prog Z 68 = some (.int .u8 0, 1, 1) := by kernel_rfl
theorem at68 : apT Try.prog Z 68 68 = some (1, 1) := by kernel_rfl
theorem bz76 : bldZ Try.prog Z 76 = some [.bool false, .int .u16 0, .int .u32 0, .agg [.int .u16 0, .int .u8 0], .str ⟨#[]⟩] := by kernel_rfl
theorem at68_9 : apT Try.prog Z 68 9 = some (1, 1) := by kernel_rfl
end Go.Proofs.Ytbellkdglifahaa
