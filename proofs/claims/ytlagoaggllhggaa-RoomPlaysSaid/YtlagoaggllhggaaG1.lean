/- Facts of this seat's types, by the kernel's own reckoning. -/
import Derived.Test.YtlagoaggllhggaaM4
import Derived.Test.YtlagoaggllhggaaProg
set_option linter.unusedVariables false
set_option linter.unusedSimpArgs false
namespace Go.Proofs.Ytlagoaggllhggaa
open Go Go.RowKit

theorem mixed : Try.prog.follows .mixedOrders = true := by kernel_rfl
theorem sz3 : szOf Try.prog 3 = some 1 := by kernel_rfl
theorem ag3 : isAggT Try.prog 3 = some false := by kernel_rfl
theorem it3 : intT Try.prog 3 = some .i64 := by kernel_rfl
theorem sz4 : szOf Try.prog 4 = some 1 := by kernel_rfl
theorem ag4 : isAggT Try.prog 4 = some false := by kernel_rfl
theorem sz5 : szOf Try.prog 5 = some 1 := by kernel_rfl
theorem ag5 : isAggT Try.prog 5 = some false := by kernel_rfl
theorem it5 : intT Try.prog 5 = some .u8 := by kernel_rfl
theorem sz9 : szOf Try.prog 9 = some 1 := by kernel_rfl
theorem ag9 : isAggT Try.prog 9 = some false := by kernel_rfl
theorem ss9 : isStrT Try.prog 9 = true := by kernel_rfl
theorem sz22 : szOf Try.prog 22 = some 1 := by kernel_rfl
theorem ag22 : isAggT Try.prog 22 = some false := by kernel_rfl
theorem es22 : elS Try.prog 22 = some 4 := by kernel_rfl
theorem ap22 : isStrT Try.prog 22 = false := by kernel_rfl
theorem sz23 : szOf Try.prog 23 = some 1 := by kernel_rfl
theorem ag23 : isAggT Try.prog 23 = some false := by kernel_rfl
theorem pt23 : isPtrT Try.prog 23 = true := by kernel_rfl
theorem sz26 : szOf Try.prog 26 = some 1 := by kernel_rfl
theorem ag26 : isAggT Try.prog 26 = some false := by kernel_rfl
theorem pt26 : isPtrT Try.prog 26 = true := by kernel_rfl
theorem sz27 : szOf Try.prog 27 = some 1 := by kernel_rfl
theorem ag27 : isAggT Try.prog 27 = some false := by kernel_rfl
theorem es27 : elS Try.prog 27 = some 2 := by kernel_rfl
theorem ap27 : isStrT Try.prog 27 = false := by kernel_rfl
theorem sz29 : szOf Try.prog 29 = some 2 := by kernel_rfl
theorem ag29 : isAggT Try.prog 29 = some true := by kernel_rfl
theorem ft29_0 : fldT Try.prog 29 0 = some (0, 27) := by kernel_rfl
theorem fa29_0 : fAt Try.prog 29 0 = some 0 := by kernel_rfl
theorem pl29_0 : placeAt Try.prog 29 0 = some (0, 1) := by kernel_rfl
theorem ft29_1 : fldT Try.prog 29 1 = some (1, 3) := by kernel_rfl
theorem fa29_1 : fAt Try.prog 29 1 = some 1 := by kernel_rfl
theorem pl29_1 : placeAt Try.prog 29 1 = some (1, 1) := by kernel_rfl
theorem sz30 : szOf Try.prog 30 = some 1 := by kernel_rfl
theorem ag30 : isAggT Try.prog 30 = some false := by kernel_rfl
theorem it30 : intT Try.prog 30 = some .u64 := by kernel_rfl
theorem sz31 : szOf Try.prog 31 = some 1 := by kernel_rfl
theorem ag31 : isAggT Try.prog 31 = some false := by kernel_rfl
theorem es31 : elS Try.prog 31 = some 6 := by kernel_rfl
theorem ap31 : isStrT Try.prog 31 = false := by kernel_rfl
theorem sz33 : szOf Try.prog 33 = some 2 := by kernel_rfl
theorem ag33 : isAggT Try.prog 33 = some true := by kernel_rfl
theorem ft33_0 : fldT Try.prog 33 0 = some (0, 30) := by kernel_rfl
theorem fa33_0 : fAt Try.prog 33 0 = some 0 := by kernel_rfl
theorem pl33_0 : placeAt Try.prog 33 0 = some (0, 1) := by kernel_rfl
theorem ft33_1 : fldT Try.prog 33 1 = some (1, 31) := by kernel_rfl
theorem fa33_1 : fAt Try.prog 33 1 = some 1 := by kernel_rfl
theorem pl33_1 : placeAt Try.prog 33 1 = some (1, 1) := by kernel_rfl
theorem sz35 : szOf Try.prog 35 = some 4 := by kernel_rfl
theorem ag35 : isAggT Try.prog 35 = some true := by kernel_rfl
theorem ft35_0 : fldT Try.prog 35 0 = some (0, 3) := by kernel_rfl
theorem fa35_0 : fAt Try.prog 35 0 = some 0 := by kernel_rfl
theorem pl35_0 : placeAt Try.prog 35 0 = some (0, 1) := by kernel_rfl
theorem ft35_1 : fldT Try.prog 35 1 = some (1, 3) := by kernel_rfl
theorem fa35_1 : fAt Try.prog 35 1 = some 1 := by kernel_rfl
theorem pl35_1 : placeAt Try.prog 35 1 = some (1, 1) := by kernel_rfl
theorem ft35_2 : fldT Try.prog 35 2 = some (2, 33) := by kernel_rfl
theorem fa35_2 : fAt Try.prog 35 2 = some 2 := by kernel_rfl
theorem pl35_2 : placeAt Try.prog 35 2 = some (2, 2) := by kernel_rfl
theorem sz42 : szOf Try.prog 42 = some 1 := by kernel_rfl
theorem ag42 : isAggT Try.prog 42 = some false := by kernel_rfl
theorem es42 : elS Try.prog 42 = some 2 := by kernel_rfl
theorem ap42 : isStrT Try.prog 42 = false := by kernel_rfl
theorem sz45 : szOf Try.prog 45 = some 1 := by kernel_rfl
theorem ag45 : isAggT Try.prog 45 = some false := by kernel_rfl
theorem it45 : intT Try.prog 45 = some .u16 := by kernel_rfl
theorem sz46 : szOf Try.prog 46 = some 1 := by kernel_rfl
theorem ag46 : isAggT Try.prog 46 = some false := by kernel_rfl
theorem it46 : intT Try.prog 46 = some .u32 := by kernel_rfl
theorem sz48 : szOf Try.prog 48 = some 2 := by kernel_rfl
theorem ag48 : isAggT Try.prog 48 = some true := by kernel_rfl
theorem ft48_0 : fldT Try.prog 48 0 = some (0, 45) := by kernel_rfl
theorem fa48_0 : fAt Try.prog 48 0 = some 0 := by kernel_rfl
theorem pl48_0 : placeAt Try.prog 48 0 = some (0, 1) := by kernel_rfl
theorem ft48_1 : fldT Try.prog 48 1 = some (1, 5) := by kernel_rfl
theorem fa48_1 : fAt Try.prog 48 1 = some 1 := by kernel_rfl
theorem pl48_1 : placeAt Try.prog 48 1 = some (1, 1) := by kernel_rfl
theorem fk48 : flatKinds Try.prog 40 48 = some [.i, .i] := by kernel_rfl
theorem eg48 : Try.prog.eqGuardType Try.prog.depth 48 = false := by kernel_rfl
theorem sz50 : szOf Try.prog 50 = some 6 := by kernel_rfl
theorem ag50 : isAggT Try.prog 50 = some true := by kernel_rfl
theorem ft50_0 : fldT Try.prog 50 0 = some (0, 4) := by kernel_rfl
theorem fa50_0 : fAt Try.prog 50 0 = some 0 := by kernel_rfl
theorem pl50_0 : placeAt Try.prog 50 0 = some (0, 1) := by kernel_rfl
theorem ft50_1 : fldT Try.prog 50 1 = some (1, 45) := by kernel_rfl
theorem fa50_1 : fAt Try.prog 50 1 = some 1 := by kernel_rfl
theorem pl50_1 : placeAt Try.prog 50 1 = some (1, 1) := by kernel_rfl
theorem ft50_2 : fldT Try.prog 50 2 = some (2, 46) := by kernel_rfl
theorem fa50_2 : fAt Try.prog 50 2 = some 2 := by kernel_rfl
theorem pl50_2 : placeAt Try.prog 50 2 = some (2, 1) := by kernel_rfl
theorem ft50_3 : fldT Try.prog 50 3 = some (3, 48) := by kernel_rfl
theorem fa50_3 : fAt Try.prog 50 3 = some 3 := by kernel_rfl
theorem pl50_3 : placeAt Try.prog 50 3 = some (3, 2) := by kernel_rfl
theorem ft50_4 : fldT Try.prog 50 4 = some (5, 9) := by kernel_rfl
theorem fa50_4 : fAt Try.prog 50 4 = some 5 := by kernel_rfl
theorem pl50_4 : placeAt Try.prog 50 4 = some (5, 1) := by kernel_rfl
theorem fk50 : flatKinds Try.prog 40 50 = some [.b, .i, .i, .i, .i, .s] := by kernel_rfl
theorem eg50 : Try.prog.eqGuardType Try.prog.depth 50 = false := by kernel_rfl
theorem sz54 : szOf Try.prog 54 = some 1 := by kernel_rfl
theorem ag54 : isAggT Try.prog 54 = some false := by kernel_rfl
theorem es54 : elS Try.prog 54 = some 1 := by kernel_rfl
theorem ap54 : isStrT Try.prog 54 = false := by kernel_rfl
theorem by54 : isByT Try.prog 54 = true := by kernel_rfl
theorem sz58 : szOf Try.prog 58 = some 1 := by kernel_rfl
theorem ag58 : isAggT Try.prog 58 = some false := by kernel_rfl
theorem it58 : intT Try.prog 58 = some .i64 := by kernel_rfl
theorem sz65 : szOf Try.prog 65 = some 2 := by kernel_rfl
theorem ag65 : isAggT Try.prog 65 = some true := by kernel_rfl
theorem ft65_0 : fldT Try.prog 65 0 = some (0, 27) := by kernel_rfl
theorem fa65_0 : fAt Try.prog 65 0 = some 0 := by kernel_rfl
theorem pl65_0 : placeAt Try.prog 65 0 = some (0, 1) := by kernel_rfl
theorem ft65_1 : fldT Try.prog 65 1 = some (1, 3) := by kernel_rfl
theorem fa65_1 : fAt Try.prog 65 1 = some 1 := by kernel_rfl
theorem pl65_1 : placeAt Try.prog 65 1 = some (1, 1) := by kernel_rfl
def Z : TypeId → Option AV
  | 3 => some (.int .i64 0)
  | 4 => some (.bool false)
  | 5 => some (.int .u8 0)
  | 9 => some (.str ⟨#[]⟩)
  | 22 => some (.vsl [] 0)
  | 23 => some (.nilptr)
  | 26 => some (.nilptr)
  | 27 => some (.vsl [] 0)
  | 29 => some (.agg [.vsl [] 0, .int .i64 0])
  | 30 => some (.int .u64 0)
  | 31 => some (.vsl [] 0)
  | 33 => some (.agg [.int .u64 0, .vsl [] 0])
  | 35 => some (.agg [.int .i64 0, .int .i64 0, .agg [.int .u64 0, .vsl [] 0]])
  | 42 => some (.vsl [] 0)
  | 45 => some (.int .u16 0)
  | 46 => some (.int .u32 0)
  | 48 => some (.agg [.int .u16 0, .int .u8 0])
  | 50 => some (.agg [.bool false, .int .u16 0, .int .u32 0, .agg [.int .u16 0, .int .u8 0], .str ⟨#[]⟩])
  | 54 => some (.vsl [] 0)
  | 58 => some (.int .i64 0)
  | 65 => some (.agg [.vsl [] 0, .int .i64 0])
  | _ => none
theorem hZ : ∀ T z, Z T = some z → ZeroIs Try.prog T z := by
  intro T z h
  unfold Z at h
  split at h <;> simp only [Option.some.injEq, reduceCtorEq] at h <;> subst h
  · exact ZeroIs.one' (c := .int .i64 0) (by kernel_rfl) rfl
  · exact ZeroIs.one' (c := .bool false) (by kernel_rfl) rfl
  · exact ZeroIs.one' (c := .int .u8 0) (by kernel_rfl) rfl
  · exact ZeroIs.one' (c := .string ⟨#[]⟩) (by kernel_rfl) rfl
  · exact ZeroIs.one' (c := .slice none 0 0) (by kernel_rfl) rfl
  · exact ZeroIs.one' (c := .pointer none) (by kernel_rfl) rfl
  · exact ZeroIs.one' (c := .pointer none) (by kernel_rfl) rfl
  · exact ZeroIs.one' (c := .slice none 0 0) (by kernel_rfl) rfl
  · exact ZeroIs.agg' (cs := #[.slice none 0 0, .int .i64 0]) (by kernel_rfl) rfl
  · exact ZeroIs.one' (c := .int .u64 0) (by kernel_rfl) rfl
  · exact ZeroIs.one' (c := .slice none 0 0) (by kernel_rfl) rfl
  · exact ZeroIs.agg' (cs := #[.int .u64 0, .slice none 0 0]) (by kernel_rfl) rfl
  · exact ZeroIs.agg' (cs := #[.int .i64 0, .int .i64 0, .int .u64 0, .slice none 0 0]) (by kernel_rfl) rfl
  · exact ZeroIs.one' (c := .slice none 0 0) (by kernel_rfl) rfl
  · exact ZeroIs.one' (c := .int .u16 0) (by kernel_rfl) rfl
  · exact ZeroIs.one' (c := .int .u32 0) (by kernel_rfl) rfl
  · exact ZeroIs.agg' (cs := #[.int .u16 0, .int .u8 0]) (by kernel_rfl) rfl
  · exact ZeroIs.agg' (cs := #[.bool false, .int .u16 0, .int .u32 0, .int .u16 0, .int .u8 0, .string ⟨#[]⟩]) (by kernel_rfl) rfl
  · exact ZeroIs.one' (c := .slice none 0 0) (by kernel_rfl) rfl
  · exact ZeroIs.one' (c := .int .i64 0) (by kernel_rfl) rfl
  · exact ZeroIs.agg' (cs := #[.slice none 0 0, .int .i64 0]) (by kernel_rfl) rfl
theorem Z3 : Z 3 = some (.int .i64 0) := rfl
theorem Z4 : Z 4 = some (.bool false) := rfl
theorem Z5 : Z 5 = some (.int .u8 0) := rfl
theorem Z9 : Z 9 = some (.str ⟨#[]⟩) := rfl
theorem Z22 : Z 22 = some (.vsl [] 0) := rfl
theorem Z23 : Z 23 = some (.nilptr) := rfl
theorem Z26 : Z 26 = some (.nilptr) := rfl
theorem Z27 : Z 27 = some (.vsl [] 0) := rfl
theorem Z29 : Z 29 = some (.agg [.vsl [] 0, .int .i64 0]) := rfl
theorem Z30 : Z 30 = some (.int .u64 0) := rfl
theorem Z31 : Z 31 = some (.vsl [] 0) := rfl
theorem Z33 : Z 33 = some (.agg [.int .u64 0, .vsl [] 0]) := rfl
theorem Z35 : Z 35 = some (.agg [.int .i64 0, .int .i64 0, .agg [.int .u64 0, .vsl [] 0]]) := rfl
theorem Z42 : Z 42 = some (.vsl [] 0) := rfl
theorem Z45 : Z 45 = some (.int .u16 0) := rfl
theorem Z46 : Z 46 = some (.int .u32 0) := rfl
theorem Z48 : Z 48 = some (.agg [.int .u16 0, .int .u8 0]) := rfl
theorem Z50 : Z 50 = some (.agg [.bool false, .int .u16 0, .int .u32 0, .agg [.int .u16 0, .int .u8 0], .str ⟨#[]⟩]) := rfl
theorem Z54 : Z 54 = some (.vsl [] 0) := rfl
theorem Z58 : Z 58 = some (.int .i64 0) := rfl
theorem Z65 : Z 65 = some (.agg [.vsl [] 0, .int .i64 0]) := rfl
theorem el22 : elemS Try.prog Z 22 = some (.agg [.int .i64 0, .int .i64 0, .agg [.int .u64 0, .vsl [] 0]], 4) := by kernel_rfl
theorem em22 : elemM Try.prog Z 22 = some (.agg [.int .i64 0, .int .i64 0, .agg [.int .u64 0, .vsl [] 0]], 4, 48) := by kernel_rfl
theorem at22 : apT Try.prog Z 22 22 = some (4, 48) := by kernel_rfl
theorem el27 : elemS Try.prog Z 27 = some (.agg [.int .u64 0, .vsl [] 0], 2) := by kernel_rfl
theorem em27 : elemM Try.prog Z 27 = some (.agg [.int .u64 0, .vsl [] 0], 2, 32) := by kernel_rfl
theorem at27 : apT Try.prog Z 27 27 = some (2, 32) := by kernel_rfl
theorem bz29 : bldZ Try.prog Z 29 = some [.vsl [] 0, .int .i64 0] := by kernel_rfl
theorem el31 : elemS Try.prog Z 31 = some (.agg [.bool false, .int .u16 0, .int .u32 0, .agg [.int .u16 0, .int .u8 0], .str ⟨#[]⟩], 6) := by kernel_rfl
theorem em31 : elemM Try.prog Z 31 = some (.agg [.bool false, .int .u16 0, .int .u32 0, .agg [.int .u16 0, .int .u8 0], .str ⟨#[]⟩], 6, 32) := by kernel_rfl
theorem at31 : apT Try.prog Z 31 31 = some (6, 32) := by kernel_rfl
theorem bz33 : bldZ Try.prog Z 33 = some [.int .u64 0, .vsl [] 0] := by kernel_rfl
theorem bz35 : bldZ Try.prog Z 35 = some [.int .i64 0, .int .i64 0, .agg [.int .u64 0, .vsl [] 0]] := by kernel_rfl
theorem el42 : elemS Try.prog Z 42 = some (.agg [.int .u16 0, .int .u8 0], 2) := by kernel_rfl
theorem em42 : elemM Try.prog Z 42 = some (.agg [.int .u16 0, .int .u8 0], 2, 4) := by kernel_rfl
theorem at42 : apT Try.prog Z 42 42 = some (2, 4) := by kernel_rfl
theorem bz48 : bldZ Try.prog Z 48 = some [.int .u16 0, .int .u8 0] := by kernel_rfl
theorem bz50 : bldZ Try.prog Z 50 = some [.bool false, .int .u16 0, .int .u32 0, .agg [.int .u16 0, .int .u8 0], .str ⟨#[]⟩] := by kernel_rfl
theorem el54 : elemS Try.prog Z 54 = some (.int .u8 0, 1) := by kernel_rfl
theorem em54 : elemM Try.prog Z 54 = some (.int .u8 0, 1, 1) := by kernel_rfl
theorem at54 : apT Try.prog Z 54 54 = some (1, 1) := by kernel_rfl
theorem bz65 : bldZ Try.prog Z 65 = some [.vsl [] 0, .int .i64 0] := by kernel_rfl
theorem at54_9 : apT Try.prog Z 54 9 = some (1, 1) := by kernel_rfl
end Go.Proofs.Ytlagoaggllhggaa
