/- Facts of this seat's types, by the kernel's own reckoning. -/
import Derived.Test.YtgcdbfeoadmmcaaF26
import Derived.Test.YtgcdbfeoadmmcaaProg
set_option linter.unusedVariables false
set_option linter.unusedSimpArgs false
namespace Go.Proofs.Ytgcdbfeoadmmcaa
open Go Go.RowKit

theorem mixed : Try.prog.follows .mixedOrders = true := by kernel_rfl
theorem sz1 : szOf Try.prog 1 = some 1 := by kernel_rfl
theorem ag1 : isAggT Try.prog 1 = some false := by kernel_rfl
theorem sz2 : szOf Try.prog 2 = some 1 := by kernel_rfl
theorem ag2 : isAggT Try.prog 2 = some false := by kernel_rfl
theorem it2 : intT Try.prog 2 = some .i64 := by kernel_rfl
theorem sz3 : szOf Try.prog 3 = some 1 := by kernel_rfl
theorem ag3 : isAggT Try.prog 3 = some false := by kernel_rfl
theorem it3 : intT Try.prog 3 = some .i64 := by kernel_rfl
theorem sz4 : szOf Try.prog 4 = some 1 := by kernel_rfl
theorem ag4 : isAggT Try.prog 4 = some false := by kernel_rfl
theorem sz5 : szOf Try.prog 5 = some 1 := by kernel_rfl
theorem ag5 : isAggT Try.prog 5 = some false := by kernel_rfl
theorem it5 : intT Try.prog 5 = some .u8 := by kernel_rfl
theorem sz6 : szOf Try.prog 6 = some 1 := by kernel_rfl
theorem ag6 : isAggT Try.prog 6 = some false := by kernel_rfl
theorem it6 : intT Try.prog 6 = some .u8 := by kernel_rfl
theorem sz7 : szOf Try.prog 7 = some 4 := by kernel_rfl
theorem ag7 : isAggT Try.prog 7 = some true := by kernel_rfl
theorem fa7_0 : fAt Try.prog 7 0 = some 0 := by kernel_rfl
theorem pl7_0 : placeAt Try.prog 7 0 = some (0, 1) := by kernel_rfl
theorem fa7_1 : fAt Try.prog 7 1 = some 1 := by kernel_rfl
theorem pl7_1 : placeAt Try.prog 7 1 = some (1, 1) := by kernel_rfl
theorem fa7_2 : fAt Try.prog 7 2 = some 2 := by kernel_rfl
theorem pl7_2 : placeAt Try.prog 7 2 = some (2, 1) := by kernel_rfl
theorem fa7_3 : fAt Try.prog 7 3 = some 3 := by kernel_rfl
theorem pl7_3 : placeAt Try.prog 7 3 = some (3, 1) := by kernel_rfl
theorem fk7 : flatKinds Try.prog 40 7 = some [.i, .i, .b, .i] := by kernel_rfl
theorem eg7 : Try.prog.eqGuardType Try.prog.depth 7 = false := by kernel_rfl
theorem sz8 : szOf Try.prog 8 = some 4 := by kernel_rfl
theorem ag8 : isAggT Try.prog 8 = some true := by kernel_rfl
theorem fa8_0 : fAt Try.prog 8 0 = some 0 := by kernel_rfl
theorem pl8_0 : placeAt Try.prog 8 0 = some (0, 1) := by kernel_rfl
theorem fa8_1 : fAt Try.prog 8 1 = some 1 := by kernel_rfl
theorem pl8_1 : placeAt Try.prog 8 1 = some (1, 1) := by kernel_rfl
theorem fa8_2 : fAt Try.prog 8 2 = some 2 := by kernel_rfl
theorem pl8_2 : placeAt Try.prog 8 2 = some (2, 1) := by kernel_rfl
theorem fa8_3 : fAt Try.prog 8 3 = some 3 := by kernel_rfl
theorem pl8_3 : placeAt Try.prog 8 3 = some (3, 1) := by kernel_rfl
theorem fk8 : flatKinds Try.prog 40 8 = some [.i, .i, .b, .i] := by kernel_rfl
theorem eg8 : Try.prog.eqGuardType Try.prog.depth 8 = false := by kernel_rfl
theorem sz9 : szOf Try.prog 9 = some 1 := by kernel_rfl
theorem ag9 : isAggT Try.prog 9 = some false := by kernel_rfl
theorem ss9 : isStrT Try.prog 9 = true := by kernel_rfl
theorem sz10 : szOf Try.prog 10 = some 1 := by kernel_rfl
theorem ag10 : isAggT Try.prog 10 = some false := by kernel_rfl
theorem ss10 : isStrT Try.prog 10 = true := by kernel_rfl
theorem sz11 : szOf Try.prog 11 = some 1 := by kernel_rfl
theorem ag11 : isAggT Try.prog 11 = some false := by kernel_rfl
theorem ss11 : isStrT Try.prog 11 = true := by kernel_rfl
theorem sz12 : szOf Try.prog 12 = some 1 := by kernel_rfl
theorem ag12 : isAggT Try.prog 12 = some false := by kernel_rfl
theorem it12 : intT Try.prog 12 = some .u64 := by kernel_rfl
theorem sz13 : szOf Try.prog 13 = some 2 := by kernel_rfl
theorem ag13 : isAggT Try.prog 13 = some true := by kernel_rfl
theorem fa13_0 : fAt Try.prog 13 0 = some 0 := by kernel_rfl
theorem pl13_0 : placeAt Try.prog 13 0 = some (0, 1) := by kernel_rfl
theorem fa13_1 : fAt Try.prog 13 1 = some 1 := by kernel_rfl
theorem pl13_1 : placeAt Try.prog 13 1 = some (1, 1) := by kernel_rfl
theorem eg13 : Try.prog.eqGuardType Try.prog.depth 13 = false := by kernel_rfl
theorem sz14 : szOf Try.prog 14 = some 2 := by kernel_rfl
theorem ag14 : isAggT Try.prog 14 = some true := by kernel_rfl
theorem fa14_0 : fAt Try.prog 14 0 = some 0 := by kernel_rfl
theorem pl14_0 : placeAt Try.prog 14 0 = some (0, 1) := by kernel_rfl
theorem fa14_1 : fAt Try.prog 14 1 = some 1 := by kernel_rfl
theorem pl14_1 : placeAt Try.prog 14 1 = some (1, 1) := by kernel_rfl
theorem eg14 : Try.prog.eqGuardType Try.prog.depth 14 = false := by kernel_rfl
theorem sz15 : szOf Try.prog 15 = some 1 := by kernel_rfl
theorem ag15 : isAggT Try.prog 15 = some false := by kernel_rfl
theorem sz16 : szOf Try.prog 16 = some 1 := by kernel_rfl
theorem ag16 : isAggT Try.prog 16 = some false := by kernel_rfl
theorem sz17 : szOf Try.prog 17 = some 1 := by kernel_rfl
theorem ag17 : isAggT Try.prog 17 = some false := by kernel_rfl
theorem sz18 : szOf Try.prog 18 = some 1 := by kernel_rfl
theorem ag18 : isAggT Try.prog 18 = some true := by kernel_rfl
theorem fa18_0 : fAt Try.prog 18 0 = some 0 := by kernel_rfl
theorem pl18_0 : placeAt Try.prog 18 0 = some (0, 1) := by kernel_rfl
theorem sz19 : szOf Try.prog 19 = some 1 := by kernel_rfl
theorem ag19 : isAggT Try.prog 19 = some true := by kernel_rfl
theorem fa19_0 : fAt Try.prog 19 0 = some 0 := by kernel_rfl
theorem pl19_0 : placeAt Try.prog 19 0 = some (0, 1) := by kernel_rfl
theorem sz20 : szOf Try.prog 20 = some 1 := by kernel_rfl
theorem ag20 : isAggT Try.prog 20 = some false := by kernel_rfl
theorem sz21 : szOf Try.prog 21 = some 1 := by kernel_rfl
theorem ag21 : isAggT Try.prog 21 = some false := by kernel_rfl
theorem it21 : intT Try.prog 21 = some .i32 := by kernel_rfl
theorem sz22 : szOf Try.prog 22 = some 1 := by kernel_rfl
theorem ag22 : isAggT Try.prog 22 = some false := by kernel_rfl
theorem it22 : intT Try.prog 22 = some .u64 := by kernel_rfl
theorem sz23 : szOf Try.prog 23 = some 1 := by kernel_rfl
theorem ag23 : isAggT Try.prog 23 = some false := by kernel_rfl
theorem es23 : elS Try.prog 23 = some 6 := by kernel_rfl
theorem ap23 : isStrT Try.prog 23 = false := by kernel_rfl
theorem sz24 : szOf Try.prog 24 = some 2 := by kernel_rfl
theorem ag24 : isAggT Try.prog 24 = some true := by kernel_rfl
theorem fa24_0 : fAt Try.prog 24 0 = some 0 := by kernel_rfl
theorem pl24_0 : placeAt Try.prog 24 0 = some (0, 1) := by kernel_rfl
theorem fa24_1 : fAt Try.prog 24 1 = some 1 := by kernel_rfl
theorem pl24_1 : placeAt Try.prog 24 1 = some (1, 1) := by kernel_rfl
theorem sz25 : szOf Try.prog 25 = some 2 := by kernel_rfl
theorem ag25 : isAggT Try.prog 25 = some true := by kernel_rfl
theorem fa25_0 : fAt Try.prog 25 0 = some 0 := by kernel_rfl
theorem pl25_0 : placeAt Try.prog 25 0 = some (0, 1) := by kernel_rfl
theorem fa25_1 : fAt Try.prog 25 1 = some 1 := by kernel_rfl
theorem pl25_1 : placeAt Try.prog 25 1 = some (1, 1) := by kernel_rfl
theorem sz26 : szOf Try.prog 26 = some 1 := by kernel_rfl
theorem ag26 : isAggT Try.prog 26 = some false := by kernel_rfl
theorem it26 : intT Try.prog 26 = some .u16 := by kernel_rfl
theorem sz27 : szOf Try.prog 27 = some 1 := by kernel_rfl
theorem ag27 : isAggT Try.prog 27 = some false := by kernel_rfl
theorem it27 : intT Try.prog 27 = some .u32 := by kernel_rfl
theorem sz28 : szOf Try.prog 28 = some 2 := by kernel_rfl
theorem ag28 : isAggT Try.prog 28 = some true := by kernel_rfl
theorem fa28_0 : fAt Try.prog 28 0 = some 0 := by kernel_rfl
theorem pl28_0 : placeAt Try.prog 28 0 = some (0, 1) := by kernel_rfl
theorem fa28_1 : fAt Try.prog 28 1 = some 1 := by kernel_rfl
theorem pl28_1 : placeAt Try.prog 28 1 = some (1, 1) := by kernel_rfl
theorem fk28 : flatKinds Try.prog 40 28 = some [.i, .i] := by kernel_rfl
theorem eg28 : Try.prog.eqGuardType Try.prog.depth 28 = false := by kernel_rfl
theorem sz29 : szOf Try.prog 29 = some 2 := by kernel_rfl
theorem ag29 : isAggT Try.prog 29 = some true := by kernel_rfl
theorem fa29_0 : fAt Try.prog 29 0 = some 0 := by kernel_rfl
theorem pl29_0 : placeAt Try.prog 29 0 = some (0, 1) := by kernel_rfl
theorem fa29_1 : fAt Try.prog 29 1 = some 1 := by kernel_rfl
theorem pl29_1 : placeAt Try.prog 29 1 = some (1, 1) := by kernel_rfl
theorem fk29 : flatKinds Try.prog 40 29 = some [.i, .i] := by kernel_rfl
theorem eg29 : Try.prog.eqGuardType Try.prog.depth 29 = false := by kernel_rfl
theorem sz30 : szOf Try.prog 30 = some 6 := by kernel_rfl
theorem ag30 : isAggT Try.prog 30 = some true := by kernel_rfl
theorem fa30_0 : fAt Try.prog 30 0 = some 0 := by kernel_rfl
theorem pl30_0 : placeAt Try.prog 30 0 = some (0, 1) := by kernel_rfl
theorem fa30_1 : fAt Try.prog 30 1 = some 1 := by kernel_rfl
theorem pl30_1 : placeAt Try.prog 30 1 = some (1, 1) := by kernel_rfl
theorem fa30_2 : fAt Try.prog 30 2 = some 2 := by kernel_rfl
theorem pl30_2 : placeAt Try.prog 30 2 = some (2, 1) := by kernel_rfl
theorem fa30_3 : fAt Try.prog 30 3 = some 3 := by kernel_rfl
theorem pl30_3 : placeAt Try.prog 30 3 = some (3, 2) := by kernel_rfl
theorem fa30_4 : fAt Try.prog 30 4 = some 5 := by kernel_rfl
theorem pl30_4 : placeAt Try.prog 30 4 = some (5, 1) := by kernel_rfl
theorem fk30 : flatKinds Try.prog 40 30 = some [.b, .i, .i, .i, .i, .s] := by kernel_rfl
theorem eg30 : Try.prog.eqGuardType Try.prog.depth 30 = false := by kernel_rfl
theorem sz31 : szOf Try.prog 31 = some 6 := by kernel_rfl
theorem ag31 : isAggT Try.prog 31 = some true := by kernel_rfl
theorem fa31_0 : fAt Try.prog 31 0 = some 0 := by kernel_rfl
theorem pl31_0 : placeAt Try.prog 31 0 = some (0, 1) := by kernel_rfl
theorem fa31_1 : fAt Try.prog 31 1 = some 1 := by kernel_rfl
theorem pl31_1 : placeAt Try.prog 31 1 = some (1, 1) := by kernel_rfl
theorem fa31_2 : fAt Try.prog 31 2 = some 2 := by kernel_rfl
theorem pl31_2 : placeAt Try.prog 31 2 = some (2, 1) := by kernel_rfl
theorem fa31_3 : fAt Try.prog 31 3 = some 3 := by kernel_rfl
theorem pl31_3 : placeAt Try.prog 31 3 = some (3, 2) := by kernel_rfl
theorem fa31_4 : fAt Try.prog 31 4 = some 5 := by kernel_rfl
theorem pl31_4 : placeAt Try.prog 31 4 = some (5, 1) := by kernel_rfl
theorem fk31 : flatKinds Try.prog 40 31 = some [.b, .i, .i, .i, .i, .s] := by kernel_rfl
theorem eg31 : Try.prog.eqGuardType Try.prog.depth 31 = false := by kernel_rfl
theorem sz32 : szOf Try.prog 32 = some 1 := by kernel_rfl
theorem ag32 : isAggT Try.prog 32 = some false := by kernel_rfl
theorem sz33 : szOf Try.prog 33 = some 1 := by kernel_rfl
theorem ag33 : isAggT Try.prog 33 = some false := by kernel_rfl
theorem it33 : intT Try.prog 33 = some .i64 := by kernel_rfl
theorem sz35 : szOf Try.prog 35 = some 1 := by kernel_rfl
theorem ag35 : isAggT Try.prog 35 = some false := by kernel_rfl
theorem sz36 : szOf Try.prog 36 = some 1 := by kernel_rfl
theorem ag36 : isAggT Try.prog 36 = some false := by kernel_rfl
theorem sz37 : szOf Try.prog 37 = some 1 := by kernel_rfl
theorem ag37 : isAggT Try.prog 37 = some false := by kernel_rfl
theorem sz38 : szOf Try.prog 38 = some 1 := by kernel_rfl
theorem ag38 : isAggT Try.prog 38 = some false := by kernel_rfl
theorem sz39 : szOf Try.prog 39 = some 1 := by kernel_rfl
theorem ag39 : isAggT Try.prog 39 = some false := by kernel_rfl
theorem sz41 : szOf Try.prog 41 = some 1 := by kernel_rfl
theorem ag41 : isAggT Try.prog 41 = some false := by kernel_rfl
theorem sz43 : szOf Try.prog 43 = some 1 := by kernel_rfl
theorem ag43 : isAggT Try.prog 43 = some false := by kernel_rfl
theorem sz44 : szOf Try.prog 44 = some 1 := by kernel_rfl
theorem ag44 : isAggT Try.prog 44 = some false := by kernel_rfl
theorem sz45 : szOf Try.prog 45 = some 1 := by kernel_rfl
theorem ag45 : isAggT Try.prog 45 = some false := by kernel_rfl
theorem sz46 : szOf Try.prog 46 = some 1 := by kernel_rfl
theorem ag46 : isAggT Try.prog 46 = some false := by kernel_rfl
theorem sz47 : szOf Try.prog 47 = some 1 := by kernel_rfl
theorem ag47 : isAggT Try.prog 47 = some false := by kernel_rfl
theorem es47 : elS Try.prog 47 = some 1 := by kernel_rfl
theorem ap47 : isStrT Try.prog 47 = false := by kernel_rfl
theorem sz48 : szOf Try.prog 48 = some 1 := by kernel_rfl
theorem ag48 : isAggT Try.prog 48 = some false := by kernel_rfl
theorem sz49 : szOf Try.prog 49 = some 8 := by kernel_rfl
theorem ag49 : isAggT Try.prog 49 = some true := by kernel_rfl
theorem fa49_0 : fAt Try.prog 49 0 = some 0 := by kernel_rfl
theorem pl49_0 : placeAt Try.prog 49 0 = some (0, 1) := by kernel_rfl
theorem fa49_1 : fAt Try.prog 49 1 = some 1 := by kernel_rfl
theorem pl49_1 : placeAt Try.prog 49 1 = some (1, 1) := by kernel_rfl
theorem fa49_2 : fAt Try.prog 49 2 = some 2 := by kernel_rfl
theorem pl49_2 : placeAt Try.prog 49 2 = some (2, 6) := by kernel_rfl
theorem fk49 : flatKinds Try.prog 40 49 = some [.i, .i, .b, .i, .i, .i, .i, .s] := by kernel_rfl
theorem eg49 : Try.prog.eqGuardType Try.prog.depth 49 = false := by kernel_rfl
theorem sz50 : szOf Try.prog 50 = some 8 := by kernel_rfl
theorem ag50 : isAggT Try.prog 50 = some true := by kernel_rfl
theorem fa50_0 : fAt Try.prog 50 0 = some 0 := by kernel_rfl
theorem pl50_0 : placeAt Try.prog 50 0 = some (0, 1) := by kernel_rfl
theorem fa50_1 : fAt Try.prog 50 1 = some 1 := by kernel_rfl
theorem pl50_1 : placeAt Try.prog 50 1 = some (1, 1) := by kernel_rfl
theorem fa50_2 : fAt Try.prog 50 2 = some 2 := by kernel_rfl
theorem pl50_2 : placeAt Try.prog 50 2 = some (2, 6) := by kernel_rfl
theorem fk50 : flatKinds Try.prog 40 50 = some [.i, .i, .b, .i, .i, .i, .i, .s] := by kernel_rfl
theorem eg50 : Try.prog.eqGuardType Try.prog.depth 50 = false := by kernel_rfl
theorem sz51 : szOf Try.prog 51 = some 1 := by kernel_rfl
theorem ag51 : isAggT Try.prog 51 = some false := by kernel_rfl
theorem sz52 : szOf Try.prog 52 = some 1 := by kernel_rfl
theorem ag52 : isAggT Try.prog 52 = some false := by kernel_rfl
theorem sz53 : szOf Try.prog 53 = some 1 := by kernel_rfl
theorem ag53 : isAggT Try.prog 53 = some false := by kernel_rfl
theorem sz54 : szOf Try.prog 54 = some 4 := by kernel_rfl
theorem ag54 : isAggT Try.prog 54 = some true := by kernel_rfl
theorem fa54_0 : fAt Try.prog 54 0 = some 0 := by kernel_rfl
theorem pl54_0 : placeAt Try.prog 54 0 = some (0, 1) := by kernel_rfl
theorem fa54_1 : fAt Try.prog 54 1 = some 1 := by kernel_rfl
theorem pl54_1 : placeAt Try.prog 54 1 = some (1, 1) := by kernel_rfl
theorem fa54_2 : fAt Try.prog 54 2 = some 2 := by kernel_rfl
theorem pl54_2 : placeAt Try.prog 54 2 = some (2, 1) := by kernel_rfl
theorem fa54_3 : fAt Try.prog 54 3 = some 3 := by kernel_rfl
theorem pl54_3 : placeAt Try.prog 54 3 = some (3, 1) := by kernel_rfl
theorem sz55 : szOf Try.prog 55 = some 4 := by kernel_rfl
theorem ag55 : isAggT Try.prog 55 = some true := by kernel_rfl
theorem fa55_0 : fAt Try.prog 55 0 = some 0 := by kernel_rfl
theorem pl55_0 : placeAt Try.prog 55 0 = some (0, 1) := by kernel_rfl
theorem fa55_1 : fAt Try.prog 55 1 = some 1 := by kernel_rfl
theorem pl55_1 : placeAt Try.prog 55 1 = some (1, 1) := by kernel_rfl
theorem fa55_2 : fAt Try.prog 55 2 = some 2 := by kernel_rfl
theorem pl55_2 : placeAt Try.prog 55 2 = some (2, 1) := by kernel_rfl
theorem fa55_3 : fAt Try.prog 55 3 = some 3 := by kernel_rfl
theorem pl55_3 : placeAt Try.prog 55 3 = some (3, 1) := by kernel_rfl
theorem sz56 : szOf Try.prog 56 = some 0 := by kernel_rfl
theorem ag56 : isAggT Try.prog 56 = some true := by kernel_rfl
theorem ea56 : elA Try.prog 56 = some (0, 1) := by kernel_rfl
theorem sz57 : szOf Try.prog 57 = some 0 := by kernel_rfl
theorem ag57 : isAggT Try.prog 57 = some true := by kernel_rfl
theorem pl57_0 : placeAt Try.prog 57 0 = some (0, 0) := by kernel_rfl
theorem sz58 : szOf Try.prog 58 = some 0 := by kernel_rfl
theorem ag58 : isAggT Try.prog 58 = some true := by kernel_rfl
theorem pl58_0 : placeAt Try.prog 58 0 = some (0, 0) := by kernel_rfl
theorem sz59 : szOf Try.prog 59 = some 1 := by kernel_rfl
theorem ag59 : isAggT Try.prog 59 = some false := by kernel_rfl
def Z : TypeId → Option AV
  | 1 => some (.nilfunc)
  | 2 => some (.int .i64 0)
  | 3 => some (.int .i64 0)
  | 4 => some (.bool false)
  | 5 => some (.int .u8 0)
  | 6 => some (.int .u8 0)
  | 7 => some (.agg [.int .i64 0, .int .i64 0, .bool false, .int .u8 0])
  | 8 => some (.agg [.int .i64 0, .int .i64 0, .bool false, .int .u8 0])
  | 9 => some (.str ⟨#[]⟩)
  | 10 => some (.str ⟨#[]⟩)
  | 11 => some (.str ⟨#[]⟩)
  | 12 => some (.int .u64 0)
  | 13 => some (.agg [.str ⟨#[]⟩, .int .u64 0])
  | 14 => some (.agg [.str ⟨#[]⟩, .int .u64 0])
  | 15 => some (.nilptr)
  | 16 => some (.nilptr)
  | 17 => some (.nilptr)
  | 18 => some (.agg [.nilptr])
  | 19 => some (.agg [.nilptr])
  | 20 => some (.niliface)
  | 21 => some (.int .i32 0)
  | 22 => some (.int .u64 0)
  | 23 => some (.vsl [] 0)
  | 24 => some (.agg [.int .u64 0, .vsl [] 0])
  | 25 => some (.agg [.int .u64 0, .vsl [] 0])
  | 26 => some (.int .u16 0)
  | 27 => some (.int .u32 0)
  | 28 => some (.agg [.int .u16 0, .int .u8 0])
  | 29 => some (.agg [.int .u16 0, .int .u8 0])
  | 30 => some (.agg [.bool false, .int .u16 0, .int .u32 0, .agg [.int .u16 0, .int .u8 0], .str ⟨#[]⟩])
  | 31 => some (.agg [.bool false, .int .u16 0, .int .u32 0, .agg [.int .u16 0, .int .u8 0], .str ⟨#[]⟩])
  | 32 => some (.nilfunc)
  | 33 => some (.int .i64 0)
  | 35 => some (.nilfunc)
  | 36 => some (.nilfunc)
  | 37 => some (.nilfunc)
  | 38 => some (.nilfunc)
  | 39 => some (.nilfunc)
  | 41 => some (.nilfunc)
  | 43 => some (.nilfunc)
  | 44 => some (.nilfunc)
  | 45 => some (.nilfunc)
  | 46 => some (.nilfunc)
  | 47 => some (.vsl [] 0)
  | 48 => some (.nilfunc)
  | 49 => some (.agg [.int .i64 0, .int .u8 0, .agg [.bool false, .int .u16 0, .int .u32 0, .agg [.int .u16 0, .int .u8 0], .str ⟨#[]⟩]])
  | 50 => some (.agg [.int .i64 0, .int .u8 0, .agg [.bool false, .int .u16 0, .int .u32 0, .agg [.int .u16 0, .int .u8 0], .str ⟨#[]⟩]])
  | 51 => some (.nilfunc)
  | 52 => some (.nilfunc)
  | 53 => some (.nilfunc)
  | 54 => some (.agg [.nilptr, .nilptr, .nilptr, .str ⟨#[]⟩])
  | 55 => some (.agg [.nilptr, .nilptr, .nilptr, .str ⟨#[]⟩])
  | 56 => some (.agg [])
  | 57 => some (.agg [.agg []])
  | 58 => some (.agg [.agg []])
  | 59 => some (.nilfunc)
  | _ => none
theorem hZ : ∀ T z, Z T = some z → ZeroIs Try.prog T z := by
  intro T z h
  unfold Z at h
  split at h <;> simp only [Option.some.injEq, reduceCtorEq] at h <;> subst h
  · exact ZeroIs.one' (c := .nilFunc) (by kernel_rfl) rfl
  · exact ZeroIs.one' (c := .int .i64 0) (by kernel_rfl) rfl
  · exact ZeroIs.one' (c := .int .i64 0) (by kernel_rfl) rfl
  · exact ZeroIs.one' (c := .bool false) (by kernel_rfl) rfl
  · exact ZeroIs.one' (c := .int .u8 0) (by kernel_rfl) rfl
  · exact ZeroIs.one' (c := .int .u8 0) (by kernel_rfl) rfl
  · exact ZeroIs.agg' (cs := #[.int .i64 0, .int .i64 0, .bool false, .int .u8 0]) (by kernel_rfl) rfl
  · exact ZeroIs.agg' (cs := #[.int .i64 0, .int .i64 0, .bool false, .int .u8 0]) (by kernel_rfl) rfl
  · exact ZeroIs.one' (c := .string ⟨#[]⟩) (by kernel_rfl) rfl
  · exact ZeroIs.one' (c := .string ⟨#[]⟩) (by kernel_rfl) rfl
  · exact ZeroIs.one' (c := .string ⟨#[]⟩) (by kernel_rfl) rfl
  · exact ZeroIs.one' (c := .int .u64 0) (by kernel_rfl) rfl
  · exact ZeroIs.agg' (cs := #[.string ⟨#[]⟩, .int .u64 0]) (by kernel_rfl) rfl
  · exact ZeroIs.agg' (cs := #[.string ⟨#[]⟩, .int .u64 0]) (by kernel_rfl) rfl
  · exact ZeroIs.one' (c := .pointer none) (by kernel_rfl) rfl
  · exact ZeroIs.one' (c := .pointer none) (by kernel_rfl) rfl
  · exact ZeroIs.one' (c := .pointer none) (by kernel_rfl) rfl
  · exact ZeroIs.agg' (cs := #[.pointer none]) (by kernel_rfl) rfl
  · exact ZeroIs.agg' (cs := #[.pointer none]) (by kernel_rfl) rfl
  · exact ZeroIs.one' (c := .nilIface) (by kernel_rfl) rfl
  · exact ZeroIs.one' (c := .int .i32 0) (by kernel_rfl) rfl
  · exact ZeroIs.one' (c := .int .u64 0) (by kernel_rfl) rfl
  · exact ZeroIs.one' (c := .slice none 0 0) (by kernel_rfl) rfl
  · exact ZeroIs.agg' (cs := #[.int .u64 0, .slice none 0 0]) (by kernel_rfl) rfl
  · exact ZeroIs.agg' (cs := #[.int .u64 0, .slice none 0 0]) (by kernel_rfl) rfl
  · exact ZeroIs.one' (c := .int .u16 0) (by kernel_rfl) rfl
  · exact ZeroIs.one' (c := .int .u32 0) (by kernel_rfl) rfl
  · exact ZeroIs.agg' (cs := #[.int .u16 0, .int .u8 0]) (by kernel_rfl) rfl
  · exact ZeroIs.agg' (cs := #[.int .u16 0, .int .u8 0]) (by kernel_rfl) rfl
  · exact ZeroIs.agg' (cs := #[.bool false, .int .u16 0, .int .u32 0, .int .u16 0, .int .u8 0, .string ⟨#[]⟩]) (by kernel_rfl) rfl
  · exact ZeroIs.agg' (cs := #[.bool false, .int .u16 0, .int .u32 0, .int .u16 0, .int .u8 0, .string ⟨#[]⟩]) (by kernel_rfl) rfl
  · exact ZeroIs.one' (c := .nilFunc) (by kernel_rfl) rfl
  · exact ZeroIs.one' (c := .int .i64 0) (by kernel_rfl) rfl
  · exact ZeroIs.one' (c := .nilFunc) (by kernel_rfl) rfl
  · exact ZeroIs.one' (c := .nilFunc) (by kernel_rfl) rfl
  · exact ZeroIs.one' (c := .nilFunc) (by kernel_rfl) rfl
  · exact ZeroIs.one' (c := .nilFunc) (by kernel_rfl) rfl
  · exact ZeroIs.one' (c := .nilFunc) (by kernel_rfl) rfl
  · exact ZeroIs.one' (c := .nilFunc) (by kernel_rfl) rfl
  · exact ZeroIs.one' (c := .nilFunc) (by kernel_rfl) rfl
  · exact ZeroIs.one' (c := .nilFunc) (by kernel_rfl) rfl
  · exact ZeroIs.one' (c := .nilFunc) (by kernel_rfl) rfl
  · exact ZeroIs.one' (c := .nilFunc) (by kernel_rfl) rfl
  · exact ZeroIs.one' (c := .slice none 0 0) (by kernel_rfl) rfl
  · exact ZeroIs.one' (c := .nilFunc) (by kernel_rfl) rfl
  · exact ZeroIs.agg' (cs := #[.int .i64 0, .int .u8 0, .bool false, .int .u16 0, .int .u32 0, .int .u16 0, .int .u8 0, .string ⟨#[]⟩]) (by kernel_rfl) rfl
  · exact ZeroIs.agg' (cs := #[.int .i64 0, .int .u8 0, .bool false, .int .u16 0, .int .u32 0, .int .u16 0, .int .u8 0, .string ⟨#[]⟩]) (by kernel_rfl) rfl
  · exact ZeroIs.one' (c := .nilFunc) (by kernel_rfl) rfl
  · exact ZeroIs.one' (c := .nilFunc) (by kernel_rfl) rfl
  · exact ZeroIs.one' (c := .nilFunc) (by kernel_rfl) rfl
  · exact ZeroIs.agg' (cs := #[.pointer none, .pointer none, .pointer none, .string ⟨#[]⟩]) (by kernel_rfl) rfl
  · exact ZeroIs.agg' (cs := #[.pointer none, .pointer none, .pointer none, .string ⟨#[]⟩]) (by kernel_rfl) rfl
  · exact ZeroIs.agg' (cs := #[]) (by kernel_rfl) rfl
  · exact ZeroIs.agg' (cs := #[]) (by kernel_rfl) rfl
  · exact ZeroIs.agg' (cs := #[]) (by kernel_rfl) rfl
  · exact ZeroIs.one' (c := .nilFunc) (by kernel_rfl) rfl
theorem Z1 : Z 1 = some (.nilfunc) := rfl
theorem Z2 : Z 2 = some (.int .i64 0) := rfl
theorem Z3 : Z 3 = some (.int .i64 0) := rfl
theorem Z4 : Z 4 = some (.bool false) := rfl
theorem Z5 : Z 5 = some (.int .u8 0) := rfl
theorem Z6 : Z 6 = some (.int .u8 0) := rfl
theorem Z7 : Z 7 = some (.agg [.int .i64 0, .int .i64 0, .bool false, .int .u8 0]) := rfl
theorem Z8 : Z 8 = some (.agg [.int .i64 0, .int .i64 0, .bool false, .int .u8 0]) := rfl
theorem Z9 : Z 9 = some (.str ⟨#[]⟩) := rfl
theorem Z10 : Z 10 = some (.str ⟨#[]⟩) := rfl
theorem Z11 : Z 11 = some (.str ⟨#[]⟩) := rfl
theorem Z12 : Z 12 = some (.int .u64 0) := rfl
theorem Z13 : Z 13 = some (.agg [.str ⟨#[]⟩, .int .u64 0]) := rfl
theorem Z14 : Z 14 = some (.agg [.str ⟨#[]⟩, .int .u64 0]) := rfl
theorem Z15 : Z 15 = some (.nilptr) := rfl
theorem Z16 : Z 16 = some (.nilptr) := rfl
theorem Z17 : Z 17 = some (.nilptr) := rfl
theorem Z18 : Z 18 = some (.agg [.nilptr]) := rfl
theorem Z19 : Z 19 = some (.agg [.nilptr]) := rfl
theorem Z20 : Z 20 = some (.niliface) := rfl
theorem Z21 : Z 21 = some (.int .i32 0) := rfl
theorem Z22 : Z 22 = some (.int .u64 0) := rfl
theorem Z23 : Z 23 = some (.vsl [] 0) := rfl
theorem Z24 : Z 24 = some (.agg [.int .u64 0, .vsl [] 0]) := rfl
theorem Z25 : Z 25 = some (.agg [.int .u64 0, .vsl [] 0]) := rfl
theorem Z26 : Z 26 = some (.int .u16 0) := rfl
theorem Z27 : Z 27 = some (.int .u32 0) := rfl
theorem Z28 : Z 28 = some (.agg [.int .u16 0, .int .u8 0]) := rfl
theorem Z29 : Z 29 = some (.agg [.int .u16 0, .int .u8 0]) := rfl
theorem Z30 : Z 30 = some (.agg [.bool false, .int .u16 0, .int .u32 0, .agg [.int .u16 0, .int .u8 0], .str ⟨#[]⟩]) := rfl
theorem Z31 : Z 31 = some (.agg [.bool false, .int .u16 0, .int .u32 0, .agg [.int .u16 0, .int .u8 0], .str ⟨#[]⟩]) := rfl
theorem Z32 : Z 32 = some (.nilfunc) := rfl
theorem Z33 : Z 33 = some (.int .i64 0) := rfl
theorem Z35 : Z 35 = some (.nilfunc) := rfl
theorem Z36 : Z 36 = some (.nilfunc) := rfl
theorem Z37 : Z 37 = some (.nilfunc) := rfl
theorem Z38 : Z 38 = some (.nilfunc) := rfl
theorem Z39 : Z 39 = some (.nilfunc) := rfl
theorem Z41 : Z 41 = some (.nilfunc) := rfl
theorem Z43 : Z 43 = some (.nilfunc) := rfl
theorem Z44 : Z 44 = some (.nilfunc) := rfl
theorem Z45 : Z 45 = some (.nilfunc) := rfl
theorem Z46 : Z 46 = some (.nilfunc) := rfl
theorem Z47 : Z 47 = some (.vsl [] 0) := rfl
theorem Z48 : Z 48 = some (.nilfunc) := rfl
theorem Z49 : Z 49 = some (.agg [.int .i64 0, .int .u8 0, .agg [.bool false, .int .u16 0, .int .u32 0, .agg [.int .u16 0, .int .u8 0], .str ⟨#[]⟩]]) := rfl
theorem Z50 : Z 50 = some (.agg [.int .i64 0, .int .u8 0, .agg [.bool false, .int .u16 0, .int .u32 0, .agg [.int .u16 0, .int .u8 0], .str ⟨#[]⟩]]) := rfl
theorem Z51 : Z 51 = some (.nilfunc) := rfl
theorem Z52 : Z 52 = some (.nilfunc) := rfl
theorem Z53 : Z 53 = some (.nilfunc) := rfl
theorem Z54 : Z 54 = some (.agg [.nilptr, .nilptr, .nilptr, .str ⟨#[]⟩]) := rfl
theorem Z55 : Z 55 = some (.agg [.nilptr, .nilptr, .nilptr, .str ⟨#[]⟩]) := rfl
theorem Z56 : Z 56 = some (.agg []) := rfl
theorem Z57 : Z 57 = some (.agg [.agg []]) := rfl
theorem Z58 : Z 58 = some (.agg [.agg []]) := rfl
theorem Z59 : Z 59 = some (.nilfunc) := rfl
theorem bz7 : bldZ Try.prog Z 7 = some [.int .i64 0, .int .i64 0, .bool false, .int .u8 0] := by kernel_rfl
theorem bz8 : bldZ Try.prog Z 8 = some [.int .i64 0, .int .i64 0, .bool false, .int .u8 0] := by kernel_rfl
theorem bz13 : bldZ Try.prog Z 13 = some [.str ⟨#[]⟩, .int .u64 0] := by kernel_rfl
theorem bz14 : bldZ Try.prog Z 14 = some [.str ⟨#[]⟩, .int .u64 0] := by kernel_rfl
theorem bz18 : bldZ Try.prog Z 18 = some [.nilptr] := by kernel_rfl
theorem bz19 : bldZ Try.prog Z 19 = some [.nilptr] := by kernel_rfl
theorem el23 : elemS Try.prog Z 23 = some (.agg [.bool false, .int .u16 0, .int .u32 0, .agg [.int .u16 0, .int .u8 0], .str ⟨#[]⟩], 6) := by kernel_rfl
theorem em23 : elemM Try.prog Z 23 = some (.agg [.bool false, .int .u16 0, .int .u32 0, .agg [.int .u16 0, .int .u8 0], .str ⟨#[]⟩], 6, 32) := by kernel_rfl
theorem at23 : apT Try.prog Z 23 23 = some (6, 32) := by kernel_rfl
theorem bz24 : bldZ Try.prog Z 24 = some [.int .u64 0, .vsl [] 0] := by kernel_rfl
theorem bz25 : bldZ Try.prog Z 25 = some [.int .u64 0, .vsl [] 0] := by kernel_rfl
theorem bz28 : bldZ Try.prog Z 28 = some [.int .u16 0, .int .u8 0] := by kernel_rfl
theorem bz29 : bldZ Try.prog Z 29 = some [.int .u16 0, .int .u8 0] := by kernel_rfl
theorem bz30 : bldZ Try.prog Z 30 = some [.bool false, .int .u16 0, .int .u32 0, .agg [.int .u16 0, .int .u8 0], .str ⟨#[]⟩] := by kernel_rfl
theorem bz31 : bldZ Try.prog Z 31 = some [.bool false, .int .u16 0, .int .u32 0, .agg [.int .u16 0, .int .u8 0], .str ⟨#[]⟩] := by kernel_rfl
theorem el47 : elemS Try.prog Z 47 = some (.int .u8 0, 1) := by kernel_rfl
theorem em47 : elemM Try.prog Z 47 = some (.int .u8 0, 1, 1) := by kernel_rfl
theorem at47 : apT Try.prog Z 47 47 = some (1, 1) := by kernel_rfl
theorem bz49 : bldZ Try.prog Z 49 = some [.int .i64 0, .int .u8 0, .agg [.bool false, .int .u16 0, .int .u32 0, .agg [.int .u16 0, .int .u8 0], .str ⟨#[]⟩]] := by kernel_rfl
theorem bz50 : bldZ Try.prog Z 50 = some [.int .i64 0, .int .u8 0, .agg [.bool false, .int .u16 0, .int .u32 0, .agg [.int .u16 0, .int .u8 0], .str ⟨#[]⟩]] := by kernel_rfl
theorem bz54 : bldZ Try.prog Z 54 = some [.nilptr, .nilptr, .nilptr, .str ⟨#[]⟩] := by kernel_rfl
theorem bz55 : bldZ Try.prog Z 55 = some [.nilptr, .nilptr, .nilptr, .str ⟨#[]⟩] := by kernel_rfl
theorem bz57 : bldZ Try.prog Z 57 = some [.agg []] := by kernel_rfl
theorem bz58 : bldZ Try.prog Z 58 = some [.agg []] := by kernel_rfl
end Go.Proofs.Ytgcdbfeoadmmcaa
