/- Facts of this seat's types, by the kernel's own reckoning. -/
import Derived.Test.YtgcdbfeoadmmcaaF28
import Derived.Test.YtgcdbfeoadmmcaaProg
set_option linter.unusedVariables false
set_option linter.unusedSimpArgs false
namespace Go.Proofs.Ytgcdbfeoadmmcaa
open Go Go.RowKit

theorem mixed : Try.prog.follows .mixedOrders = true := by kernel_rfl
theorem sz3 : szOf Try.prog 3 = some 1 := by kernel_rfl
theorem ag3 : isAggT Try.prog 3 = some false := by kernel_rfl
theorem it3 : intT Try.prog 3 = some .i64 := by kernel_rfl
theorem sz4 : szOf Try.prog 4 = some 1 := by kernel_rfl
theorem ag4 : isAggT Try.prog 4 = some false := by kernel_rfl
theorem sz5 : szOf Try.prog 5 = some 1 := by kernel_rfl
theorem ag5 : isAggT Try.prog 5 = some false := by kernel_rfl
theorem it5 : intT Try.prog 5 = some .u8 := by kernel_rfl
theorem sz9 : szOf Try.prog 9 = some 1 := by kernel_rfl
theorem ag9 : isAggT Try.prog 9 = some false := by kernel_rfl
theorem ss9 : isStrT Try.prog 9 = true := by kernel_rfl
theorem sz22 : szOf Try.prog 22 = some 1 := by kernel_rfl
theorem ag22 : isAggT Try.prog 22 = some false := by kernel_rfl
theorem it22 : intT Try.prog 22 = some .u64 := by kernel_rfl
theorem sz23 : szOf Try.prog 23 = some 1 := by kernel_rfl
theorem ag23 : isAggT Try.prog 23 = some false := by kernel_rfl
theorem es23 : elS Try.prog 23 = some 6 := by kernel_rfl
theorem ap23 : isStrT Try.prog 23 = false := by kernel_rfl
theorem sz25 : szOf Try.prog 25 = some 2 := by kernel_rfl
theorem ag25 : isAggT Try.prog 25 = some true := by kernel_rfl
theorem fa25_0 : fAt Try.prog 25 0 = some 0 := by kernel_rfl
theorem pl25_0 : placeAt Try.prog 25 0 = some (0, 1) := by kernel_rfl
theorem fa25_1 : fAt Try.prog 25 1 = some 1 := by kernel_rfl
theorem pl25_1 : placeAt Try.prog 25 1 = some (1, 1) := by kernel_rfl
theorem sz26 : szOf Try.prog 26 = some 1 := by kernel_rfl
theorem ag26 : isAggT Try.prog 26 = some false := by kernel_rfl
theorem it26 : intT Try.prog 26 = some .u16 := by kernel_rfl
theorem sz27 : szOf Try.prog 27 = some 1 := by kernel_rfl
theorem ag27 : isAggT Try.prog 27 = some false := by kernel_rfl
theorem it27 : intT Try.prog 27 = some .u32 := by kernel_rfl
theorem sz29 : szOf Try.prog 29 = some 2 := by kernel_rfl
theorem ag29 : isAggT Try.prog 29 = some true := by kernel_rfl
theorem fa29_0 : fAt Try.prog 29 0 = some 0 := by kernel_rfl
theorem pl29_0 : placeAt Try.prog 29 0 = some (0, 1) := by kernel_rfl
theorem fa29_1 : fAt Try.prog 29 1 = some 1 := by kernel_rfl
theorem pl29_1 : placeAt Try.prog 29 1 = some (1, 1) := by kernel_rfl
theorem fk29 : flatKinds Try.prog 40 29 = some [.i, .i] := by kernel_rfl
theorem eg29 : Try.prog.eqGuardType Try.prog.depth 29 = false := by kernel_rfl
theorem sz31 : szOf Try.prog 31 = some 6 := by kernel_rfl
theorem ag31 : isAggT Try.prog 31 = some true := by kernel_rfl
theorem fa31_0 : fAt Try.prog 31 0 = some 0 := by kernel_rfl
theorem pl31_0 : placeAt Try.prog 31 0 = some (0, 1) := by kernel_rfl
theorem fa31_1 : fAt Try.prog 31 1 = some 1 := by kernel_rfl
theorem pl31_1 : placeAt Try.prog 31 1 = some (1, 1) := by kernel_rfl
theorem fa31_2 : fAt Try.prog 31 2 = some 2 := by kernel_rfl
theorem pl31_2 : placeAt Try.prog 31 2 = some (2, 1) := by kernel_rfl
theorem fa31_3 : fAt Try.prog 31 3 = some 3 := by kernel_rfl
theorem pl31_3 : placeAt Try.prog 31 3 = some (3, 2) := by kernel_rfl
theorem fa31_4 : fAt Try.prog 31 4 = some 5 := by kernel_rfl
theorem pl31_4 : placeAt Try.prog 31 4 = some (5, 1) := by kernel_rfl
theorem fk31 : flatKinds Try.prog 40 31 = some [.b, .i, .i, .i, .i, .s] := by kernel_rfl
theorem eg31 : Try.prog.eqGuardType Try.prog.depth 31 = false := by kernel_rfl
theorem sz33 : szOf Try.prog 33 = some 1 := by kernel_rfl
theorem ag33 : isAggT Try.prog 33 = some false := by kernel_rfl
theorem it33 : intT Try.prog 33 = some .i64 := by kernel_rfl
theorem sz47 : szOf Try.prog 47 = some 1 := by kernel_rfl
theorem ag47 : isAggT Try.prog 47 = some false := by kernel_rfl
theorem es47 : elS Try.prog 47 = some 1 := by kernel_rfl
theorem ap47 : isStrT Try.prog 47 = false := by kernel_rfl
theorem by47 : isByT Try.prog 47 = true := by kernel_rfl
theorem sz50 : szOf Try.prog 50 = some 8 := by kernel_rfl
theorem ag50 : isAggT Try.prog 50 = some true := by kernel_rfl
theorem fa50_0 : fAt Try.prog 50 0 = some 0 := by kernel_rfl
theorem pl50_0 : placeAt Try.prog 50 0 = some (0, 1) := by kernel_rfl
theorem fa50_1 : fAt Try.prog 50 1 = some 1 := by kernel_rfl
theorem pl50_1 : placeAt Try.prog 50 1 = some (1, 1) := by kernel_rfl
theorem fa50_2 : fAt Try.prog 50 2 = some 2 := by kernel_rfl
theorem pl50_2 : placeAt Try.prog 50 2 = some (2, 6) := by kernel_rfl
theorem fk50 : flatKinds Try.prog 40 50 = some [.i, .i, .b, .i, .i, .i, .i, .s] := by kernel_rfl
theorem eg50 : Try.prog.eqGuardType Try.prog.depth 50 = false := by kernel_rfl
def Z : TypeId → Option AV
  | 3 => some (.int .i64 0)
  | 4 => some (.bool false)
  | 5 => some (.int .u8 0)
  | 9 => some (.str ⟨#[]⟩)
  | 22 => some (.int .u64 0)
  | 23 => some (.vsl [] 0)
  | 25 => some (.agg [.int .u64 0, .vsl [] 0])
  | 26 => some (.int .u16 0)
  | 27 => some (.int .u32 0)
  | 29 => some (.agg [.int .u16 0, .int .u8 0])
  | 31 => some (.agg [.bool false, .int .u16 0, .int .u32 0, .agg [.int .u16 0, .int .u8 0], .str ⟨#[]⟩])
  | 33 => some (.int .i64 0)
  | 47 => some (.vsl [] 0)
  | 50 => some (.agg [.int .i64 0, .int .u8 0, .agg [.bool false, .int .u16 0, .int .u32 0, .agg [.int .u16 0, .int .u8 0], .str ⟨#[]⟩]])
  | _ => none
theorem hZ : ∀ T z, Z T = some z → ZeroIs Try.prog T z := by
  intro T z h
  unfold Z at h
  split at h <;> simp only [Option.some.injEq, reduceCtorEq] at h <;> subst h
  · exact ZeroIs.one' (c := .int .i64 0) (by kernel_rfl) rfl
  · exact ZeroIs.one' (c := .bool false) (by kernel_rfl) rfl
  · exact ZeroIs.one' (c := .int .u8 0) (by kernel_rfl) rfl
  · exact ZeroIs.one' (c := .string ⟨#[]⟩) (by kernel_rfl) rfl
  · exact ZeroIs.one' (c := .int .u64 0) (by kernel_rfl) rfl
  · exact ZeroIs.one' (c := .slice none 0 0) (by kernel_rfl) rfl
  · exact ZeroIs.agg' (cs := #[.int .u64 0, .slice none 0 0]) (by kernel_rfl) rfl
  · exact ZeroIs.one' (c := .int .u16 0) (by kernel_rfl) rfl
  · exact ZeroIs.one' (c := .int .u32 0) (by kernel_rfl) rfl
  · exact ZeroIs.agg' (cs := #[.int .u16 0, .int .u8 0]) (by kernel_rfl) rfl
  · exact ZeroIs.agg' (cs := #[.bool false, .int .u16 0, .int .u32 0, .int .u16 0, .int .u8 0, .string ⟨#[]⟩]) (by kernel_rfl) rfl
  · exact ZeroIs.one' (c := .int .i64 0) (by kernel_rfl) rfl
  · exact ZeroIs.one' (c := .slice none 0 0) (by kernel_rfl) rfl
  · exact ZeroIs.agg' (cs := #[.int .i64 0, .int .u8 0, .bool false, .int .u16 0, .int .u32 0, .int .u16 0, .int .u8 0, .string ⟨#[]⟩]) (by kernel_rfl) rfl
theorem Z3 : Z 3 = some (.int .i64 0) := rfl
theorem Z4 : Z 4 = some (.bool false) := rfl
theorem Z5 : Z 5 = some (.int .u8 0) := rfl
theorem Z9 : Z 9 = some (.str ⟨#[]⟩) := rfl
theorem Z22 : Z 22 = some (.int .u64 0) := rfl
theorem Z23 : Z 23 = some (.vsl [] 0) := rfl
theorem Z25 : Z 25 = some (.agg [.int .u64 0, .vsl [] 0]) := rfl
theorem Z26 : Z 26 = some (.int .u16 0) := rfl
theorem Z27 : Z 27 = some (.int .u32 0) := rfl
theorem Z29 : Z 29 = some (.agg [.int .u16 0, .int .u8 0]) := rfl
theorem Z31 : Z 31 = some (.agg [.bool false, .int .u16 0, .int .u32 0, .agg [.int .u16 0, .int .u8 0], .str ⟨#[]⟩]) := rfl
theorem Z33 : Z 33 = some (.int .i64 0) := rfl
theorem Z47 : Z 47 = some (.vsl [] 0) := rfl
theorem Z50 : Z 50 = some (.agg [.int .i64 0, .int .u8 0, .agg [.bool false, .int .u16 0, .int .u32 0, .agg [.int .u16 0, .int .u8 0], .str ⟨#[]⟩]]) := rfl
theorem el23 : elemS Try.prog Z 23 = some (.agg [.bool false, .int .u16 0, .int .u32 0, .agg [.int .u16 0, .int .u8 0], .str ⟨#[]⟩], 6) := by kernel_rfl
theorem em23 : elemM Try.prog Z 23 = some (.agg [.bool false, .int .u16 0, .int .u32 0, .agg [.int .u16 0, .int .u8 0], .str ⟨#[]⟩], 6, 32) := by kernel_rfl
theorem at23 : apT Try.prog Z 23 23 = some (6, 32) := by kernel_rfl
theorem bz25 : bldZ Try.prog Z 25 = some [.int .u64 0, .vsl [] 0] := by kernel_rfl
theorem bz29 : bldZ Try.prog Z 29 = some [.int .u16 0, .int .u8 0] := by kernel_rfl
theorem bz31 : bldZ Try.prog Z 31 = some [.bool false, .int .u16 0, .int .u32 0, .agg [.int .u16 0, .int .u8 0], .str ⟨#[]⟩] := by kernel_rfl
theorem el47 : elemS Try.prog Z 47 = some (.int .u8 0, 1) := by kernel_rfl
theorem em47 : elemM Try.prog Z 47 = some (.int .u8 0, 1, 1) := by kernel_rfl
theorem at47 : apT Try.prog Z 47 47 = some (1, 1) := by kernel_rfl
theorem bz50 : bldZ Try.prog Z 50 = some [.int .i64 0, .int .u8 0, .agg [.bool false, .int .u16 0, .int .u32 0, .agg [.int .u16 0, .int .u8 0], .str ⟨#[]⟩]] := by kernel_rfl
end Go.Proofs.Ytgcdbfeoadmmcaa
