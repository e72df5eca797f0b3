/- Facts of this seat's types, by the kernel's own reckoning. -/
import Derived.Test.YtbhhbadeabhfcaaM4
import Derived.Test.YtbhhbadeabhfcaaProg
set_option linter.unusedVariables false
set_option linter.unusedSimpArgs false
namespace Go.Proofs.Ytbhhbadeabhfcaa
open Go Go.RowKit

theorem mixed : Try.prog.follows .mixedOrders = true := by kernel_rfl
theorem sz3 : szOf Try.prog 3 = some 1 := by kernel_rfl
theorem ag3 : isAggT Try.prog 3 = some false := by kernel_rfl
theorem it3 : intT Try.prog 3 = some .i64 := by kernel_rfl
theorem sz4 : szOf Try.prog 4 = some 1 := by kernel_rfl
theorem ag4 : isAggT Try.prog 4 = some false := by kernel_rfl
theorem sz5 : szOf Try.prog 5 = some 1 := by kernel_rfl
theorem ag5 : isAggT Try.prog 5 = some false := by kernel_rfl
theorem it5 : intT Try.prog 5 = some .u8 := by kernel_rfl
theorem sz9 : szOf Try.prog 9 = some 1 := by kernel_rfl
theorem ag9 : isAggT Try.prog 9 = some false := by kernel_rfl
theorem ss9 : isStrT Try.prog 9 = true := by kernel_rfl
theorem sz22 : szOf Try.prog 22 = some 1 := by kernel_rfl
theorem ag22 : isAggT Try.prog 22 = some false := by kernel_rfl
theorem it22 : intT Try.prog 22 = some .u32 := by kernel_rfl
theorem sz23 : szOf Try.prog 23 = some 1 := by kernel_rfl
theorem ag23 : isAggT Try.prog 23 = some false := by kernel_rfl
theorem it23 : intT Try.prog 23 = some .u64 := by kernel_rfl
theorem sz25 : szOf Try.prog 25 = some 4 := by kernel_rfl
theorem ag25 : isAggT Try.prog 25 = some true := by kernel_rfl
theorem ft25_0 : fldT Try.prog 25 0 = some (0, 22) := by kernel_rfl
theorem fa25_0 : fAt Try.prog 25 0 = some 0 := by kernel_rfl
theorem pl25_0 : placeAt Try.prog 25 0 = some (0, 1) := by kernel_rfl
theorem ft25_1 : fldT Try.prog 25 1 = some (1, 22) := by kernel_rfl
theorem fa25_1 : fAt Try.prog 25 1 = some 1 := by kernel_rfl
theorem pl25_1 : placeAt Try.prog 25 1 = some (1, 1) := by kernel_rfl
theorem ft25_2 : fldT Try.prog 25 2 = some (2, 23) := by kernel_rfl
theorem fa25_2 : fAt Try.prog 25 2 = some 2 := by kernel_rfl
theorem pl25_2 : placeAt Try.prog 25 2 = some (2, 1) := by kernel_rfl
theorem ft25_3 : fldT Try.prog 25 3 = some (3, 9) := by kernel_rfl
theorem fa25_3 : fAt Try.prog 25 3 = some 3 := by kernel_rfl
theorem pl25_3 : placeAt Try.prog 25 3 = some (3, 1) := by kernel_rfl
theorem fk25 : flatKinds Try.prog 40 25 = some [.i, .i, .i, .s] := by kernel_rfl
theorem eg25 : Try.prog.eqGuardType Try.prog.depth 25 = false := by kernel_rfl
theorem sz26 : szOf Try.prog 26 = some 256 := by kernel_rfl
theorem ag26 : isAggT Try.prog 26 = some true := by kernel_rfl
theorem ea26 : elA Try.prog 26 = some (256, 1) := by kernel_rfl
theorem fk26 : flatKinds Try.prog 40 26 = some (kreps 256) := by kernel_rfl
theorem eg26 : Try.prog.eqGuardType Try.prog.depth 26 = false := by kernel_rfl
theorem sz27 : szOf Try.prog 27 = some 256 := by kernel_rfl
theorem ag27 : isAggT Try.prog 27 = some true := by kernel_rfl
theorem ea27 : elA Try.prog 27 = some (256, 1) := by kernel_rfl
theorem fk27 : flatKinds Try.prog 40 27 = some (kreps 256) := by kernel_rfl
theorem eg27 : Try.prog.eqGuardType Try.prog.depth 27 = false := by kernel_rfl
theorem sz28 : szOf Try.prog 28 = some 1 := by kernel_rfl
theorem ag28 : isAggT Try.prog 28 = some false := by kernel_rfl
theorem it28 : intT Try.prog 28 = some .i64 := by kernel_rfl
theorem sz37 : szOf Try.prog 37 = some 1 := by kernel_rfl
theorem ag37 : isAggT Try.prog 37 = some false := by kernel_rfl
theorem es37 : elS Try.prog 37 = some 2 := by kernel_rfl
theorem ap37 : isStrT Try.prog 37 = false := by kernel_rfl
theorem sz42 : szOf Try.prog 42 = some 2 := by kernel_rfl
theorem ag42 : isAggT Try.prog 42 = some true := by kernel_rfl
theorem ft42_0 : fldT Try.prog 42 0 = some (0, 22) := by kernel_rfl
theorem fa42_0 : fAt Try.prog 42 0 = some 0 := by kernel_rfl
theorem pl42_0 : placeAt Try.prog 42 0 = some (0, 1) := by kernel_rfl
theorem ft42_1 : fldT Try.prog 42 1 = some (1, 23) := by kernel_rfl
theorem fa42_1 : fAt Try.prog 42 1 = some 1 := by kernel_rfl
theorem pl42_1 : placeAt Try.prog 42 1 = some (1, 1) := by kernel_rfl
theorem fk42 : flatKinds Try.prog 40 42 = some [.i, .i] := by kernel_rfl
theorem eg42 : Try.prog.eqGuardType Try.prog.depth 42 = false := by kernel_rfl
theorem sz45 : szOf Try.prog 45 = some 64 := by kernel_rfl
theorem ag45 : isAggT Try.prog 45 = some true := by kernel_rfl
theorem ea45 : elA Try.prog 45 = some (64, 1) := by kernel_rfl
theorem fk45 : flatKinds Try.prog 40 45 = some (kreps 64) := by kernel_rfl
theorem eg45 : Try.prog.eqGuardType Try.prog.depth 45 = false := by kernel_rfl
theorem sz46 : szOf Try.prog 46 = some 64 := by kernel_rfl
theorem ag46 : isAggT Try.prog 46 = some true := by kernel_rfl
theorem ea46 : elA Try.prog 46 = some (64, 1) := by kernel_rfl
theorem fk46 : flatKinds Try.prog 40 46 = some (kreps 64) := by kernel_rfl
theorem eg46 : Try.prog.eqGuardType Try.prog.depth 46 = false := by kernel_rfl
theorem sz51 : szOf Try.prog 51 = some 1 := by kernel_rfl
theorem ag51 : isAggT Try.prog 51 = some false := by kernel_rfl
theorem es51 : elS Try.prog 51 = some 4 := by kernel_rfl
theorem ap51 : isStrT Try.prog 51 = false := by kernel_rfl
theorem sz56 : szOf Try.prog 56 = some 1 := by kernel_rfl
theorem ag56 : isAggT Try.prog 56 = some false := by kernel_rfl
theorem es56 : elS Try.prog 56 = some 2 := by kernel_rfl
theorem ap56 : isStrT Try.prog 56 = false := by kernel_rfl
theorem sz61 : szOf Try.prog 61 = some 1 := by kernel_rfl
theorem ag61 : isAggT Try.prog 61 = some false := by kernel_rfl
theorem es61 : elS Try.prog 61 = some 1 := by kernel_rfl
theorem ap61 : isStrT Try.prog 61 = false := by kernel_rfl
theorem sz62 : szOf Try.prog 62 = some 1 := by kernel_rfl
theorem ag62 : isAggT Try.prog 62 = some false := by kernel_rfl
theorem it62 : intT Try.prog 62 = some .u16 := by kernel_rfl
theorem sz64 : szOf Try.prog 64 = some 2 := by kernel_rfl
theorem ag64 : isAggT Try.prog 64 = some true := by kernel_rfl
theorem ft64_0 : fldT Try.prog 64 0 = some (0, 23) := by kernel_rfl
theorem fa64_0 : fAt Try.prog 64 0 = some 0 := by kernel_rfl
theorem pl64_0 : placeAt Try.prog 64 0 = some (0, 1) := by kernel_rfl
theorem ft64_1 : fldT Try.prog 64 1 = some (1, 9) := by kernel_rfl
theorem fa64_1 : fAt Try.prog 64 1 = some 1 := by kernel_rfl
theorem pl64_1 : placeAt Try.prog 64 1 = some (1, 1) := by kernel_rfl
theorem fk64 : flatKinds Try.prog 40 64 = some [.i, .s] := by kernel_rfl
theorem eg64 : Try.prog.eqGuardType Try.prog.depth 64 = false := by kernel_rfl
theorem sz66 : szOf Try.prog 66 = some 224 := by kernel_rfl
theorem ag66 : isAggT Try.prog 66 = some true := by kernel_rfl
theorem ea66 : elA Try.prog 66 = some (224, 1) := by kernel_rfl
theorem fk66 : flatKinds Try.prog 40 66 = some (kreps 224) := by kernel_rfl
theorem eg66 : Try.prog.eqGuardType Try.prog.depth 66 = false := by kernel_rfl
theorem sz67 : szOf Try.prog 67 = some 224 := by kernel_rfl
theorem ag67 : isAggT Try.prog 67 = some true := by kernel_rfl
theorem ea67 : elA Try.prog 67 = some (224, 1) := by kernel_rfl
theorem fk67 : flatKinds Try.prog 40 67 = some (kreps 224) := by kernel_rfl
theorem eg67 : Try.prog.eqGuardType Try.prog.depth 67 = false := by kernel_rfl
theorem sz68 : szOf Try.prog 68 = some 1 := by kernel_rfl
theorem ag68 : isAggT Try.prog 68 = some false := by kernel_rfl
theorem es68 : elS Try.prog 68 = some 1 := by kernel_rfl
theorem ap68 : isStrT Try.prog 68 = false := by kernel_rfl
theorem by68 : isByT Try.prog 68 = true := by kernel_rfl
def Z : TypeId → Option AV
  | 3 => some (.int .i64 0)
  | 4 => some (.bool false)
  | 5 => some (.int .u8 0)
  | 9 => some (.str ⟨#[]⟩)
  | 22 => some (.int .u32 0)
  | 23 => some (.int .u64 0)
  | 25 => some (.agg [.int .u32 0, .int .u32 0, .int .u64 0, .str ⟨#[]⟩])
  | 26 => some (.agg (bytesAV (zb 256)))
  | 27 => some (.agg (bytesAV (zb 256)))
  | 28 => some (.int .i64 0)
  | 37 => some (.vsl [] 0)
  | 42 => some (.agg [.int .u32 0, .int .u64 0])
  | 45 => some (.agg (bytesAV (zb 64)))
  | 46 => some (.agg (bytesAV (zb 64)))
  | 51 => some (.vsl [] 0)
  | 56 => some (.vsl [] 0)
  | 61 => some (.vsl [] 0)
  | 62 => some (.int .u16 0)
  | 64 => some (.agg [.int .u64 0, .str ⟨#[]⟩])
  | 66 => some (.agg (bytesAV (zb 224)))
  | 67 => some (.agg (bytesAV (zb 224)))
  | 68 => some (.vsl [] 0)
  | _ => none
theorem hZ : ∀ T z, Z T = some z → ZeroIs Try.prog T z := by
  intro T z h
  unfold Z at h
  split at h <;> simp only [Option.some.injEq, reduceCtorEq] at h <;> subst h
  · exact ZeroIs.one' (c := .int .i64 0) (by kernel_rfl) rfl
  · exact ZeroIs.one' (c := .bool false) (by kernel_rfl) rfl
  · exact ZeroIs.one' (c := .int .u8 0) (by kernel_rfl) rfl
  · exact ZeroIs.one' (c := .string ⟨#[]⟩) (by kernel_rfl) rfl
  · exact ZeroIs.one' (c := .int .u32 0) (by kernel_rfl) rfl
  · exact ZeroIs.one' (c := .int .u64 0) (by kernel_rfl) rfl
  · exact ZeroIs.agg' (cs := #[.int .u32 0, .int .u32 0, .int .u64 0, .string ⟨#[]⟩]) (by kernel_rfl) rfl
  · exact ZeroIs.agg' (cs := #[.int .u8 0, .int .u8 0, .int .u8 0, .int .u8 0, .int .u8 0, .int .u8 0, .int .u8 0, .int .u8 0, .int .u8 0, .int .u8 0, .int .u8 0, .int .u8 0, .int .u8 0, .int .u8 0, .int .u8 0, .int .u8 0, .int .u8 0, .int .u8 0, .int .u8 0, .int .u8 0, .int .u8 0, .int .u8 0, .int .u8 0, .int .u8 0, .int .u8 0, .int .u8 0, .int .u8 0, .int .u8 0, .int .u8 0, .int .u8 0, .int .u8 0, .int .u8 0, .int .u8 0, .int .u8 0, .int .u8 0, .int .u8 0, .int .u8 0, .int .u8 0, .int .u8 0, .int .u8 0, .int .u8 0, .int .u8 0, .int .u8 0, .int .u8 0, .int .u8 0, .int .u8 0, .int .u8 0, .int .u8 0, .int .u8 0, .int .u8 0, .int .u8 0, .int .u8 0, .int .u8 0, .int .u8 0, .int .u8 0, .int .u8 0, .int .u8 0, .int .u8 0, .int .u8 0, .int .u8 0, .int .u8 0, .int .u8 0, .int .u8 0, .int .u8 0, .int .u8 0, .int .u8 0, .int .u8 0, .int .u8 0, .int .u8 0, .int .u8 0, .int .u8 0, .int .u8 0, .int .u8 0, .int .u8 0, .int .u8 0, .int .u8 0, .int .u8 0, .int .u8 0, .int .u8 0, .int .u8 0, .int .u8 0, .int .u8 0, .int .u8 0, .int .u8 0, .int .u8 0, .int .u8 0, .int .u8 0, .int .u8 0, .int .u8 0, .int .u8 0, .int .u8 0, .int .u8 0, .int .u8 0, .int .u8 0, .int .u8 0, .int .u8 0, .int .u8 0, .int .u8 0, .int .u8 0, .int .u8 0, .int .u8 0, .int .u8 0, .int .u8 0, .int .u8 0, .int .u8 0, .int .u8 0, .int .u8 0, .int .u8 0, .int .u8 0, .int .u8 0, .int .u8 0, .int .u8 0, .int .u8 0, .int .u8 0, .int .u8 0, .int .u8 0, .int .u8 0, .int .u8 0, .int .u8 0, .int .u8 0, .int .u8 0, .int .u8 0, .int .u8 0, .int .u8 0, .int .u8 0, .int .u8 0, .int .u8 0, .int .u8 0, .int .u8 0, .int .u8 0, .int .u8 0, .int .u8 0, .int .u8 0, .int .u8 0, .int .u8 0, .int .u8 0, .int .u8 0, .int .u8 0, .int .u8 0, .int .u8 0, .int .u8 0, .int .u8 0, .int .u8 0, .int .u8 0, .int .u8 0, .int .u8 0, .int .u8 0, .int .u8 0, .int .u8 0, .int .u8 0, .int .u8 0, .int .u8 0, .int .u8 0, .int .u8 0, .int .u8 0, .int .u8 0, .int .u8 0, .int .u8 0, .int .u8 0, .int .u8 0, .int .u8 0, .int .u8 0, .int .u8 0, .int .u8 0, .int .u8 0, .int .u8 0, .int .u8 0, .int .u8 0, .int .u8 0, .int .u8 0, .int .u8 0, .int .u8 0, .int .u8 0, .int .u8 0, .int .u8 0, .int .u8 0, .int .u8 0, .int .u8 0, .int .u8 0, .int .u8 0, .int .u8 0, .int .u8 0, .int .u8 0, .int .u8 0, .int .u8 0, .int .u8 0, .int .u8 0, .int .u8 0, .int .u8 0, .int .u8 0, .int .u8 0, .int .u8 0, .int .u8 0, .int .u8 0, .int .u8 0, .int .u8 0, .int .u8 0, .int .u8 0, .int .u8 0, .int .u8 0, .int .u8 0, .int .u8 0, .int .u8 0, .int .u8 0, .int .u8 0, .int .u8 0, .int .u8 0, .int .u8 0, .int .u8 0, .int .u8 0, .int .u8 0, .int .u8 0, .int .u8 0, .int .u8 0, .int .u8 0, .int .u8 0, .int .u8 0, .int .u8 0, .int .u8 0, .int .u8 0, .int .u8 0, .int .u8 0, .int .u8 0, .int .u8 0, .int .u8 0, .int .u8 0, .int .u8 0, .int .u8 0, .int .u8 0, .int .u8 0, .int .u8 0, .int .u8 0, .int .u8 0, .int .u8 0, .int .u8 0, .int .u8 0, .int .u8 0, .int .u8 0, .int .u8 0, .int .u8 0, .int .u8 0, .int .u8 0, .int .u8 0, .int .u8 0, .int .u8 0, .int .u8 0, .int .u8 0, .int .u8 0, .int .u8 0, .int .u8 0, .int .u8 0, .int .u8 0, .int .u8 0, .int .u8 0, .int .u8 0, .int .u8 0]) (by kernel_rfl) (by kernel_rfl)
  · exact ZeroIs.agg' (cs := #[.int .u8 0, .int .u8 0, .int .u8 0, .int .u8 0, .int .u8 0, .int .u8 0, .int .u8 0, .int .u8 0, .int .u8 0, .int .u8 0, .int .u8 0, .int .u8 0, .int .u8 0, .int .u8 0, .int .u8 0, .int .u8 0, .int .u8 0, .int .u8 0, .int .u8 0, .int .u8 0, .int .u8 0, .int .u8 0, .int .u8 0, .int .u8 0, .int .u8 0, .int .u8 0, .int .u8 0, .int .u8 0, .int .u8 0, .int .u8 0, .int .u8 0, .int .u8 0, .int .u8 0, .int .u8 0, .int .u8 0, .int .u8 0, .int .u8 0, .int .u8 0, .int .u8 0, .int .u8 0, .int .u8 0, .int .u8 0, .int .u8 0, .int .u8 0, .int .u8 0, .int .u8 0, .int .u8 0, .int .u8 0, .int .u8 0, .int .u8 0, .int .u8 0, .int .u8 0, .int .u8 0, .int .u8 0, .int .u8 0, .int .u8 0, .int .u8 0, .int .u8 0, .int .u8 0, .int .u8 0, .int .u8 0, .int .u8 0, .int .u8 0, .int .u8 0, .int .u8 0, .int .u8 0, .int .u8 0, .int .u8 0, .int .u8 0, .int .u8 0, .int .u8 0, .int .u8 0, .int .u8 0, .int .u8 0, .int .u8 0, .int .u8 0, .int .u8 0, .int .u8 0, .int .u8 0, .int .u8 0, .int .u8 0, .int .u8 0, .int .u8 0, .int .u8 0, .int .u8 0, .int .u8 0, .int .u8 0, .int .u8 0, .int .u8 0, .int .u8 0, .int .u8 0, .int .u8 0, .int .u8 0, .int .u8 0, .int .u8 0, .int .u8 0, .int .u8 0, .int .u8 0, .int .u8 0, .int .u8 0, .int .u8 0, .int .u8 0, .int .u8 0, .int .u8 0, .int .u8 0, .int .u8 0, .int .u8 0, .int .u8 0, .int .u8 0, .int .u8 0, .int .u8 0, .int .u8 0, .int .u8 0, .int .u8 0, .int .u8 0, .int .u8 0, .int .u8 0, .int .u8 0, .int .u8 0, .int .u8 0, .int .u8 0, .int .u8 0, .int .u8 0, .int .u8 0, .int .u8 0, .int .u8 0, .int .u8 0, .int .u8 0, .int .u8 0, .int .u8 0, .int .u8 0, .int .u8 0, .int .u8 0, .int .u8 0, .int .u8 0, .int .u8 0, .int .u8 0, .int .u8 0, .int .u8 0, .int .u8 0, .int .u8 0, .int .u8 0, .int .u8 0, .int .u8 0, .int .u8 0, .int .u8 0, .int .u8 0, .int .u8 0, .int .u8 0, .int .u8 0, .int .u8 0, .int .u8 0, .int .u8 0, .int .u8 0, .int .u8 0, .int .u8 0, .int .u8 0, .int .u8 0, .int .u8 0, .int .u8 0, .int .u8 0, .int .u8 0, .int .u8 0, .int .u8 0, .int .u8 0, .int .u8 0, .int .u8 0, .int .u8 0, .int .u8 0, .int .u8 0, .int .u8 0, .int .u8 0, .int .u8 0, .int .u8 0, .int .u8 0, .int .u8 0, .int .u8 0, .int .u8 0, .int .u8 0, .int .u8 0, .int .u8 0, .int .u8 0, .int .u8 0, .int .u8 0, .int .u8 0, .int .u8 0, .int .u8 0, .int .u8 0, .int .u8 0, .int .u8 0, .int .u8 0, .int .u8 0, .int .u8 0, .int .u8 0, .int .u8 0, .int .u8 0, .int .u8 0, .int .u8 0, .int .u8 0, .int .u8 0, .int .u8 0, .int .u8 0, .int .u8 0, .int .u8 0, .int .u8 0, .int .u8 0, .int .u8 0, .int .u8 0, .int .u8 0, .int .u8 0, .int .u8 0, .int .u8 0, .int .u8 0, .int .u8 0, .int .u8 0, .int .u8 0, .int .u8 0, .int .u8 0, .int .u8 0, .int .u8 0, .int .u8 0, .int .u8 0, .int .u8 0, .int .u8 0, .int .u8 0, .int .u8 0, .int .u8 0, .int .u8 0, .int .u8 0, .int .u8 0, .int .u8 0, .int .u8 0, .int .u8 0, .int .u8 0, .int .u8 0, .int .u8 0, .int .u8 0, .int .u8 0, .int .u8 0, .int .u8 0, .int .u8 0, .int .u8 0, .int .u8 0, .int .u8 0, .int .u8 0, .int .u8 0, .int .u8 0, .int .u8 0, .int .u8 0, .int .u8 0, .int .u8 0, .int .u8 0, .int .u8 0, .int .u8 0, .int .u8 0, .int .u8 0]) (by kernel_rfl) (by kernel_rfl)
  · exact ZeroIs.one' (c := .int .i64 0) (by kernel_rfl) rfl
  · exact ZeroIs.one' (c := .slice none 0 0) (by kernel_rfl) rfl
  · exact ZeroIs.agg' (cs := #[.int .u32 0, .int .u64 0]) (by kernel_rfl) rfl
  · exact ZeroIs.agg' (cs := #[.int .u8 0, .int .u8 0, .int .u8 0, .int .u8 0, .int .u8 0, .int .u8 0, .int .u8 0, .int .u8 0, .int .u8 0, .int .u8 0, .int .u8 0, .int .u8 0, .int .u8 0, .int .u8 0, .int .u8 0, .int .u8 0, .int .u8 0, .int .u8 0, .int .u8 0, .int .u8 0, .int .u8 0, .int .u8 0, .int .u8 0, .int .u8 0, .int .u8 0, .int .u8 0, .int .u8 0, .int .u8 0, .int .u8 0, .int .u8 0, .int .u8 0, .int .u8 0, .int .u8 0, .int .u8 0, .int .u8 0, .int .u8 0, .int .u8 0, .int .u8 0, .int .u8 0, .int .u8 0, .int .u8 0, .int .u8 0, .int .u8 0, .int .u8 0, .int .u8 0, .int .u8 0, .int .u8 0, .int .u8 0, .int .u8 0, .int .u8 0, .int .u8 0, .int .u8 0, .int .u8 0, .int .u8 0, .int .u8 0, .int .u8 0, .int .u8 0, .int .u8 0, .int .u8 0, .int .u8 0, .int .u8 0, .int .u8 0, .int .u8 0, .int .u8 0]) (by kernel_rfl) (by kernel_rfl)
  · exact ZeroIs.agg' (cs := #[.int .u8 0, .int .u8 0, .int .u8 0, .int .u8 0, .int .u8 0, .int .u8 0, .int .u8 0, .int .u8 0, .int .u8 0, .int .u8 0, .int .u8 0, .int .u8 0, .int .u8 0, .int .u8 0, .int .u8 0, .int .u8 0, .int .u8 0, .int .u8 0, .int .u8 0, .int .u8 0, .int .u8 0, .int .u8 0, .int .u8 0, .int .u8 0, .int .u8 0, .int .u8 0, .int .u8 0, .int .u8 0, .int .u8 0, .int .u8 0, .int .u8 0, .int .u8 0, .int .u8 0, .int .u8 0, .int .u8 0, .int .u8 0, .int .u8 0, .int .u8 0, .int .u8 0, .int .u8 0, .int .u8 0, .int .u8 0, .int .u8 0, .int .u8 0, .int .u8 0, .int .u8 0, .int .u8 0, .int .u8 0, .int .u8 0, .int .u8 0, .int .u8 0, .int .u8 0, .int .u8 0, .int .u8 0, .int .u8 0, .int .u8 0, .int .u8 0, .int .u8 0, .int .u8 0, .int .u8 0, .int .u8 0, .int .u8 0, .int .u8 0, .int .u8 0]) (by kernel_rfl) (by kernel_rfl)
  · exact ZeroIs.one' (c := .slice none 0 0) (by kernel_rfl) rfl
  · exact ZeroIs.one' (c := .slice none 0 0) (by kernel_rfl) rfl
  · exact ZeroIs.one' (c := .slice none 0 0) (by kernel_rfl) rfl
  · exact ZeroIs.one' (c := .int .u16 0) (by kernel_rfl) rfl
  · exact ZeroIs.agg' (cs := #[.int .u64 0, .string ⟨#[]⟩]) (by kernel_rfl) rfl
  · exact ZeroIs.agg' (cs := #[.int .u8 0, .int .u8 0, .int .u8 0, .int .u8 0, .int .u8 0, .int .u8 0, .int .u8 0, .int .u8 0, .int .u8 0, .int .u8 0, .int .u8 0, .int .u8 0, .int .u8 0, .int .u8 0, .int .u8 0, .int .u8 0, .int .u8 0, .int .u8 0, .int .u8 0, .int .u8 0, .int .u8 0, .int .u8 0, .int .u8 0, .int .u8 0, .int .u8 0, .int .u8 0, .int .u8 0, .int .u8 0, .int .u8 0, .int .u8 0, .int .u8 0, .int .u8 0, .int .u8 0, .int .u8 0, .int .u8 0, .int .u8 0, .int .u8 0, .int .u8 0, .int .u8 0, .int .u8 0, .int .u8 0, .int .u8 0, .int .u8 0, .int .u8 0, .int .u8 0, .int .u8 0, .int .u8 0, .int .u8 0, .int .u8 0, .int .u8 0, .int .u8 0, .int .u8 0, .int .u8 0, .int .u8 0, .int .u8 0, .int .u8 0, .int .u8 0, .int .u8 0, .int .u8 0, .int .u8 0, .int .u8 0, .int .u8 0, .int .u8 0, .int .u8 0, .int .u8 0, .int .u8 0, .int .u8 0, .int .u8 0, .int .u8 0, .int .u8 0, .int .u8 0, .int .u8 0, .int .u8 0, .int .u8 0, .int .u8 0, .int .u8 0, .int .u8 0, .int .u8 0, .int .u8 0, .int .u8 0, .int .u8 0, .int .u8 0, .int .u8 0, .int .u8 0, .int .u8 0, .int .u8 0, .int .u8 0, .int .u8 0, .int .u8 0, .int .u8 0, .int .u8 0, .int .u8 0, .int .u8 0, .int .u8 0, .int .u8 0, .int .u8 0, .int .u8 0, .int .u8 0, .int .u8 0, .int .u8 0, .int .u8 0, .int .u8 0, .int .u8 0, .int .u8 0, .int .u8 0, .int .u8 0, .int .u8 0, .int .u8 0, .int .u8 0, .int .u8 0, .int .u8 0, .int .u8 0, .int .u8 0, .int .u8 0, .int .u8 0, .int .u8 0, .int .u8 0, .int .u8 0, .int .u8 0, .int .u8 0, .int .u8 0, .int .u8 0, .int .u8 0, .int .u8 0, .int .u8 0, .int .u8 0, .int .u8 0, .int .u8 0, .int .u8 0, .int .u8 0, .int .u8 0, .int .u8 0, .int .u8 0, .int .u8 0, .int .u8 0, .int .u8 0, .int .u8 0, .int .u8 0, .int .u8 0, .int .u8 0, .int .u8 0, .int .u8 0, .int .u8 0, .int .u8 0, .int .u8 0, .int .u8 0, .int .u8 0, .int .u8 0, .int .u8 0, .int .u8 0, .int .u8 0, .int .u8 0, .int .u8 0, .int .u8 0, .int .u8 0, .int .u8 0, .int .u8 0, .int .u8 0, .int .u8 0, .int .u8 0, .int .u8 0, .int .u8 0, .int .u8 0, .int .u8 0, .int .u8 0, .int .u8 0, .int .u8 0, .int .u8 0, .int .u8 0, .int .u8 0, .int .u8 0, .int .u8 0, .int .u8 0, .int .u8 0, .int .u8 0, .int .u8 0, .int .u8 0, .int .u8 0, .int .u8 0, .int .u8 0, .int .u8 0, .int .u8 0, .int .u8 0, .int .u8 0, .int .u8 0, .int .u8 0, .int .u8 0, .int .u8 0, .int .u8 0, .int .u8 0, .int .u8 0, .int .u8 0, .int .u8 0, .int .u8 0, .int .u8 0, .int .u8 0, .int .u8 0, .int .u8 0, .int .u8 0, .int .u8 0, .int .u8 0, .int .u8 0, .int .u8 0, .int .u8 0, .int .u8 0, .int .u8 0, .int .u8 0, .int .u8 0, .int .u8 0, .int .u8 0, .int .u8 0, .int .u8 0, .int .u8 0, .int .u8 0, .int .u8 0, .int .u8 0, .int .u8 0, .int .u8 0, .int .u8 0, .int .u8 0, .int .u8 0, .int .u8 0, .int .u8 0, .int .u8 0]) (by kernel_rfl) (by kernel_rfl)
  · exact ZeroIs.agg' (cs := #[.int .u8 0, .int .u8 0, .int .u8 0, .int .u8 0, .int .u8 0, .int .u8 0, .int .u8 0, .int .u8 0, .int .u8 0, .int .u8 0, .int .u8 0, .int .u8 0, .int .u8 0, .int .u8 0, .int .u8 0, .int .u8 0, .int .u8 0, .int .u8 0, .int .u8 0, .int .u8 0, .int .u8 0, .int .u8 0, .int .u8 0, .int .u8 0, .int .u8 0, .int .u8 0, .int .u8 0, .int .u8 0, .int .u8 0, .int .u8 0, .int .u8 0, .int .u8 0, .int .u8 0, .int .u8 0, .int .u8 0, .int .u8 0, .int .u8 0, .int .u8 0, .int .u8 0, .int .u8 0, .int .u8 0, .int .u8 0, .int .u8 0, .int .u8 0, .int .u8 0, .int .u8 0, .int .u8 0, .int .u8 0, .int .u8 0, .int .u8 0, .int .u8 0, .int .u8 0, .int .u8 0, .int .u8 0, .int .u8 0, .int .u8 0, .int .u8 0, .int .u8 0, .int .u8 0, .int .u8 0, .int .u8 0, .int .u8 0, .int .u8 0, .int .u8 0, .int .u8 0, .int .u8 0, .int .u8 0, .int .u8 0, .int .u8 0, .int .u8 0, .int .u8 0, .int .u8 0, .int .u8 0, .int .u8 0, .int .u8 0, .int .u8 0, .int .u8 0, .int .u8 0, .int .u8 0, .int .u8 0, .int .u8 0, .int .u8 0, .int .u8 0, .int .u8 0, .int .u8 0, .int .u8 0, .int .u8 0, .int .u8 0, .int .u8 0, .int .u8 0, .int .u8 0, .int .u8 0, .int .u8 0, .int .u8 0, .int .u8 0, .int .u8 0, .int .u8 0, .int .u8 0, .int .u8 0, .int .u8 0, .int .u8 0, .int .u8 0, .int .u8 0, .int .u8 0, .int .u8 0, .int .u8 0, .int .u8 0, .int .u8 0, .int .u8 0, .int .u8 0, .int .u8 0, .int .u8 0, .int .u8 0, .int .u8 0, .int .u8 0, .int .u8 0, .int .u8 0, .int .u8 0, .int .u8 0, .int .u8 0, .int .u8 0, .int .u8 0, .int .u8 0, .int .u8 0, .int .u8 0, .int .u8 0, .int .u8 0, .int .u8 0, .int .u8 0, .int .u8 0, .int .u8 0, .int .u8 0, .int .u8 0, .int .u8 0, .int .u8 0, .int .u8 0, .int .u8 0, .int .u8 0, .int .u8 0, .int .u8 0, .int .u8 0, .int .u8 0, .int .u8 0, .int .u8 0, .int .u8 0, .int .u8 0, .int .u8 0, .int .u8 0, .int .u8 0, .int .u8 0, .int .u8 0, .int .u8 0, .int .u8 0, .int .u8 0, .int .u8 0, .int .u8 0, .int .u8 0, .int .u8 0, .int .u8 0, .int .u8 0, .int .u8 0, .int .u8 0, .int .u8 0, .int .u8 0, .int .u8 0, .int .u8 0, .int .u8 0, .int .u8 0, .int .u8 0, .int .u8 0, .int .u8 0, .int .u8 0, .int .u8 0, .int .u8 0, .int .u8 0, .int .u8 0, .int .u8 0, .int .u8 0, .int .u8 0, .int .u8 0, .int .u8 0, .int .u8 0, .int .u8 0, .int .u8 0, .int .u8 0, .int .u8 0, .int .u8 0, .int .u8 0, .int .u8 0, .int .u8 0, .int .u8 0, .int .u8 0, .int .u8 0, .int .u8 0, .int .u8 0, .int .u8 0, .int .u8 0, .int .u8 0, .int .u8 0, .int .u8 0, .int .u8 0, .int .u8 0, .int .u8 0, .int .u8 0, .int .u8 0, .int .u8 0, .int .u8 0, .int .u8 0, .int .u8 0, .int .u8 0, .int .u8 0, .int .u8 0, .int .u8 0, .int .u8 0, .int .u8 0, .int .u8 0, .int .u8 0, .int .u8 0, .int .u8 0, .int .u8 0, .int .u8 0, .int .u8 0, .int .u8 0, .int .u8 0]) (by kernel_rfl) (by kernel_rfl)
  · exact ZeroIs.one' (c := .slice none 0 0) (by kernel_rfl) rfl
theorem Z3 : Z 3 = some (.int .i64 0) := rfl
theorem Z4 : Z 4 = some (.bool false) := rfl
theorem Z5 : Z 5 = some (.int .u8 0) := rfl
theorem Z9 : Z 9 = some (.str ⟨#[]⟩) := rfl
theorem Z22 : Z 22 = some (.int .u32 0) := rfl
theorem Z23 : Z 23 = some (.int .u64 0) := rfl
theorem Z25 : Z 25 = some (.agg [.int .u32 0, .int .u32 0, .int .u64 0, .str ⟨#[]⟩]) := rfl
theorem Z26 : Z 26 = some (.agg (bytesAV (zb 256))) := rfl
theorem Z27 : Z 27 = some (.agg (bytesAV (zb 256))) := rfl
theorem Z28 : Z 28 = some (.int .i64 0) := rfl
theorem Z37 : Z 37 = some (.vsl [] 0) := rfl
theorem Z42 : Z 42 = some (.agg [.int .u32 0, .int .u64 0]) := rfl
theorem Z45 : Z 45 = some (.agg (bytesAV (zb 64))) := rfl
theorem Z46 : Z 46 = some (.agg (bytesAV (zb 64))) := rfl
theorem Z51 : Z 51 = some (.vsl [] 0) := rfl
theorem Z56 : Z 56 = some (.vsl [] 0) := rfl
theorem Z61 : Z 61 = some (.vsl [] 0) := rfl
theorem Z62 : Z 62 = some (.int .u16 0) := rfl
theorem Z64 : Z 64 = some (.agg [.int .u64 0, .str ⟨#[]⟩]) := rfl
theorem Z66 : Z 66 = some (.agg (bytesAV (zb 224))) := rfl
theorem Z67 : Z 67 = some (.agg (bytesAV (zb 224))) := rfl
theorem Z68 : Z 68 = some (.vsl [] 0) := rfl
theorem bz25 : bldZ Try.prog Z 25 = some [.int .u32 0, .int .u32 0, .int .u64 0, .str ⟨#[]⟩] := by kernel_rfl
theorem bz26 : bldZ Try.prog Z 26 = some (bytesAV (zb 256)) := by kernel_rfl
theorem bz27 : bldZ Try.prog Z 27 = some (bytesAV (zb 256)) := by kernel_rfl
theorem el37 : elemS Try.prog Z 37 = some (.agg [.int .u32 0, .int .u64 0], 2) := by kernel_rfl
theorem em37 : elemM Try.prog Z 37 = some (.agg [.int .u32 0, .int .u64 0], 2, 16) := by kernel_rfl
theorem at37 : apT Try.prog Z 37 37 = some (2, 16) := by kernel_rfl
theorem bz42 : bldZ Try.prog Z 42 = some [.int .u32 0, .int .u64 0] := by kernel_rfl
theorem bz45 : bldZ Try.prog Z 45 = some (bytesAV (zb 64)) := by kernel_rfl
theorem bz46 : bldZ Try.prog Z 46 = some (bytesAV (zb 64)) := by kernel_rfl
theorem el51 : elemS Try.prog Z 51 = some (.agg [.int .u32 0, .int .u32 0, .int .u64 0, .str ⟨#[]⟩], 4) := by kernel_rfl
theorem em51 : elemM Try.prog Z 51 = some (.agg [.int .u32 0, .int .u32 0, .int .u64 0, .str ⟨#[]⟩], 4, 32) := by kernel_rfl
theorem at51 : apT Try.prog Z 51 51 = some (4, 32) := by kernel_rfl
theorem el56 : elemS Try.prog Z 56 = some (.agg [.int .u64 0, .str ⟨#[]⟩], 2) := by kernel_rfl
theorem em56 : elemM Try.prog Z 56 = some (.agg [.int .u64 0, .str ⟨#[]⟩], 2, 24) := by kernel_rfl
theorem at56 : apT Try.prog Z 56 56 = some (2, 24) := by kernel_rfl
theorem el61 : elemS Try.prog Z 61 = some (.str ⟨#[]⟩, 1) := by kernel_rfl
theorem em61 : elemM Try.prog Z 61 = some (.str ⟨#[]⟩, 1, 16) := by kernel_rfl
theorem at61 : apT Try.prog Z 61 61 = some (1, 16) := by kernel_rfl
theorem bz64 : bldZ Try.prog Z 64 = some [.int .u64 0, .str ⟨#[]⟩] := by kernel_rfl
theorem bz66 : bldZ Try.prog Z 66 = some (bytesAV (zb 224)) := by kernel_rfl
theorem bz67 : bldZ Try.prog Z 67 = some (bytesAV (zb 224)) := by kernel_rfl
theorem el68 : elemS Try.prog Z 68 = some (.int .u8 0, 1) := by kernel_rfl
theorem em68 : elemM Try.prog Z 68 = some (.int .u8 0, 1, 1) := by kernel_rfl
theorem at68 : apT Try.prog Z 68 68 = some (1, 1) := by kernel_rfl
theorem at68_9 : apT Try.prog Z 68 9 = some (1, 1) := by kernel_rfl
end Go.Proofs.Ytbhhbadeabhfcaa
