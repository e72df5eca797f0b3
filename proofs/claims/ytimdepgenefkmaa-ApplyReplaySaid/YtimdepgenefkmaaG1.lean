import Derived.Test.YtimdepgenefkmaaM4
import Derived.Test.YtimdepgenefkmaaProg
set_option linter.unusedVariables false
set_option linter.unusedSimpArgs false
namespace Go.Proofs.Ytimdepgenefkmaa
open Go Go.RowKit

theorem mixed : Try.prog.follows .mixedOrders = true := by kernel_rfl
theorem it3 : intT Try.prog 3 = some .i64 := by kernel_rfl
theorem sz4 : szOf Try.prog 4 = some 1 := by kernel_rfl
theorem ag4 : isAggT Try.prog 4 = some false := by kernel_rfl
theorem sz5 : szOf Try.prog 5 = some 1 := by kernel_rfl
theorem ag5 : isAggT Try.prog 5 = some false := by kernel_rfl
theorem it5 : intT Try.prog 5 = some .u8 := by kernel_rfl
theorem sz9 : szOf Try.prog 9 = some 1 := by kernel_rfl
theorem ag9 : isAggT Try.prog 9 = some false := by kernel_rfl
theorem ss9 : isStrT Try.prog 9 = true := by kernel_rfl
theorem sz22 : szOf Try.prog 22 = some 1 := by kernel_rfl
theorem ag22 : isAggT Try.prog 22 = some false := by kernel_rfl
theorem it22 : intT Try.prog 22 = some .u16 := by kernel_rfl
theorem sz24 : szOf Try.prog 24 = some 2 := by kernel_rfl
theorem ag24 : isAggT Try.prog 24 = some true := by kernel_rfl
theorem fa24_0 : fAt Try.prog 24 0 = some 0 := by kernel_rfl
theorem pl24_0 : placeAt Try.prog 24 0 = some (0, 1) := by kernel_rfl
theorem fa24_1 : fAt Try.prog 24 1 = some 1 := by kernel_rfl
theorem pl24_1 : placeAt Try.prog 24 1 = some (1, 1) := by kernel_rfl
theorem fk24 : flatKinds Try.prog 40 24 = some [.b, .i] := by kernel_rfl
theorem eg24 : Try.prog.eqGuardType Try.prog.depth 24 = false := by kernel_rfl
theorem sz26 : szOf Try.prog 26 = some 224 := by kernel_rfl
theorem ag26 : isAggT Try.prog 26 = some true := by kernel_rfl
theorem ea26 : elA Try.prog 26 = some (224, 1) := by kernel_rfl
theorem fk26 : flatKinds Try.prog 40 26 = some (kreps 224) := by kernel_rfl
theorem eg26 : Try.prog.eqGuardType Try.prog.depth 26 = false := by kernel_rfl
theorem sz27 : szOf Try.prog 27 = some 1 := by kernel_rfl
theorem ag27 : isAggT Try.prog 27 = some false := by kernel_rfl
theorem it27 : intT Try.prog 27 = some .u64 := by kernel_rfl
theorem sz28 : szOf Try.prog 28 = some 1 := by kernel_rfl
theorem ag28 : isAggT Try.prog 28 = some false := by kernel_rfl
theorem it28 : intT Try.prog 28 = some .u32 := by kernel_rfl
theorem sz30 : szOf Try.prog 30 = some 2 := by kernel_rfl
theorem ag30 : isAggT Try.prog 30 = some true := by kernel_rfl
theorem fa30_0 : fAt Try.prog 30 0 = some 0 := by kernel_rfl
theorem pl30_0 : placeAt Try.prog 30 0 = some (0, 1) := by kernel_rfl
theorem fa30_1 : fAt Try.prog 30 1 = some 1 := by kernel_rfl
theorem pl30_1 : placeAt Try.prog 30 1 = some (1, 1) := by kernel_rfl
theorem fk30 : flatKinds Try.prog 40 30 = some [.i, .i] := by kernel_rfl
theorem eg30 : Try.prog.eqGuardType Try.prog.depth 30 = false := by kernel_rfl
theorem sz32 : szOf Try.prog 32 = some 6 := by kernel_rfl
theorem ag32 : isAggT Try.prog 32 = some true := by kernel_rfl
theorem fa32_0 : fAt Try.prog 32 0 = some 0 := by kernel_rfl
theorem pl32_0 : placeAt Try.prog 32 0 = some (0, 1) := by kernel_rfl
theorem fa32_1 : fAt Try.prog 32 1 = some 1 := by kernel_rfl
theorem pl32_1 : placeAt Try.prog 32 1 = some (1, 1) := by kernel_rfl
theorem fa32_2 : fAt Try.prog 32 2 = some 2 := by kernel_rfl
theorem pl32_2 : placeAt Try.prog 32 2 = some (2, 1) := by kernel_rfl
theorem fa32_3 : fAt Try.prog 32 3 = some 3 := by kernel_rfl
theorem pl32_3 : placeAt Try.prog 32 3 = some (3, 2) := by kernel_rfl
theorem fa32_4 : fAt Try.prog 32 4 = some 5 := by kernel_rfl
theorem fk32 : flatKinds Try.prog 40 32 = some [.b, .i, .i, .i, .i, .s] := by kernel_rfl
theorem eg32 : Try.prog.eqGuardType Try.prog.depth 32 = false := by kernel_rfl
theorem sz34 : szOf Try.prog 34 = some 238 := by kernel_rfl
theorem ag34 : isAggT Try.prog 34 = some true := by kernel_rfl
theorem fa34_0 : fAt Try.prog 34 0 = some 0 := by kernel_rfl
theorem pl34_0 : placeAt Try.prog 34 0 = some (0, 1) := by kernel_rfl
theorem fa34_1 : fAt Try.prog 34 1 = some 1 := by kernel_rfl
theorem pl34_1 : placeAt Try.prog 34 1 = some (1, 2) := by kernel_rfl
theorem fa34_2 : fAt Try.prog 34 2 = some 3 := by kernel_rfl
theorem fa34_3 : fAt Try.prog 34 3 = some 227 := by kernel_rfl
theorem pl34_3 : placeAt Try.prog 34 3 = some (227, 1) := by kernel_rfl
theorem fa34_4 : fAt Try.prog 34 4 = some 228 := by kernel_rfl
theorem fa34_5 : fAt Try.prog 34 5 = some 230 := by kernel_rfl
theorem fa34_6 : fAt Try.prog 34 6 = some 231 := by kernel_rfl
theorem fa34_7 : fAt Try.prog 34 7 = some 232 := by kernel_rfl
theorem fk34 : flatKinds Try.prog 40 34 = some [.i, .b, .i, .i, .i, .i, .i, .i, .i, .i, .i, .i, .i, .i, .i, .i, .i, .i, .i, .i, .i, .i, .i, .i, .i, .i, .i, .i, .i, .i, .i, .i, .i, .i, .i, .i, .i, .i, .i, .i, .i, .i, .i, .i, .i, .i, .i, .i, .i, .i, .i, .i, .i, .i, .i, .i, .i, .i, .i, .i, .i, .i, .i, .i, .i, .i, .i, .i, .i, .i, .i, .i, .i, .i, .i, .i, .i, .i, .i, .i, .i, .i, .i, .i, .i, .i, .i, .i, .i, .i, .i, .i, .i, .i, .i, .i, .i, .i, .i, .i, .i, .i, .i, .i, .i, .i, .i, .i, .i, .i, .i, .i, .i, .i, .i, .i, .i, .i, .i, .i, .i, .i, .i, .i, .i, .i, .i, .i, .i, .i, .i, .i, .i, .i, .i, .i, .i, .i, .i, .i, .i, .i, .i, .i, .i, .i, .i, .i, .i, .i, .i, .i, .i, .i, .i, .i, .i, .i, .i, .i, .i, .i, .i, .i, .i, .i, .i, .i, .i, .i, .i, .i, .i, .i, .i, .i, .i, .i, .i, .i, .i, .i, .i, .i, .i, .i, .i, .i, .i, .i, .i, .i, .i, .i, .i, .i, .i, .i, .i, .i, .i, .i, .i, .i, .i, .i, .i, .i, .i, .i, .i, .i, .i, .i, .i, .i, .i, .i, .i, .i, .i, .i, .i, .i, .i, .i, .i, .i, .i, .i, .s, .i, .b, .i, .i, .i, .i, .s] := by kernel_rfl
theorem eg34 : Try.prog.eqGuardType Try.prog.depth 34 = false := by kernel_rfl
theorem sz36 : szOf Try.prog 36 = some 239 := by kernel_rfl
theorem ag36 : isAggT Try.prog 36 = some true := by kernel_rfl
theorem fa36_0 : fAt Try.prog 36 0 = some 0 := by kernel_rfl
theorem pl36_0 : placeAt Try.prog 36 0 = some (0, 1) := by kernel_rfl
theorem fa36_1 : fAt Try.prog 36 1 = some 1 := by kernel_rfl
theorem pl36_1 : placeAt Try.prog 36 1 = some (1, 238) := by kernel_rfl
theorem fk36 : flatKinds Try.prog 40 36 = some [.i, .i, .b, .i, .i, .i, .i, .i, .i, .i, .i, .i, .i, .i, .i, .i, .i, .i, .i, .i, .i, .i, .i, .i, .i, .i, .i, .i, .i, .i, .i, .i, .i, .i, .i, .i, .i, .i, .i, .i, .i, .i, .i, .i, .i, .i, .i, .i, .i, .i, .i, .i, .i, .i, .i, .i, .i, .i, .i, .i, .i, .i, .i, .i, .i, .i, .i, .i, .i, .i, .i, .i, .i, .i, .i, .i, .i, .i, .i, .i, .i, .i, .i, .i, .i, .i, .i, .i, .i, .i, .i, .i, .i, .i, .i, .i, .i, .i, .i, .i, .i, .i, .i, .i, .i, .i, .i, .i, .i, .i, .i, .i, .i, .i, .i, .i, .i, .i, .i, .i, .i, .i, .i, .i, .i, .i, .i, .i, .i, .i, .i, .i, .i, .i, .i, .i, .i, .i, .i, .i, .i, .i, .i, .i, .i, .i, .i, .i, .i, .i, .i, .i, .i, .i, .i, .i, .i, .i, .i, .i, .i, .i, .i, .i, .i, .i, .i, .i, .i, .i, .i, .i, .i, .i, .i, .i, .i, .i, .i, .i, .i, .i, .i, .i, .i, .i, .i, .i, .i, .i, .i, .i, .i, .i, .i, .i, .i, .i, .i, .i, .i, .i, .i, .i, .i, .i, .i, .i, .i, .i, .i, .i, .i, .i, .i, .i, .i, .i, .i, .i, .i, .i, .i, .i, .i, .i, .i, .i, .i, .i, .i, .s, .i, .b, .i, .i, .i, .i, .s] := by kernel_rfl
theorem eg36 : Try.prog.eqGuardType Try.prog.depth 36 = false := by kernel_rfl
theorem es44 : elS Try.prog 44 = some 239 := by kernel_rfl
theorem sz56 : szOf Try.prog 56 = some 64 := by kernel_rfl
theorem ag56 : isAggT Try.prog 56 = some true := by kernel_rfl
theorem ea56 : elA Try.prog 56 = some (64, 1) := by kernel_rfl
theorem sz57 : szOf Try.prog 57 = some 64 := by kernel_rfl
theorem ag57 : isAggT Try.prog 57 = some true := by kernel_rfl
theorem ea57 : elA Try.prog 57 = some (64, 1) := by kernel_rfl
theorem sz59 : szOf Try.prog 59 = some 68 := by kernel_rfl
theorem ag59 : isAggT Try.prog 59 = some true := by kernel_rfl
theorem fa59_0 : fAt Try.prog 59 0 = some 0 := by kernel_rfl
theorem pl59_0 : placeAt Try.prog 59 0 = some (0, 1) := by kernel_rfl
theorem fa59_1 : fAt Try.prog 59 1 = some 1 := by kernel_rfl
theorem pl59_1 : placeAt Try.prog 59 1 = some (1, 1) := by kernel_rfl
theorem fa59_2 : fAt Try.prog 59 2 = some 2 := by kernel_rfl
theorem pl59_2 : placeAt Try.prog 59 2 = some (2, 2) := by kernel_rfl
theorem fa59_3 : fAt Try.prog 59 3 = some 4 := by kernel_rfl
theorem pl59_3 : placeAt Try.prog 59 3 = some (4, 64) := by kernel_rfl
theorem sz69 : szOf Try.prog 69 = some 1 := by kernel_rfl
theorem ag69 : isAggT Try.prog 69 = some false := by kernel_rfl
theorem es69 : elS Try.prog 69 = some 6 := by kernel_rfl
theorem sz71 : szOf Try.prog 71 = some 2 := by kernel_rfl
theorem ag71 : isAggT Try.prog 71 = some true := by kernel_rfl
theorem fa71_0 : fAt Try.prog 71 0 = some 0 := by kernel_rfl
theorem pl71_0 : placeAt Try.prog 71 0 = some (0, 1) := by kernel_rfl
theorem fa71_1 : fAt Try.prog 71 1 = some 1 := by kernel_rfl
theorem pl71_1 : placeAt Try.prog 71 1 = some (1, 1) := by kernel_rfl
theorem es84 : elS Try.prog 84 = some 1 := by kernel_rfl
theorem by84 : isByT Try.prog 84 = true := by kernel_rfl
theorem sz96 : szOf Try.prog 96 = some 64 := by kernel_rfl
theorem ag96 : isAggT Try.prog 96 = some true := by kernel_rfl
theorem ea96 : elA Try.prog 96 = some (64, 1) := by kernel_rfl
def Z : TypeId → Option AV
  | 3 => some (.int .i64 0)
  | 4 => some (.bool false)
  | 5 => some (.int .u8 0)
  | 9 => some (.str ⟨#[]⟩)
  | 22 => some (.int .u16 0)
  | 24 => some (.agg [.bool false, .int .u16 0])
  | 26 => some (.agg (bytesAV (zb 224)))
  | 27 => some (.int .u64 0)
  | 28 => some (.int .u32 0)
  | 30 => some (.agg [.int .u16 0, .int .u8 0])
  | 32 => some (.agg [.bool false, .int .u16 0, .int .u32 0, .agg [.int .u16 0, .int .u8 0], .str ⟨#[]⟩])
  | 34 => some (.agg [.int .u8 0, .agg [.bool false, .int .u16 0], .agg (bytesAV (zb 224)), .int .u32 0, .agg [.int .u16 0, .int .u8 0], .str ⟨#[]⟩, .int .u8 0, .agg [.bool false, .int .u16 0, .int .u32 0, .agg [.int .u16 0, .int .u8 0], .str ⟨#[]⟩]])
  | 36 => some (.agg [.int .u64 0, .agg [.int .u8 0, .agg [.bool false, .int .u16 0], .agg (bytesAV (zb 224)), .int .u32 0, .agg [.int .u16 0, .int .u8 0], .str ⟨#[]⟩, .int .u8 0, .agg [.bool false, .int .u16 0, .int .u32 0, .agg [.int .u16 0, .int .u8 0], .str ⟨#[]⟩]]])
  | 37 => some (.int .i64 0)
  | 44 => some (.vsl [] 0)
  | 48 => some (.int .u64 0)
  | 56 => some (.agg (bytesAV (zb 64)))
  | 57 => some (.agg (bytesAV (zb 64)))
  | 59 => some (.agg [.int .u64 0, .int .u32 0, .agg [.int .u16 0, .int .u8 0], .agg (bytesAV (zb 64))])
  | 69 => some (.vsl [] 0)
  | 71 => some (.agg [.int .u64 0, .nilsl])
  | 84 => some (.vsl [] 0)
  | 88 => some (.nilfunc)
  | 92 => some (.nilfunc)
  | 96 => some (.agg (List.replicate 64 (.bool false)))
  | _ => none
theorem hZ : ∀ T z, Z T = some z → ZeroIs Try.prog T z := by
  intro T z h
  unfold Z at h
  split at h <;> simp only [Option.some.injEq, reduceCtorEq] at h <;> subst h
  · exact ZeroIs.one' (c := .int .i64 0) (by kernel_rfl) rfl
  · exact ZeroIs.one' (c := .bool false) (by kernel_rfl) rfl
  · exact ZeroIs.one' (c := .int .u8 0) (by kernel_rfl) rfl
  · exact ZeroIs.one' (c := .string ⟨#[]⟩) (by kernel_rfl) rfl
  · exact ZeroIs.one' (c := .int .u16 0) (by kernel_rfl) rfl
  · exact ZeroIs.agg' (cs := #[.bool false, .int .u16 0]) (by kernel_rfl) rfl
  · exact ZeroIs.agg' (cs := #[.int .u8 0, .int .u8 0, .int .u8 0, .int .u8 0, .int .u8 0, .int .u8 0, .int .u8 0, .int .u8 0, .int .u8 0, .int .u8 0, .int .u8 0, .int .u8 0, .int .u8 0, .int .u8 0, .int .u8 0, .int .u8 0, .int .u8 0, .int .u8 0, .int .u8 0, .int .u8 0, .int .u8 0, .int .u8 0, .int .u8 0, .int .u8 0, .int .u8 0, .int .u8 0, .int .u8 0, .int .u8 0, .int .u8 0, .int .u8 0, .int .u8 0, .int .u8 0, .int .u8 0, .int .u8 0, .int .u8 0, .int .u8 0, .int .u8 0, .int .u8 0, .int .u8 0, .int .u8 0, .int .u8 0, .int .u8 0, .int .u8 0, .int .u8 0, .int .u8 0, .int .u8 0, .int .u8 0, .int .u8 0, .int .u8 0, .int .u8 0, .int .u8 0, .int .u8 0, .int .u8 0, .int .u8 0, .int .u8 0, .int .u8 0, .int .u8 0, .int .u8 0, .int .u8 0, .int .u8 0, .int .u8 0, .int .u8 0, .int .u8 0, .int .u8 0, .int .u8 0, .int .u8 0, .int .u8 0, .int .u8 0, .int .u8 0, .int .u8 0, .int .u8 0, .int .u8 0, .int .u8 0, .int .u8 0, .int .u8 0, .int .u8 0, .int .u8 0, .int .u8 0, .int .u8 0, .int .u8 0, .int .u8 0, .int .u8 0, .int .u8 0, .int .u8 0, .int .u8 0, .int .u8 0, .int .u8 0, .int .u8 0, .int .u8 0, .int .u8 0, .int .u8 0, .int .u8 0, .int .u8 0, .int .u8 0, .int .u8 0, .int .u8 0, .int .u8 0, .int .u8 0, .int .u8 0, .int .u8 0, .int .u8 0, .int .u8 0, .int .u8 0, .int .u8 0, .int .u8 0, .int .u8 0, .int .u8 0, .int .u8 0, .int .u8 0, .int .u8 0, .int .u8 0, .int .u8 0, .int .u8 0, .int .u8 0, .int .u8 0, .int .u8 0, .int .u8 0, .int .u8 0, .int .u8 0, .int .u8 0, .int .u8 0, .int .u8 0, .int .u8 0, .int .u8 0, .int .u8 0, .int .u8 0, .int .u8 0, .int .u8 0, .int .u8 0, .int .u8 0, .int .u8 0, .int .u8 0, .int .u8 0, .int .u8 0, .int .u8 0, .int .u8 0, .int .u8 0, .int .u8 0, .int .u8 0, .int .u8 0, .int .u8 0, .int .u8 0, .int .u8 0, .int .u8 0, .int .u8 0, .int .u8 0, .int .u8 0, .int .u8 0, .int .u8 0, .int .u8 0, .int .u8 0, .int .u8 0, .int .u8 0, .int .u8 0, .int .u8 0, .int .u8 0, .int .u8 0, .int .u8 0, .int .u8 0, .int .u8 0, .int .u8 0, .int .u8 0, .int .u8 0, .int .u8 0, .int .u8 0, .int .u8 0, .int .u8 0, .int .u8 0, .int .u8 0, .int .u8 0, .int .u8 0, .int .u8 0, .int .u8 0, .int .u8 0, .int .u8 0, .int .u8 0, .int .u8 0, .int .u8 0, .int .u8 0, .int .u8 0, .int .u8 0, .int .u8 0, .int .u8 0, .int .u8 0, .int .u8 0, .int .u8 0, .int .u8 0, .int .u8 0, .int .u8 0, .int .u8 0, .int .u8 0, .int .u8 0, .int .u8 0, .int .u8 0, .int .u8 0, .int .u8 0, .int .u8 0, .int .u8 0, .int .u8 0, .int .u8 0, .int .u8 0, .int .u8 0, .int .u8 0, .int .u8 0, .int .u8 0, .int .u8 0, .int .u8 0, .int .u8 0, .int .u8 0, .int .u8 0, .int .u8 0, .int .u8 0, .int .u8 0, .int .u8 0, .int .u8 0, .int .u8 0, .int .u8 0, .int .u8 0, .int .u8 0, .int .u8 0, .int .u8 0, .int .u8 0, .int .u8 0, .int .u8 0]) (by kernel_rfl) (by kernel_rfl)
  · exact ZeroIs.one' (c := .int .u64 0) (by kernel_rfl) rfl
  · exact ZeroIs.one' (c := .int .u32 0) (by kernel_rfl) rfl
  · exact ZeroIs.agg' (cs := #[.int .u16 0, .int .u8 0]) (by kernel_rfl) rfl
  · exact ZeroIs.agg' (cs := #[.bool false, .int .u16 0, .int .u32 0, .int .u16 0, .int .u8 0, .string ⟨#[]⟩]) (by kernel_rfl) rfl
  · exact ZeroIs.agg' (cs := #[.int .u8 0, .bool false, .int .u16 0, .int .u8 0, .int .u8 0, .int .u8 0, .int .u8 0, .int .u8 0, .int .u8 0, .int .u8 0, .int .u8 0, .int .u8 0, .int .u8 0, .int .u8 0, .int .u8 0, .int .u8 0, .int .u8 0, .int .u8 0, .int .u8 0, .int .u8 0, .int .u8 0, .int .u8 0, .int .u8 0, .int .u8 0, .int .u8 0, .int .u8 0, .int .u8 0, .int .u8 0, .int .u8 0, .int .u8 0, .int .u8 0, .int .u8 0, .int .u8 0, .int .u8 0, .int .u8 0, .int .u8 0, .int .u8 0, .int .u8 0, .int .u8 0, .int .u8 0, .int .u8 0, .int .u8 0, .int .u8 0, .int .u8 0, .int .u8 0, .int .u8 0, .int .u8 0, .int .u8 0, .int .u8 0, .int .u8 0, .int .u8 0, .int .u8 0, .int .u8 0, .int .u8 0, .int .u8 0, .int .u8 0, .int .u8 0, .int .u8 0, .int .u8 0, .int .u8 0, .int .u8 0, .int .u8 0, .int .u8 0, .int .u8 0, .int .u8 0, .int .u8 0, .int .u8 0, .int .u8 0, .int .u8 0, .int .u8 0, .int .u8 0, .int .u8 0, .int .u8 0, .int .u8 0, .int .u8 0, .int .u8 0, .int .u8 0, .int .u8 0, .int .u8 0, .int .u8 0, .int .u8 0, .int .u8 0, .int .u8 0, .int .u8 0, .int .u8 0, .int .u8 0, .int .u8 0, .int .u8 0, .int .u8 0, .int .u8 0, .int .u8 0, .int .u8 0, .int .u8 0, .int .u8 0, .int .u8 0, .int .u8 0, .int .u8 0, .int .u8 0, .int .u8 0, .int .u8 0, .int .u8 0, .int .u8 0, .int .u8 0, .int .u8 0, .int .u8 0, .int .u8 0, .int .u8 0, .int .u8 0, .int .u8 0, .int .u8 0, .int .u8 0, .int .u8 0, .int .u8 0, .int .u8 0, .int .u8 0, .int .u8 0, .int .u8 0, .int .u8 0, .int .u8 0, .int .u8 0, .int .u8 0, .int .u8 0, .int .u8 0, .int .u8 0, .int .u8 0, .int .u8 0, .int .u8 0, .int .u8 0, .int .u8 0, .int .u8 0, .int .u8 0, .int .u8 0, .int .u8 0, .int .u8 0, .int .u8 0, .int .u8 0, .int .u8 0, .int .u8 0, .int .u8 0, .int .u8 0, .int .u8 0, .int .u8 0, .int .u8 0, .int .u8 0, .int .u8 0, .int .u8 0, .int .u8 0, .int .u8 0, .int .u8 0, .int .u8 0, .int .u8 0, .int .u8 0, .int .u8 0, .int .u8 0, .int .u8 0, .int .u8 0, .int .u8 0, .int .u8 0, .int .u8 0, .int .u8 0, .int .u8 0, .int .u8 0, .int .u8 0, .int .u8 0, .int .u8 0, .int .u8 0, .int .u8 0, .int .u8 0, .int .u8 0, .int .u8 0, .int .u8 0, .int .u8 0, .int .u8 0, .int .u8 0, .int .u8 0, .int .u8 0, .int .u8 0, .int .u8 0, .int .u8 0, .int .u8 0, .int .u8 0, .int .u8 0, .int .u8 0, .int .u8 0, .int .u8 0, .int .u8 0, .int .u8 0, .int .u8 0, .int .u8 0, .int .u8 0, .int .u8 0, .int .u8 0, .int .u8 0, .int .u8 0, .int .u8 0, .int .u8 0, .int .u8 0, .int .u8 0, .int .u8 0, .int .u8 0, .int .u8 0, .int .u8 0, .int .u8 0, .int .u8 0, .int .u8 0, .int .u8 0, .int .u8 0, .int .u8 0, .int .u8 0, .int .u8 0, .int .u8 0, .int .u8 0, .int .u8 0, .int .u8 0, .int .u8 0, .int .u8 0, .int .u8 0, .int .u8 0, .int .u8 0, .int .u8 0, .int .u8 0, .int .u8 0, .int .u8 0, .int .u8 0, .int .u8 0, .int .u8 0, .int .u8 0, .int .u32 0, .int .u16 0, .int .u8 0, .string ⟨#[]⟩, .int .u8 0, .bool false, .int .u16 0, .int .u32 0, .int .u16 0, .int .u8 0, .string ⟨#[]⟩]) (by kernel_rfl) (by kernel_rfl)
  · exact ZeroIs.agg' (cs := #[.int .u64 0, .int .u8 0, .bool false, .int .u16 0, .int .u8 0, .int .u8 0, .int .u8 0, .int .u8 0, .int .u8 0, .int .u8 0, .int .u8 0, .int .u8 0, .int .u8 0, .int .u8 0, .int .u8 0, .int .u8 0, .int .u8 0, .int .u8 0, .int .u8 0, .int .u8 0, .int .u8 0, .int .u8 0, .int .u8 0, .int .u8 0, .int .u8 0, .int .u8 0, .int .u8 0, .int .u8 0, .int .u8 0, .int .u8 0, .int .u8 0, .int .u8 0, .int .u8 0, .int .u8 0, .int .u8 0, .int .u8 0, .int .u8 0, .int .u8 0, .int .u8 0, .int .u8 0, .int .u8 0, .int .u8 0, .int .u8 0, .int .u8 0, .int .u8 0, .int .u8 0, .int .u8 0, .int .u8 0, .int .u8 0, .int .u8 0, .int .u8 0, .int .u8 0, .int .u8 0, .int .u8 0, .int .u8 0, .int .u8 0, .int .u8 0, .int .u8 0, .int .u8 0, .int .u8 0, .int .u8 0, .int .u8 0, .int .u8 0, .int .u8 0, .int .u8 0, .int .u8 0, .int .u8 0, .int .u8 0, .int .u8 0, .int .u8 0, .int .u8 0, .int .u8 0, .int .u8 0, .int .u8 0, .int .u8 0, .int .u8 0, .int .u8 0, .int .u8 0, .int .u8 0, .int .u8 0, .int .u8 0, .int .u8 0, .int .u8 0, .int .u8 0, .int .u8 0, .int .u8 0, .int .u8 0, .int .u8 0, .int .u8 0, .int .u8 0, .int .u8 0, .int .u8 0, .int .u8 0, .int .u8 0, .int .u8 0, .int .u8 0, .int .u8 0, .int .u8 0, .int .u8 0, .int .u8 0, .int .u8 0, .int .u8 0, .int .u8 0, .int .u8 0, .int .u8 0, .int .u8 0, .int .u8 0, .int .u8 0, .int .u8 0, .int .u8 0, .int .u8 0, .int .u8 0, .int .u8 0, .int .u8 0, .int .u8 0, .int .u8 0, .int .u8 0, .int .u8 0, .int .u8 0, .int .u8 0, .int .u8 0, .int .u8 0, .int .u8 0, .int .u8 0, .int .u8 0, .int .u8 0, .int .u8 0, .int .u8 0, .int .u8 0, .int .u8 0, .int .u8 0, .int .u8 0, .int .u8 0, .int .u8 0, .int .u8 0, .int .u8 0, .int .u8 0, .int .u8 0, .int .u8 0, .int .u8 0, .int .u8 0, .int .u8 0, .int .u8 0, .int .u8 0, .int .u8 0, .int .u8 0, .int .u8 0, .int .u8 0, .int .u8 0, .int .u8 0, .int .u8 0, .int .u8 0, .int .u8 0, .int .u8 0, .int .u8 0, .int .u8 0, .int .u8 0, .int .u8 0, .int .u8 0, .int .u8 0, .int .u8 0, .int .u8 0, .int .u8 0, .int .u8 0, .int .u8 0, .int .u8 0, .int .u8 0, .int .u8 0, .int .u8 0, .int .u8 0, .int .u8 0, .int .u8 0, .int .u8 0, .int .u8 0, .int .u8 0, .int .u8 0, .int .u8 0, .int .u8 0, .int .u8 0, .int .u8 0, .int .u8 0, .int .u8 0, .int .u8 0, .int .u8 0, .int .u8 0, .int .u8 0, .int .u8 0, .int .u8 0, .int .u8 0, .int .u8 0, .int .u8 0, .int .u8 0, .int .u8 0, .int .u8 0, .int .u8 0, .int .u8 0, .int .u8 0, .int .u8 0, .int .u8 0, .int .u8 0, .int .u8 0, .int .u8 0, .int .u8 0, .int .u8 0, .int .u8 0, .int .u8 0, .int .u8 0, .int .u8 0, .int .u8 0, .int .u8 0, .int .u8 0, .int .u8 0, .int .u8 0, .int .u8 0, .int .u8 0, .int .u8 0, .int .u8 0, .int .u8 0, .int .u8 0, .int .u8 0, .int .u8 0, .int .u8 0, .int .u8 0, .int .u8 0, .int .u8 0, .int .u8 0, .int .u8 0, .int .u8 0, .int .u32 0, .int .u16 0, .int .u8 0, .string ⟨#[]⟩, .int .u8 0, .bool false, .int .u16 0, .int .u32 0, .int .u16 0, .int .u8 0, .string ⟨#[]⟩]) (by kernel_rfl) (by kernel_rfl)
  · exact ZeroIs.one' (c := .int .i64 0) (by kernel_rfl) rfl
  · exact ZeroIs.one' (c := .slice none 0 0) (by kernel_rfl) rfl
  · exact ZeroIs.one' (c := .int .u64 0) (by kernel_rfl) rfl
  · exact ZeroIs.agg' (cs := #[.int .u8 0, .int .u8 0, .int .u8 0, .int .u8 0, .int .u8 0, .int .u8 0, .int .u8 0, .int .u8 0, .int .u8 0, .int .u8 0, .int .u8 0, .int .u8 0, .int .u8 0, .int .u8 0, .int .u8 0, .int .u8 0, .int .u8 0, .int .u8 0, .int .u8 0, .int .u8 0, .int .u8 0, .int .u8 0, .int .u8 0, .int .u8 0, .int .u8 0, .int .u8 0, .int .u8 0, .int .u8 0, .int .u8 0, .int .u8 0, .int .u8 0, .int .u8 0, .int .u8 0, .int .u8 0, .int .u8 0, .int .u8 0, .int .u8 0, .int .u8 0, .int .u8 0, .int .u8 0, .int .u8 0, .int .u8 0, .int .u8 0, .int .u8 0, .int .u8 0, .int .u8 0, .int .u8 0, .int .u8 0, .int .u8 0, .int .u8 0, .int .u8 0, .int .u8 0, .int .u8 0, .int .u8 0, .int .u8 0, .int .u8 0, .int .u8 0, .int .u8 0, .int .u8 0, .int .u8 0, .int .u8 0, .int .u8 0, .int .u8 0, .int .u8 0]) (by kernel_rfl) (by kernel_rfl)
  · exact ZeroIs.agg' (cs := #[.int .u8 0, .int .u8 0, .int .u8 0, .int .u8 0, .int .u8 0, .int .u8 0, .int .u8 0, .int .u8 0, .int .u8 0, .int .u8 0, .int .u8 0, .int .u8 0, .int .u8 0, .int .u8 0, .int .u8 0, .int .u8 0, .int .u8 0, .int .u8 0, .int .u8 0, .int .u8 0, .int .u8 0, .int .u8 0, .int .u8 0, .int .u8 0, .int .u8 0, .int .u8 0, .int .u8 0, .int .u8 0, .int .u8 0, .int .u8 0, .int .u8 0, .int .u8 0, .int .u8 0, .int .u8 0, .int .u8 0, .int .u8 0, .int .u8 0, .int .u8 0, .int .u8 0, .int .u8 0, .int .u8 0, .int .u8 0, .int .u8 0, .int .u8 0, .int .u8 0, .int .u8 0, .int .u8 0, .int .u8 0, .int .u8 0, .int .u8 0, .int .u8 0, .int .u8 0, .int .u8 0, .int .u8 0, .int .u8 0, .int .u8 0, .int .u8 0, .int .u8 0, .int .u8 0, .int .u8 0, .int .u8 0, .int .u8 0, .int .u8 0, .int .u8 0]) (by kernel_rfl) (by kernel_rfl)
  · exact ZeroIs.agg' (cs := #[.int .u64 0, .int .u32 0, .int .u16 0, .int .u8 0, .int .u8 0, .int .u8 0, .int .u8 0, .int .u8 0, .int .u8 0, .int .u8 0, .int .u8 0, .int .u8 0, .int .u8 0, .int .u8 0, .int .u8 0, .int .u8 0, .int .u8 0, .int .u8 0, .int .u8 0, .int .u8 0, .int .u8 0, .int .u8 0, .int .u8 0, .int .u8 0, .int .u8 0, .int .u8 0, .int .u8 0, .int .u8 0, .int .u8 0, .int .u8 0, .int .u8 0, .int .u8 0, .int .u8 0, .int .u8 0, .int .u8 0, .int .u8 0, .int .u8 0, .int .u8 0, .int .u8 0, .int .u8 0, .int .u8 0, .int .u8 0, .int .u8 0, .int .u8 0, .int .u8 0, .int .u8 0, .int .u8 0, .int .u8 0, .int .u8 0, .int .u8 0, .int .u8 0, .int .u8 0, .int .u8 0, .int .u8 0, .int .u8 0, .int .u8 0, .int .u8 0, .int .u8 0, .int .u8 0, .int .u8 0, .int .u8 0, .int .u8 0, .int .u8 0, .int .u8 0, .int .u8 0, .int .u8 0, .int .u8 0, .int .u8 0]) (by kernel_rfl) (by kernel_rfl)
  · exact ZeroIs.one' (c := .slice none 0 0) (by kernel_rfl) rfl
  · exact ZeroIs.mk_agg (cs := #[.int .u64 0, .slice none 0 0]) (by kernel_rfl) rfl
  · exact ZeroIs.one' (c := .slice none 0 0) (by kernel_rfl) rfl
  · exact ZeroIs.one' (c := .nilFunc) (by kernel_rfl) rfl
  · exact ZeroIs.one' (c := .nilFunc) (by kernel_rfl) rfl
  · exact ZeroIs.agg' (cs := #[.bool false, .bool false, .bool false, .bool false, .bool false, .bool false, .bool false, .bool false, .bool false, .bool false, .bool false, .bool false, .bool false, .bool false, .bool false, .bool false, .bool false, .bool false, .bool false, .bool false, .bool false, .bool false, .bool false, .bool false, .bool false, .bool false, .bool false, .bool false, .bool false, .bool false, .bool false, .bool false, .bool false, .bool false, .bool false, .bool false, .bool false, .bool false, .bool false, .bool false, .bool false, .bool false, .bool false, .bool false, .bool false, .bool false, .bool false, .bool false, .bool false, .bool false, .bool false, .bool false, .bool false, .bool false, .bool false, .bool false, .bool false, .bool false, .bool false, .bool false, .bool false, .bool false, .bool false, .bool false]) (by kernel_rfl) (by kernel_rfl)
theorem Z24 : Z 24 = some (.agg [.bool false, .int .u16 0]) := rfl
theorem Z26 : Z 26 = some (.agg (bytesAV (zb 224))) := rfl
theorem Z32 : Z 32 = some (.agg [.bool false, .int .u16 0, .int .u32 0, .agg [.int .u16 0, .int .u8 0], .str ⟨#[]⟩]) := rfl
theorem Z34 : Z 34 = some (.agg [.int .u8 0, .agg [.bool false, .int .u16 0], .agg (bytesAV (zb 224)), .int .u32 0, .agg [.int .u16 0, .int .u8 0], .str ⟨#[]⟩, .int .u8 0, .agg [.bool false, .int .u16 0, .int .u32 0, .agg [.int .u16 0, .int .u8 0], .str ⟨#[]⟩]]) := rfl
theorem Z36 : Z 36 = some (.agg [.int .u64 0, .agg [.int .u8 0, .agg [.bool false, .int .u16 0], .agg (bytesAV (zb 224)), .int .u32 0, .agg [.int .u16 0, .int .u8 0], .str ⟨#[]⟩, .int .u8 0, .agg [.bool false, .int .u16 0, .int .u32 0, .agg [.int .u16 0, .int .u8 0], .str ⟨#[]⟩]]]) := rfl
theorem Z56 : Z 56 = some (.agg (bytesAV (zb 64))) := rfl
theorem Z57 : Z 57 = some (.agg (bytesAV (zb 64))) := rfl
theorem Z59 : Z 59 = some (.agg [.int .u64 0, .int .u32 0, .agg [.int .u16 0, .int .u8 0], .agg (bytesAV (zb 64))]) := rfl
theorem Z71 : Z 71 = some (.agg [.int .u64 0, .nilsl]) := rfl
theorem Z96 : Z 96 = some (.agg (List.replicate 64 (.bool false))) := rfl
theorem bz24 : bldZ Try.prog Z 24 = some [.bool false, .int .u16 0] := by kernel_rfl
theorem bz26 : bldZ Try.prog Z 26 = some (bytesAV (zb 224)) := by kernel_rfl
theorem bz30 : bldZ Try.prog Z 30 = some [.int .u16 0, .int .u8 0] := by kernel_rfl
theorem bz32 : bldZ Try.prog Z 32 = some [.bool false, .int .u16 0, .int .u32 0, .agg [.int .u16 0, .int .u8 0], .str ⟨#[]⟩] := by kernel_rfl
theorem bz34 : bldZ Try.prog Z 34 = some [.int .u8 0, .agg [.bool false, .int .u16 0], .agg (bytesAV (zb 224)), .int .u32 0, .agg [.int .u16 0, .int .u8 0], .str ⟨#[]⟩, .int .u8 0, .agg [.bool false, .int .u16 0, .int .u32 0, .agg [.int .u16 0, .int .u8 0], .str ⟨#[]⟩]] := by kernel_rfl
theorem bz36 : bldZ Try.prog Z 36 = some [.int .u64 0, .agg [.int .u8 0, .agg [.bool false, .int .u16 0], .agg (bytesAV (zb 224)), .int .u32 0, .agg [.int .u16 0, .int .u8 0], .str ⟨#[]⟩, .int .u8 0, .agg [.bool false, .int .u16 0, .int .u32 0, .agg [.int .u16 0, .int .u8 0], .str ⟨#[]⟩]]] := by kernel_rfl
theorem el44 : elemS Try.prog Z 44 = some (.agg [.int .u64 0, .agg [.int .u8 0, .agg [.bool false, .int .u16 0], .agg (bytesAV (zb 224)), .int .u32 0, .agg [.int .u16 0, .int .u8 0], .str ⟨#[]⟩, .int .u8 0, .agg [.bool false, .int .u16 0, .int .u32 0, .agg [.int .u16 0, .int .u8 0], .str ⟨#[]⟩]]], 239) := by kernel_rfl
theorem at44 : apT Try.prog Z 44 44 = some (239, 304) := by kernel_rfl
theorem bz56 : bldZ Try.prog Z 56 = some (bytesAV (zb 64)) := by kernel_rfl
theorem bz57 : bldZ Try.prog Z 57 = some (bytesAV (zb 64)) := by kernel_rfl
theorem bz59 : bldZ Try.prog Z 59 = some [.int .u64 0, .int .u32 0, .agg [.int .u16 0, .int .u8 0], .agg (bytesAV (zb 64))] := by kernel_rfl
theorem el69 : elemS Try.prog Z 69 = some (.agg [.bool false, .int .u16 0, .int .u32 0, .agg [.int .u16 0, .int .u8 0], .str ⟨#[]⟩], 6) := by kernel_rfl
theorem at69 : apT Try.prog Z 69 69 = some (6, 32) := by kernel_rfl
theorem bz71 : bldZ Try.prog Z 71 = some [.int .u64 0, .nilsl] := by kernel_rfl
theorem el84 : elemS Try.prog Z 84 = some (.int .u8 0, 1) := by kernel_rfl
theorem em84 : elemM Try.prog Z 84 = some (.int .u8 0, 1, 1) := by kernel_rfl
theorem bz96 : bldZ Try.prog Z 96 = some (List.replicate 64 (.bool false)) := by kernel_rfl
end Go.Proofs.Ytimdepgenefkmaa
