/- Facts of this seat's types, by the kernel's own reckoning. -/
import Derived.Test.YtpnjllemklindaaM4
import Derived.Test.YtpnjllemklindaaProg
set_option linter.unusedVariables false
set_option linter.unusedSimpArgs false
namespace Go.Proofs.Ytpnjllemklindaa
open Go Go.RowKit

theorem mixed : Try.prog.follows .mixedOrders = true := by kernel_rfl
theorem sz3 : szOf Try.prog 3 = some 1 := by kernel_rfl
theorem ag3 : isAggT Try.prog 3 = some false := by kernel_rfl
theorem it3 : intT Try.prog 3 = some .i64 := by kernel_rfl
theorem sz4 : szOf Try.prog 4 = some 1 := by kernel_rfl
theorem ag4 : isAggT Try.prog 4 = some false := by kernel_rfl
theorem sz5 : szOf Try.prog 5 = some 1 := by kernel_rfl
theorem ag5 : isAggT Try.prog 5 = some false := by kernel_rfl
theorem it5 : intT Try.prog 5 = some .u8 := by kernel_rfl
theorem sz9 : szOf Try.prog 9 = some 1 := by kernel_rfl
theorem ag9 : isAggT Try.prog 9 = some false := by kernel_rfl
theorem ss9 : isStrT Try.prog 9 = true := by kernel_rfl
theorem sz22 : szOf Try.prog 22 = some 1 := by kernel_rfl
theorem ag22 : isAggT Try.prog 22 = some false := by kernel_rfl
theorem es22 : elS Try.prog 22 = some 1 := by kernel_rfl
theorem ap22 : isStrT Try.prog 22 = false := by kernel_rfl
theorem by22 : isByT Try.prog 22 = true := by kernel_rfl
theorem sz23 : szOf Try.prog 23 = some 1 := by kernel_rfl
theorem ag23 : isAggT Try.prog 23 = some false := by kernel_rfl
theorem es23 : elS Try.prog 23 = some 1 := by kernel_rfl
theorem ap23 : isStrT Try.prog 23 = false := by kernel_rfl
theorem sz24 : szOf Try.prog 24 = some 1 := by kernel_rfl
theorem ag24 : isAggT Try.prog 24 = some false := by kernel_rfl
theorem pt24 : isPtrT Try.prog 24 = true := by kernel_rfl
theorem sz26 : szOf Try.prog 26 = some 1 := by kernel_rfl
theorem ag26 : isAggT Try.prog 26 = some false := by kernel_rfl
theorem it26 : intT Try.prog 26 = some .i64 := by kernel_rfl
theorem sz28 : szOf Try.prog 28 = some 256 := by kernel_rfl
theorem ag28 : isAggT Try.prog 28 = some true := by kernel_rfl
theorem ea28 : elA Try.prog 28 = some (256, 1) := by kernel_rfl
theorem fk28 : flatKinds Try.prog 40 28 = some (kreps 256) := by kernel_rfl
theorem eg28 : Try.prog.eqGuardType Try.prog.depth 28 = false := by kernel_rfl
theorem sz29 : szOf Try.prog 29 = some 256 := by kernel_rfl
theorem ag29 : isAggT Try.prog 29 = some true := by kernel_rfl
theorem ea29 : elA Try.prog 29 = some (256, 1) := by kernel_rfl
theorem fk29 : flatKinds Try.prog 40 29 = some (kreps 256) := by kernel_rfl
theorem eg29 : Try.prog.eqGuardType Try.prog.depth 29 = false := by kernel_rfl
theorem sz39 : szOf Try.prog 39 = some 1 := by kernel_rfl
theorem ag39 : isAggT Try.prog 39 = some false := by kernel_rfl
theorem es39 : elS Try.prog 39 = some 5 := by kernel_rfl
theorem ap39 : isStrT Try.prog 39 = false := by kernel_rfl
theorem sz41 : szOf Try.prog 41 = some 1 := by kernel_rfl
theorem ag41 : isAggT Try.prog 41 = some false := by kernel_rfl
theorem es41 : elS Try.prog 41 = some 1 := by kernel_rfl
theorem ap41 : isStrT Try.prog 41 = false := by kernel_rfl
theorem sz43 : szOf Try.prog 43 = some 5 := by kernel_rfl
theorem ag43 : isAggT Try.prog 43 = some true := by kernel_rfl
theorem ft43_0 : fldT Try.prog 43 0 = some (0, 3) := by kernel_rfl
theorem fa43_0 : fAt Try.prog 43 0 = some 0 := by kernel_rfl
theorem pl43_0 : placeAt Try.prog 43 0 = some (0, 1) := by kernel_rfl
theorem ft43_1 : fldT Try.prog 43 1 = some (1, 3) := by kernel_rfl
theorem fa43_1 : fAt Try.prog 43 1 = some 1 := by kernel_rfl
theorem pl43_1 : placeAt Try.prog 43 1 = some (1, 1) := by kernel_rfl
theorem ft43_2 : fldT Try.prog 43 2 = some (2, 5) := by kernel_rfl
theorem fa43_2 : fAt Try.prog 43 2 = some 2 := by kernel_rfl
theorem pl43_2 : placeAt Try.prog 43 2 = some (2, 1) := by kernel_rfl
theorem ft43_3 : fldT Try.prog 43 3 = some (3, 41) := by kernel_rfl
theorem fa43_3 : fAt Try.prog 43 3 = some 3 := by kernel_rfl
theorem pl43_3 : placeAt Try.prog 43 3 = some (3, 1) := by kernel_rfl
theorem ft43_4 : fldT Try.prog 43 4 = some (4, 23) := by kernel_rfl
theorem fa43_4 : fAt Try.prog 43 4 = some 4 := by kernel_rfl
theorem pl43_4 : placeAt Try.prog 43 4 = some (4, 1) := by kernel_rfl
theorem sz47 : szOf Try.prog 47 = some 2048 := by kernel_rfl
theorem ag47 : isAggT Try.prog 47 = some true := by kernel_rfl
theorem pl47_0 : placeAt Try.prog 47 0 = some (0, 256) := by kernel_rfl
theorem pl47_1 : placeAt Try.prog 47 1 = some (256, 256) := by kernel_rfl
theorem pl47_2 : placeAt Try.prog 47 2 = some (512, 256) := by kernel_rfl
theorem pl47_3 : placeAt Try.prog 47 3 = some (768, 256) := by kernel_rfl
theorem pl47_4 : placeAt Try.prog 47 4 = some (1024, 256) := by kernel_rfl
theorem pl47_5 : placeAt Try.prog 47 5 = some (1280, 256) := by kernel_rfl
theorem pl47_6 : placeAt Try.prog 47 6 = some (1536, 256) := by kernel_rfl
theorem pl47_7 : placeAt Try.prog 47 7 = some (1792, 256) := by kernel_rfl
theorem ea47 : elA Try.prog 47 = some (8, 256) := by kernel_rfl
theorem fk47 : flatKinds Try.prog 40 47 = some [.i, .i, .i, .i, .i, .i, .i, .i, .i, .i, .i, .i, .i, .i, .i, .i, .i, .i, .i, .i, .i, .i, .i, .i, .i, .i, .i, .i, .i, .i, .i, .i, .i, .i, .i, .i, .i, .i, .i, .i, .i, .i, .i, .i, .i, .i, .i, .i, .i, .i, .i, .i, .i, .i, .i, .i, .i, .i, .i, .i, .i, .i, .i, .i, .i, .i, .i, .i, .i, .i, .i, .i, .i, .i, .i, .i, .i, .i, .i, .i, .i, .i, .i, .i, .i, .i, .i, .i, .i, .i, .i, .i, .i, .i, .i, .i, .i, .i, .i, .i, .i, .i, .i, .i, .i, .i, .i, .i, .i, .i, .i, .i, .i, .i, .i, .i, .i, .i, .i, .i, .i, .i, .i, .i, .i, .i, .i, .i, .i, .i, .i, .i, .i, .i, .i, .i, .i, .i, .i, .i, .i, .i, .i, .i, .i, .i, .i, .i, .i, .i, .i, .i, .i, .i, .i, .i, .i, .i, .i, .i, .i, .i, .i, .i, .i, .i, .i, .i, .i, .i, .i, .i, .i, .i, .i, .i, .i, .i, .i, .i, .i, .i, .i, .i, .i, .i, .i, .i, .i, .i, .i, .i, .i, .i, .i, .i, .i, .i, .i, .i, .i, .i, .i, .i, .i, .i, .i, .i, .i, .i, .i, .i, .i, .i, .i, .i, .i, .i, .i, .i, .i, .i, .i, .i, .i, .i, .i, .i, .i, .i, .i, .i, .i, .i, .i, .i, .i, .i, .i, .i, .i, .i, .i, .i, .i, .i, .i, .i, .i, .i, .i, .i, .i, .i, .i, .i, .i, .i, .i, .i, .i, .i, .i, .i, .i, .i, .i, .i, .i, .i, .i, .i, .i, .i, .i, .i, .i, .i, .i, .i, .i, .i, .i, .i, .i, .i, .i, .i, .i, .i, .i, .i, .i, .i, .i, .i, .i, .i, .i, .i, .i, .i, .i, .i, .i, .i, .i, .i, .i, .i, .i, .i, .i, .i, .i, .i, .i, .i, .i, .i, .i, .i, .i, .i, .i, .i, .i, .i, .i, .i, .i, .i, .i, .i, .i, .i, .i, .i, .i, .i, .i, .i, .i, .i, .i, .i, .i, .i, .i, .i, .i, .i, .i, .i, .i, .i, .i, .i, .i, .i, .i, .i, .i, .i, .i, .i, .i, .i, .i, .i, .i, .i, .i, .i, .i, .i, .i, .i, .i, .i, .i, .i, .i, .i, .i, .i, .i, .i, .i, .i, .i, .i, .i, .i, .i, .i, .i, .i, .i, .i, .i, .i, .i, .i, .i, .i, .i, .i, .i, .i, .i, .i, .i, .i, .i, .i, .i, .i, .i, .i, .i, .i, .i, .i, .i, .i, .i, .i, .i, .i, .i, .i, .i, .i, .i, .i, .i, .i, .i, .i, .i, .i, .i, .i, .i, .i, .i, .i, .i, .i, .i, .i, .i, .i, .i, .i, .i, .i, .i, .i, .i, .i, .i, .i, .i, .i, .i, .i, .i, .i, .i, .i, .i, .i, .i, .i, .i, .i, .i, .i, .i, .i, .i, .i, .i, .i, .i, .i, .i, .i, .i, .i, .i, .i, .i, .i, .i, .i, .i, .i, .i, .i, .i, .i, .i, .i, .i, .i, .i, .i, .i, .i, .i, .i, .i, .i, .i, .i, .i, .i, .i, .i, .i, .i, .i, .i, .i, .i, .i, .i, .i, .i, .i, .i, .i, .i, .i, .i, .i, .i, .i, .i, .i, .i, .i, .i, .i, .i, .i, .i, .i, .i, .i, .i, .i, .i, .i, .i, .i, .i, .i, .i, .i, .i, .i, .i, .i, .i, .i, .i, .i, .i, .i, .i, .i, .i, .i, .i, .i, .i, .i, .i, .i, .i, .i, .i, .i, .i, .i, .i, .i, .i, .i, .i, .i, .i, .i, .i, .i, .i, .i, .i, .i, .i, .i, .i, .i, .i, .i, .i, .i, .i, .i, .i, .i, .i, .i, .i, .i, .i, .i, .i, .i, .i, .i, .i, .i, .i, .i, .i, .i, .i, .i, .i, .i, .i, .i, .i, .i, .i, .i, .i, .i, .i, .i, .i, .i, .i, .i, .i, .i, .i, .i, .i, .i, .i, .i, .i, .i, .i, .i, .i, .i, .i, .i, .i, .i, .i, .i, .i, .i, .i, .i, .i, .i, .i, .i, .i, .i, .i, .i, .i, .i, .i, .i, .i, .i, .i, .i, .i, .i, .i, .i, .i, .i, .i, .i, .i, .i, .i, .i, .i, .i, .i, .i, .i, .i, .i, .i, .i, .i, .i, .i, .i, .i, .i, .i, .i, .i, .i, .i, .i, .i, .i, .i, .i, .i, .i, .i, .i, .i, .i, .i, .i, .i, .i, .i, .i, .i, .i, .i, .i, .i, .i, .i, .i, .i, .i, .i, .i, .i, .i, .i, .i, .i, .i, .i, .i, .i, .i, .i, .i, .i, .i, .i, .i, .i, .i, .i, .i, .i, .i, .i, .i, .i, .i, .i, .i, .i, .i, .i, .i, .i, .i, .i, .i, .i, .i, .i, .i, .i, .i, .i, .i, .i, .i, .i, .i, .i, .i, .i, .i, .i, .i, .i, .i, .i, .i, .i, .i, .i, .i, .i, .i, .i, .i, .i, .i, .i, .i, .i, .i, .i, .i, .i, .i, .i, .i, .i, .i, .i, .i, .i, .i, .i, .i, .i, .i, .i, .i, .i, .i, .i, .i, .i, .i, .i, .i, .i, .i, .i, .i, .i, .i, .i, .i, .i, .i, .i, .i, .i, .i, .i, .i, .i, .i, .i, .i, .i, .i, .i, .i, .i, .i, .i, .i, .i, .i, .i, .i, .i, .i, .i, .i, .i, .i, .i, .i, .i, .i, .i, .i, .i, .i, .i, .i, .i, .i, .i, .i, .i, .i, .i, .i, .i, .i, .i, .i, .i, .i, .i, .i, .i, .i, .i, .i, .i, .i, .i, .i, .i, .i, .i, .i, .i, .i, .i, .i, .i, .i, .i, .i, .i, .i, .i, .i, .i, .i, .i, .i, .i, .i, .i, .i, .i, .i, .i, .i, .i, .i, .i, .i, .i, .i, .i, .i, .i, .i, .i, .i, .i, .i, .i, .i, .i, .i, .i, .i, .i, .i, .i, .i, .i, .i, .i, .i, .i, .i, .i, .i, .i, .i, .i, .i, .i, .i, .i, .i, .i, .i, .i, .i, .i, .i, .i, .i, .i, .i, .i, .i, .i, .i, .i, .i, .i, .i, .i, .i, .i, .i, .i, .i, .i, .i, .i, .i, .i, .i, .i, .i, .i, .i, .i, .i, .i, .i, .i, .i, .i, .i, .i, .i, .i, .i, .i, .i, .i, .i, .i, .i, .i, .i, .i, .i, .i, .i, .i, .i, .i, .i, .i, .i, .i, .i, .i, .i, .i, .i, .i, .i, .i, .i, .i, .i, .i, .i, .i, .i, .i, .i, .i, .i, .i, .i, .i, .i, .i, .i, .i, .i, .i, .i, .i, .i, .i, .i, .i, .i, .i, .i, .i, .i, .i, .i, .i, .i, .i, .i, .i, .i, .i, .i, .i, .i, .i, .i, .i, .i, .i, .i, .i, .i, .i, .i, .i, .i, .i, .i, .i, .i, .i, .i, .i, .i, .i, .i, .i, .i, .i, .i, .i, .i, .i, .i, .i, .i, .i, .i, .i, .i, .i, .i, .i, .i, .i, .i, .i, .i, .i, .i, .i, .i, .i, .i, .i, .i, .i, .i, .i, .i, .i, .i, .i, .i, .i, .i, .i, .i, .i, .i, .i, .i, .i, .i, .i, .i, .i, .i, .i, .i, .i, .i, .i, .i, .i, .i, .i, .i, .i, .i, .i, .i, .i, .i, .i, .i, .i, .i, .i, .i, .i, .i, .i, .i, .i, .i, .i, .i, .i, .i, .i, .i, .i, .i, .i, .i, .i, .i, .i, .i, .i, .i, .i, .i, .i, .i, .i, .i, .i, .i, .i, .i, .i, .i, .i, .i, .i, .i, .i, .i, .i, .i, .i, .i, .i, .i, .i, .i, .i, .i, .i, .i, .i, .i, .i, .i, .i, .i, .i, .i, .i, .i, .i, .i, .i, .i, .i, .i, .i, .i, .i, .i, .i, .i, .i, .i, .i, .i, .i, .i, .i, .i, .i, .i, .i, .i, .i, .i, .i, .i, .i, .i, .i, .i, .i, .i, .i, .i, .i, .i, .i, .i, .i, .i, .i, .i, .i, .i, .i, .i, .i, .i, .i, .i, .i, .i, .i, .i, .i, .i, .i, .i, .i, .i, .i, .i, .i, .i, .i, .i, .i, .i, .i, .i, .i, .i, .i, .i, .i, .i, .i, .i, .i, .i, .i, .i, .i, .i, .i, .i, .i, .i, .i, .i, .i, .i, .i, .i, .i, .i, .i, .i, .i, .i, .i, .i, .i, .i, .i, .i, .i, .i, .i, .i, .i, .i, .i, .i, .i, .i, .i, .i, .i, .i, .i, .i, .i, .i, .i, .i, .i, .i, .i, .i, .i, .i, .i, .i, .i, .i, .i, .i, .i, .i, .i, .i, .i, .i, .i, .i, .i, .i, .i, .i, .i, .i, .i, .i, .i, .i, .i, .i, .i, .i, .i, .i, .i, .i, .i, .i, .i, .i, .i, .i, .i, .i, .i, .i, .i, .i, .i, .i, .i, .i, .i, .i, .i, .i, .i, .i, .i, .i, .i, .i, .i, .i, .i, .i, .i, .i, .i, .i, .i, .i, .i, .i, .i, .i, .i, .i, .i, .i, .i, .i, .i, .i, .i, .i, .i, .i, .i, .i, .i, .i, .i, .i, .i, .i, .i, .i, .i, .i, .i, .i, .i, .i, .i, .i, .i, .i, .i, .i, .i, .i, .i, .i, .i, .i, .i, .i, .i, .i, .i, .i, .i, .i, .i, .i, .i, .i, .i, .i, .i, .i, .i, .i, .i, .i, .i, .i, .i, .i, .i, .i, .i, .i, .i, .i, .i, .i, .i, .i, .i, .i, .i, .i, .i, .i, .i, .i, .i, .i, .i, .i, .i, .i, .i, .i, .i, .i, .i, .i, .i, .i, .i, .i, .i, .i, .i, .i, .i, .i, .i, .i, .i, .i, .i, .i, .i, .i, .i, .i, .i, .i, .i, .i, .i, .i, .i, .i, .i, .i, .i, .i, .i, .i, .i, .i, .i, .i, .i, .i, .i, .i, .i, .i, .i, .i, .i, .i, .i, .i, .i, .i, .i, .i, .i, .i, .i, .i, .i, .i, .i, .i, .i, .i, .i, .i, .i, .i, .i, .i, .i, .i, .i, .i, .i, .i, .i, .i, .i, .i, .i, .i, .i, .i, .i, .i, .i, .i, .i, .i, .i, .i, .i, .i, .i, .i, .i, .i, .i, .i, .i, .i, .i, .i, .i, .i, .i, .i, .i, .i, .i, .i, .i, .i, .i, .i, .i, .i, .i, .i, .i, .i, .i, .i, .i, .i, .i, .i, .i, .i, .i, .i, .i, .i, .i, .i, .i, .i, .i, .i, .i, .i, .i, .i, .i, .i, .i, .i, .i, .i, .i, .i, .i, .i, .i, .i, .i, .i, .i, .i, .i, .i, .i, .i, .i, .i, .i, .i, .i, .i, .i, .i, .i, .i, .i, .i, .i, .i, .i, .i, .i, .i, .i, .i, .i, .i, .i, .i, .i, .i, .i, .i, .i, .i, .i, .i, .i, .i, .i, .i, .i, .i, .i, .i, .i, .i, .i, .i, .i, .i, .i, .i, .i, .i, .i, .i, .i, .i, .i, .i, .i, .i, .i, .i, .i, .i, .i, .i, .i, .i, .i, .i, .i, .i, .i, .i, .i, .i, .i, .i, .i, .i, .i, .i, .i, .i, .i, .i, .i, .i, .i, .i, .i, .i, .i, .i, .i, .i, .i, .i, .i, .i, .i, .i, .i, .i, .i, .i, .i, .i, .i, .i, .i, .i, .i, .i, .i, .i, .i, .i, .i, .i, .i, .i, .i, .i, .i, .i, .i, .i, .i, .i, .i, .i, .i, .i, .i, .i, .i, .i, .i, .i, .i, .i, .i, .i, .i, .i, .i, .i, .i, .i, .i, .i, .i, .i, .i, .i, .i, .i, .i, .i, .i, .i, .i, .i, .i, .i, .i, .i, .i, .i, .i, .i, .i, .i, .i, .i, .i, .i, .i, .i, .i, .i, .i, .i, .i, .i, .i, .i, .i, .i, .i, .i, .i, .i, .i, .i, .i, .i, .i, .i, .i, .i, .i, .i, .i, .i, .i, .i, .i, .i, .i, .i, .i, .i, .i, .i, .i, .i, .i, .i, .i, .i, .i, .i, .i, .i, .i, .i, .i, .i, .i, .i, .i, .i, .i, .i, .i, .i, .i, .i, .i, .i, .i, .i, .i, .i, .i, .i, .i, .i, .i, .i, .i, .i, .i, .i, .i, .i, .i, .i, .i, .i, .i, .i, .i, .i, .i, .i, .i, .i, .i, .i, .i, .i, .i, .i, .i, .i, .i, .i, .i, .i, .i, .i, .i, .i, .i, .i, .i, .i, .i, .i, .i, .i, .i, .i, .i, .i, .i, .i, .i, .i, .i, .i, .i, .i, .i, .i, .i, .i, .i, .i, .i, .i, .i, .i, .i, .i, .i, .i, .i, .i, .i, .i] := by kernel_rfl
theorem eg47 : Try.prog.eqGuardType Try.prog.depth 47 = false := by kernel_rfl
theorem sz50 : szOf Try.prog 50 = some 1 := by kernel_rfl
theorem ag50 : isAggT Try.prog 50 = some false := by kernel_rfl
theorem pt50 : isPtrT Try.prog 50 = true := by kernel_rfl
theorem sz51 : szOf Try.prog 51 = some 1 := by kernel_rfl
theorem ag51 : isAggT Try.prog 51 = some false := by kernel_rfl
theorem es51 : elS Try.prog 51 = some 66 := by kernel_rfl
theorem ap51 : isStrT Try.prog 51 = false := by kernel_rfl
theorem sz53 : szOf Try.prog 53 = some 7 := by kernel_rfl
theorem ag53 : isAggT Try.prog 53 = some true := by kernel_rfl
theorem ft53_0 : fldT Try.prog 53 0 = some (0, 3) := by kernel_rfl
theorem fa53_0 : fAt Try.prog 53 0 = some 0 := by kernel_rfl
theorem pl53_0 : placeAt Try.prog 53 0 = some (0, 1) := by kernel_rfl
theorem ft53_1 : fldT Try.prog 53 1 = some (1, 51) := by kernel_rfl
theorem fa53_1 : fAt Try.prog 53 1 = some 1 := by kernel_rfl
theorem pl53_1 : placeAt Try.prog 53 1 = some (1, 1) := by kernel_rfl
theorem ft53_2 : fldT Try.prog 53 2 = some (2, 51) := by kernel_rfl
theorem fa53_2 : fAt Try.prog 53 2 = some 2 := by kernel_rfl
theorem pl53_2 : placeAt Try.prog 53 2 = some (2, 1) := by kernel_rfl
theorem ft53_3 : fldT Try.prog 53 3 = some (3, 41) := by kernel_rfl
theorem fa53_3 : fAt Try.prog 53 3 = some 3 := by kernel_rfl
theorem pl53_3 : placeAt Try.prog 53 3 = some (3, 1) := by kernel_rfl
theorem ft53_4 : fldT Try.prog 53 4 = some (4, 3) := by kernel_rfl
theorem fa53_4 : fAt Try.prog 53 4 = some 4 := by kernel_rfl
theorem pl53_4 : placeAt Try.prog 53 4 = some (4, 1) := by kernel_rfl
theorem ft53_5 : fldT Try.prog 53 5 = some (5, 3) := by kernel_rfl
theorem fa53_5 : fAt Try.prog 53 5 = some 5 := by kernel_rfl
theorem pl53_5 : placeAt Try.prog 53 5 = some (5, 1) := by kernel_rfl
theorem ft53_6 : fldT Try.prog 53 6 = some (6, 4) := by kernel_rfl
theorem fa53_6 : fAt Try.prog 53 6 = some 6 := by kernel_rfl
theorem pl53_6 : placeAt Try.prog 53 6 = some (6, 1) := by kernel_rfl
theorem sz61 : szOf Try.prog 61 = some 1 := by kernel_rfl
theorem ag61 : isAggT Try.prog 61 = some false := by kernel_rfl
theorem sz62 : szOf Try.prog 62 = some 1 := by kernel_rfl
theorem ag62 : isAggT Try.prog 62 = some false := by kernel_rfl
theorem es62 : elS Try.prog 62 = some 66 := by kernel_rfl
theorem ap62 : isStrT Try.prog 62 = false := by kernel_rfl
theorem sz63 : szOf Try.prog 63 = some 1 := by kernel_rfl
theorem ag63 : isAggT Try.prog 63 = some false := by kernel_rfl
theorem sz65 : szOf Try.prog 65 = some 8 := by kernel_rfl
theorem ag65 : isAggT Try.prog 65 = some true := by kernel_rfl
theorem ft65_0 : fldT Try.prog 65 0 = some (0, 3) := by kernel_rfl
theorem fa65_0 : fAt Try.prog 65 0 = some 0 := by kernel_rfl
theorem pl65_0 : placeAt Try.prog 65 0 = some (0, 1) := by kernel_rfl
theorem ft65_1 : fldT Try.prog 65 1 = some (1, 61) := by kernel_rfl
theorem fa65_1 : fAt Try.prog 65 1 = some 1 := by kernel_rfl
theorem pl65_1 : placeAt Try.prog 65 1 = some (1, 1) := by kernel_rfl
theorem ft65_2 : fldT Try.prog 65 2 = some (2, 61) := by kernel_rfl
theorem fa65_2 : fAt Try.prog 65 2 = some 2 := by kernel_rfl
theorem pl65_2 : placeAt Try.prog 65 2 = some (2, 1) := by kernel_rfl
theorem ft65_3 : fldT Try.prog 65 3 = some (3, 62) := by kernel_rfl
theorem fa65_3 : fAt Try.prog 65 3 = some 3 := by kernel_rfl
theorem pl65_3 : placeAt Try.prog 65 3 = some (3, 1) := by kernel_rfl
theorem ft65_4 : fldT Try.prog 65 4 = some (4, 63) := by kernel_rfl
theorem fa65_4 : fAt Try.prog 65 4 = some 4 := by kernel_rfl
theorem pl65_4 : placeAt Try.prog 65 4 = some (4, 1) := by kernel_rfl
theorem ft65_5 : fldT Try.prog 65 5 = some (5, 3) := by kernel_rfl
theorem fa65_5 : fAt Try.prog 65 5 = some 5 := by kernel_rfl
theorem pl65_5 : placeAt Try.prog 65 5 = some (5, 1) := by kernel_rfl
theorem ft65_6 : fldT Try.prog 65 6 = some (6, 3) := by kernel_rfl
theorem fa65_6 : fAt Try.prog 65 6 = some 6 := by kernel_rfl
theorem pl65_6 : placeAt Try.prog 65 6 = some (6, 1) := by kernel_rfl
theorem ft65_7 : fldT Try.prog 65 7 = some (7, 4) := by kernel_rfl
theorem fa65_7 : fAt Try.prog 65 7 = some 7 := by kernel_rfl
theorem pl65_7 : placeAt Try.prog 65 7 = some (7, 1) := by kernel_rfl
theorem sz67 : szOf Try.prog 67 = some 2 := by kernel_rfl
theorem ag67 : isAggT Try.prog 67 = some true := by kernel_rfl
theorem pl67_0 : placeAt Try.prog 67 0 = some (0, 1) := by kernel_rfl
theorem pl67_1 : placeAt Try.prog 67 1 = some (1, 1) := by kernel_rfl
theorem ea67 : elA Try.prog 67 = some (2, 1) := by kernel_rfl
theorem fk67 : flatKinds Try.prog 40 67 = some [.i, .i] := by kernel_rfl
theorem eg67 : Try.prog.eqGuardType Try.prog.depth 67 = false := by kernel_rfl
theorem sz68 : szOf Try.prog 68 = some 64 := by kernel_rfl
theorem ag68 : isAggT Try.prog 68 = some true := by kernel_rfl
theorem ea68 : elA Try.prog 68 = some (64, 1) := by kernel_rfl
theorem fk68 : flatKinds Try.prog 40 68 = some (kreps 64) := by kernel_rfl
theorem eg68 : Try.prog.eqGuardType Try.prog.depth 68 = false := by kernel_rfl
theorem sz69 : szOf Try.prog 69 = some 64 := by kernel_rfl
theorem ag69 : isAggT Try.prog 69 = some true := by kernel_rfl
theorem ea69 : elA Try.prog 69 = some (64, 1) := by kernel_rfl
theorem fk69 : flatKinds Try.prog 40 69 = some (kreps 64) := by kernel_rfl
theorem eg69 : Try.prog.eqGuardType Try.prog.depth 69 = false := by kernel_rfl
theorem sz72 : szOf Try.prog 72 = some 66 := by kernel_rfl
theorem ag72 : isAggT Try.prog 72 = some true := by kernel_rfl
theorem ft72_0 : fldT Try.prog 72 0 = some (0, 67) := by kernel_rfl
theorem fa72_0 : fAt Try.prog 72 0 = some 0 := by kernel_rfl
theorem pl72_0 : placeAt Try.prog 72 0 = some (0, 2) := by kernel_rfl
theorem ft72_1 : fldT Try.prog 72 1 = some (2, 69) := by kernel_rfl
theorem fa72_1 : fAt Try.prog 72 1 = some 2 := by kernel_rfl
theorem pl72_1 : placeAt Try.prog 72 1 = some (2, 64) := by kernel_rfl
theorem fk72 : flatKinds Try.prog 40 72 = some [.i, .i, .i, .i, .i, .i, .i, .i, .i, .i, .i, .i, .i, .i, .i, .i, .i, .i, .i, .i, .i, .i, .i, .i, .i, .i, .i, .i, .i, .i, .i, .i, .i, .i, .i, .i, .i, .i, .i, .i, .i, .i, .i, .i, .i, .i, .i, .i, .i, .i, .i, .i, .i, .i, .i, .i, .i, .i, .i, .i, .i, .i, .i, .i, .i, .i] := by kernel_rfl
theorem eg72 : Try.prog.eqGuardType Try.prog.depth 72 = false := by kernel_rfl
theorem sz77 : szOf Try.prog 77 = some 66 := by kernel_rfl
theorem ag77 : isAggT Try.prog 77 = some true := by kernel_rfl
theorem ft77_0 : fldT Try.prog 77 0 = some (0, 3) := by kernel_rfl
theorem fa77_0 : fAt Try.prog 77 0 = some 0 := by kernel_rfl
theorem pl77_0 : placeAt Try.prog 77 0 = some (0, 1) := by kernel_rfl
theorem ft77_1 : fldT Try.prog 77 1 = some (1, 3) := by kernel_rfl
theorem fa77_1 : fAt Try.prog 77 1 = some 1 := by kernel_rfl
theorem pl77_1 : placeAt Try.prog 77 1 = some (1, 1) := by kernel_rfl
theorem ft77_2 : fldT Try.prog 77 2 = some (2, 68) := by kernel_rfl
theorem fa77_2 : fAt Try.prog 77 2 = some 2 := by kernel_rfl
theorem pl77_2 : placeAt Try.prog 77 2 = some (2, 64) := by kernel_rfl
theorem fk77 : flatKinds Try.prog 40 77 = some [.i, .i, .i, .i, .i, .i, .i, .i, .i, .i, .i, .i, .i, .i, .i, .i, .i, .i, .i, .i, .i, .i, .i, .i, .i, .i, .i, .i, .i, .i, .i, .i, .i, .i, .i, .i, .i, .i, .i, .i, .i, .i, .i, .i, .i, .i, .i, .i, .i, .i, .i, .i, .i, .i, .i, .i, .i, .i, .i, .i, .i, .i, .i, .i, .i, .i] := by kernel_rfl
theorem eg77 : Try.prog.eqGuardType Try.prog.depth 77 = false := by kernel_rfl
theorem sz79 : szOf Try.prog 79 = some 2 := by kernel_rfl
theorem ag79 : isAggT Try.prog 79 = some true := by kernel_rfl
theorem pl79_0 : placeAt Try.prog 79 0 = some (0, 1) := by kernel_rfl
theorem pl79_1 : placeAt Try.prog 79 1 = some (1, 1) := by kernel_rfl
theorem ea79 : elA Try.prog 79 = some (2, 1) := by kernel_rfl
def Z : TypeId → Option AV
  | 3 => some (.int .i64 0)
  | 4 => some (.bool false)
  | 5 => some (.int .u8 0)
  | 9 => some (.str ⟨#[]⟩)
  | 22 => some (.vsl [] 0)
  | 23 => some (.vsl [] 0)
  | 24 => some (.nilptr)
  | 26 => some (.int .i64 0)
  | 28 => some (.agg (bytesAV (zb 256)))
  | 29 => some (.agg (bytesAV (zb 256)))
  | 39 => some (.vsl [] 0)
  | 41 => some (.vsl [] 0)
  | 43 => some (.agg [.int .i64 0, .int .i64 0, .int .u8 0, .vsl [] 0, .vsl [] 0])
  | 47 => some (.agg (List.replicate 8 (.agg (bytesAV (zb 256)))))
  | 50 => some (.nilptr)
  | 51 => some (.vsl [] 0)
  | 53 => some (.agg [.int .i64 0, .nilsl, .nilsl, .nilsl, .int .i64 0, .int .i64 0, .bool false])
  | 61 => some (.nilmap)
  | 62 => some (.vsl [] 0)
  | 63 => some (.nilmap)
  | 65 => some (.agg [.int .i64 0, .nilmap, .nilmap, .nilsl, .nilmap, .int .i64 0, .int .i64 0, .bool false])
  | 67 => some (.agg [.int .i64 0, .int .i64 0])
  | 68 => some (.agg (bytesAV (zb 64)))
  | 69 => some (.agg (bytesAV (zb 64)))
  | 72 => some (.agg [.agg [.int .i64 0, .int .i64 0], .agg (bytesAV (zb 64))])
  | 77 => some (.agg [.int .i64 0, .int .i64 0, .agg (bytesAV (zb 64))])
  | 79 => some (.agg [.vsl [] 0, .vsl [] 0])
  | _ => none
theorem hZ : ∀ T z, Z T = some z → ZeroIs Try.prog T z := by
  intro T z h
  unfold Z at h
  split at h <;> simp only [Option.some.injEq, reduceCtorEq] at h <;> subst h
  · exact ZeroIs.one' (c := .int .i64 0) (by kernel_rfl) rfl
  · exact ZeroIs.one' (c := .bool false) (by kernel_rfl) rfl
  · exact ZeroIs.one' (c := .int .u8 0) (by kernel_rfl) rfl
  · exact ZeroIs.one' (c := .string ⟨#[]⟩) (by kernel_rfl) rfl
  · exact ZeroIs.one' (c := .slice none 0 0) (by kernel_rfl) rfl
  · exact ZeroIs.one' (c := .slice none 0 0) (by kernel_rfl) rfl
  · exact ZeroIs.one' (c := .pointer none) (by kernel_rfl) rfl
  · exact ZeroIs.one' (c := .int .i64 0) (by kernel_rfl) rfl
  · exact ZeroIs.agg' (cs := #[.int .u8 0, .int .u8 0, .int .u8 0, .int .u8 0, .int .u8 0, .int .u8 0, .int .u8 0, .int .u8 0, .int .u8 0, .int .u8 0, .int .u8 0, .int .u8 0, .int .u8 0, .int .u8 0, .int .u8 0, .int .u8 0, .int .u8 0, .int .u8 0, .int .u8 0, .int .u8 0, .int .u8 0, .int .u8 0, .int .u8 0, .int .u8 0, .int .u8 0, .int .u8 0, .int .u8 0, .int .u8 0, .int .u8 0, .int .u8 0, .int .u8 0, .int .u8 0, .int .u8 0, .int .u8 0, .int .u8 0, .int .u8 0, .int .u8 0, .int .u8 0, .int .u8 0, .int .u8 0, .int .u8 0, .int .u8 0, .int .u8 0, .int .u8 0, .int .u8 0, .int .u8 0, .int .u8 0, .int .u8 0, .int .u8 0, .int .u8 0, .int .u8 0, .int .u8 0, .int .u8 0, .int .u8 0, .int .u8 0, .int .u8 0, .int .u8 0, .int .u8 0, .int .u8 0, .int .u8 0, .int .u8 0, .int .u8 0, .int .u8 0, .int .u8 0, .int .u8 0, .int .u8 0, .int .u8 0, .int .u8 0, .int .u8 0, .int .u8 0, .int .u8 0, .int .u8 0, .int .u8 0, .int .u8 0, .int .u8 0, .int .u8 0, .int .u8 0, .int .u8 0, .int .u8 0, .int .u8 0, .int .u8 0, .int .u8 0, .int .u8 0, .int .u8 0, .int .u8 0, .int .u8 0, .int .u8 0, .int .u8 0, .int .u8 0, .int .u8 0, .int .u8 0, .int .u8 0, .int .u8 0, .int .u8 0, .int .u8 0, .int .u8 0, .int .u8 0, .int .u8 0, .int .u8 0, .int .u8 0, .int .u8 0, .int .u8 0, .int .u8 0, .int .u8 0, .int .u8 0, .int .u8 0, .int .u8 0, .int .u8 0, .int .u8 0, .int .u8 0, .int .u8 0, .int .u8 0, .int .u8 0, .int .u8 0, .int .u8 0, .int .u8 0, .int .u8 0, .int .u8 0, .int .u8 0, .int .u8 0, .int .u8 0, .int .u8 0, .int .u8 0, .int .u8 0, .int .u8 0, .int .u8 0, .int .u8 0, .int .u8 0, .int .u8 0, .int .u8 0, .int .u8 0, .int .u8 0, .int .u8 0, .int .u8 0, .int .u8 0, .int .u8 0, .int .u8 0, .int .u8 0, .int .u8 0, .int .u8 0, .int .u8 0, .int .u8 0, .int .u8 0, .int .u8 0, .int .u8 0, .int .u8 0, .int .u8 0, .int .u8 0, .int .u8 0, .int .u8 0, .int .u8 0, .int .u8 0, .int .u8 0, .int .u8 0, .int .u8 0, .int .u8 0, .int .u8 0, .int .u8 0, .int .u8 0, .int .u8 0, .int .u8 0, .int .u8 0, .int .u8 0, .int .u8 0, .int .u8 0, .int .u8 0, .int .u8 0, .int .u8 0, .int .u8 0, .int .u8 0, .int .u8 0, .int .u8 0, .int .u8 0, .int .u8 0, .int .u8 0, .int .u8 0, .int .u8 0, .int .u8 0, .int .u8 0, .int .u8 0, .int .u8 0, .int .u8 0, .int .u8 0, .int .u8 0, .int .u8 0, .int .u8 0, .int .u8 0, .int .u8 0, .int .u8 0, .int .u8 0, .int .u8 0, .int .u8 0, .int .u8 0, .int .u8 0, .int .u8 0, .int .u8 0, .int .u8 0, .int .u8 0, .int .u8 0, .int .u8 0, .int .u8 0, .int .u8 0, .int .u8 0, .int .u8 0, .int .u8 0, .int .u8 0, .int .u8 0, .int .u8 0, .int .u8 0, .int .u8 0, .int .u8 0, .int .u8 0, .int .u8 0, .int .u8 0, .int .u8 0, .int .u8 0, .int .u8 0, .int .u8 0, .int .u8 0, .int .u8 0, .int .u8 0, .int .u8 0, .int .u8 0, .int .u8 0, .int .u8 0, .int .u8 0, .int .u8 0, .int .u8 0, .int .u8 0, .int .u8 0, .int .u8 0, .int .u8 0, .int .u8 0, .int .u8 0, .int .u8 0, .int .u8 0, .int .u8 0, .int .u8 0, .int .u8 0, .int .u8 0, .int .u8 0, .int .u8 0, .int .u8 0, .int .u8 0, .int .u8 0, .int .u8 0, .int .u8 0, .int .u8 0, .int .u8 0, .int .u8 0, .int .u8 0, .int .u8 0, .int .u8 0, .int .u8 0, .int .u8 0, .int .u8 0]) (by kernel_rfl) (by kernel_rfl)
  · exact ZeroIs.agg' (cs := #[.int .u8 0, .int .u8 0, .int .u8 0, .int .u8 0, .int .u8 0, .int .u8 0, .int .u8 0, .int .u8 0, .int .u8 0, .int .u8 0, .int .u8 0, .int .u8 0, .int .u8 0, .int .u8 0, .int .u8 0, .int .u8 0, .int .u8 0, .int .u8 0, .int .u8 0, .int .u8 0, .int .u8 0, .int .u8 0, .int .u8 0, .int .u8 0, .int .u8 0, .int .u8 0, .int .u8 0, .int .u8 0, .int .u8 0, .int .u8 0, .int .u8 0, .int .u8 0, .int .u8 0, .int .u8 0, .int .u8 0, .int .u8 0, .int .u8 0, .int .u8 0, .int .u8 0, .int .u8 0, .int .u8 0, .int .u8 0, .int .u8 0, .int .u8 0, .int .u8 0, .int .u8 0, .int .u8 0, .int .u8 0, .int .u8 0, .int .u8 0, .int .u8 0, .int .u8 0, .int .u8 0, .int .u8 0, .int .u8 0, .int .u8 0, .int .u8 0, .int .u8 0, .int .u8 0, .int .u8 0, .int .u8 0, .int .u8 0, .int .u8 0, .int .u8 0, .int .u8 0, .int .u8 0, .int .u8 0, .int .u8 0, .int .u8 0, .int .u8 0, .int .u8 0, .int .u8 0, .int .u8 0, .int .u8 0, .int .u8 0, .int .u8 0, .int .u8 0, .int .u8 0, .int .u8 0, .int .u8 0, .int .u8 0, .int .u8 0, .int .u8 0, .int .u8 0, .int .u8 0, .int .u8 0, .int .u8 0, .int .u8 0, .int .u8 0, .int .u8 0, .int .u8 0, .int .u8 0, .int .u8 0, .int .u8 0, .int .u8 0, .int .u8 0, .int .u8 0, .int .u8 0, .int .u8 0, .int .u8 0, .int .u8 0, .int .u8 0, .int .u8 0, .int .u8 0, .int .u8 0, .int .u8 0, .int .u8 0, .int .u8 0, .int .u8 0, .int .u8 0, .int .u8 0, .int .u8 0, .int .u8 0, .int .u8 0, .int .u8 0, .int .u8 0, .int .u8 0, .int .u8 0, .int .u8 0, .int .u8 0, .int .u8 0, .int .u8 0, .int .u8 0, .int .u8 0, .int .u8 0, .int .u8 0, .int .u8 0, .int .u8 0, .int .u8 0, .int .u8 0, .int .u8 0, .int .u8 0, .int .u8 0, .int .u8 0, .int .u8 0, .int .u8 0, .int .u8 0, .int .u8 0, .int .u8 0, .int .u8 0, .int .u8 0, .int .u8 0, .int .u8 0, .int .u8 0, .int .u8 0, .int .u8 0, .int .u8 0, .int .u8 0, .int .u8 0, .int .u8 0, .int .u8 0, .int .u8 0, .int .u8 0, .int .u8 0, .int .u8 0, .int .u8 0, .int .u8 0, .int .u8 0, .int .u8 0, .int .u8 0, .int .u8 0, .int .u8 0, .int .u8 0, .int .u8 0, .int .u8 0, .int .u8 0, .int .u8 0, .int .u8 0, .int .u8 0, .int .u8 0, .int .u8 0, .int .u8 0, .int .u8 0, .int .u8 0, .int .u8 0, .int .u8 0, .int .u8 0, .int .u8 0, .int .u8 0, .int .u8 0, .int .u8 0, .int .u8 0, .int .u8 0, .int .u8 0, .int .u8 0, .int .u8 0, .int .u8 0, .int .u8 0, .int .u8 0, .int .u8 0, .int .u8 0, .int .u8 0, .int .u8 0, .int .u8 0, .int .u8 0, .int .u8 0, .int .u8 0, .int .u8 0, .int .u8 0, .int .u8 0, .int .u8 0, .int .u8 0, .int .u8 0, .int .u8 0, .int .u8 0, .int .u8 0, .int .u8 0, .int .u8 0, .int .u8 0, .int .u8 0, .int .u8 0, .int .u8 0, .int .u8 0, .int .u8 0, .int .u8 0, .int .u8 0, .int .u8 0, .int .u8 0, .int .u8 0, .int .u8 0, .int .u8 0, .int .u8 0, .int .u8 0, .int .u8 0, .int .u8 0, .int .u8 0, .int .u8 0, .int .u8 0, .int .u8 0, .int .u8 0, .int .u8 0, .int .u8 0, .int .u8 0, .int .u8 0, .int .u8 0, .int .u8 0, .int .u8 0, .int .u8 0, .int .u8 0, .int .u8 0, .int .u8 0, .int .u8 0, .int .u8 0, .int .u8 0, .int .u8 0, .int .u8 0, .int .u8 0, .int .u8 0, .int .u8 0, .int .u8 0, .int .u8 0, .int .u8 0, .int .u8 0, .int .u8 0, .int .u8 0, .int .u8 0]) (by kernel_rfl) (by kernel_rfl)
  · exact ZeroIs.one' (c := .slice none 0 0) (by kernel_rfl) rfl
  · exact ZeroIs.one' (c := .slice none 0 0) (by kernel_rfl) rfl
  · exact ZeroIs.agg' (cs := #[.int .i64 0, .int .i64 0, .int .u8 0, .slice none 0 0, .slice none 0 0]) (by kernel_rfl) rfl
  · exact ZeroIs.agg' (cs := Array.replicate 2048 (.int .u8 0)) (by kernel_rfl) (by kernel_rfl)
  · exact ZeroIs.one' (c := .pointer none) (by kernel_rfl) rfl
  · exact ZeroIs.one' (c := .slice none 0 0) (by kernel_rfl) rfl
  · exact ZeroIs.mk_agg (cs := #[.int .i64 0, .slice none 0 0, .slice none 0 0, .slice none 0 0, .int .i64 0, .int .i64 0, .bool false]) (by kernel_rfl) rfl
  · exact ZeroIs.one' (c := .map none) (by kernel_rfl) rfl
  · exact ZeroIs.one' (c := .slice none 0 0) (by kernel_rfl) rfl
  · exact ZeroIs.one' (c := .map none) (by kernel_rfl) rfl
  · exact ZeroIs.mk_agg (cs := #[.int .i64 0, .map none, .map none, .slice none 0 0, .map none, .int .i64 0, .int .i64 0, .bool false]) (by kernel_rfl) rfl
  · exact ZeroIs.agg' (cs := #[.int .i64 0, .int .i64 0]) (by kernel_rfl) rfl
  · exact ZeroIs.agg' (cs := #[.int .u8 0, .int .u8 0, .int .u8 0, .int .u8 0, .int .u8 0, .int .u8 0, .int .u8 0, .int .u8 0, .int .u8 0, .int .u8 0, .int .u8 0, .int .u8 0, .int .u8 0, .int .u8 0, .int .u8 0, .int .u8 0, .int .u8 0, .int .u8 0, .int .u8 0, .int .u8 0, .int .u8 0, .int .u8 0, .int .u8 0, .int .u8 0, .int .u8 0, .int .u8 0, .int .u8 0, .int .u8 0, .int .u8 0, .int .u8 0, .int .u8 0, .int .u8 0, .int .u8 0, .int .u8 0, .int .u8 0, .int .u8 0, .int .u8 0, .int .u8 0, .int .u8 0, .int .u8 0, .int .u8 0, .int .u8 0, .int .u8 0, .int .u8 0, .int .u8 0, .int .u8 0, .int .u8 0, .int .u8 0, .int .u8 0, .int .u8 0, .int .u8 0, .int .u8 0, .int .u8 0, .int .u8 0, .int .u8 0, .int .u8 0, .int .u8 0, .int .u8 0, .int .u8 0, .int .u8 0, .int .u8 0, .int .u8 0, .int .u8 0, .int .u8 0]) (by kernel_rfl) (by kernel_rfl)
  · exact ZeroIs.agg' (cs := #[.int .u8 0, .int .u8 0, .int .u8 0, .int .u8 0, .int .u8 0, .int .u8 0, .int .u8 0, .int .u8 0, .int .u8 0, .int .u8 0, .int .u8 0, .int .u8 0, .int .u8 0, .int .u8 0, .int .u8 0, .int .u8 0, .int .u8 0, .int .u8 0, .int .u8 0, .int .u8 0, .int .u8 0, .int .u8 0, .int .u8 0, .int .u8 0, .int .u8 0, .int .u8 0, .int .u8 0, .int .u8 0, .int .u8 0, .int .u8 0, .int .u8 0, .int .u8 0, .int .u8 0, .int .u8 0, .int .u8 0, .int .u8 0, .int .u8 0, .int .u8 0, .int .u8 0, .int .u8 0, .int .u8 0, .int .u8 0, .int .u8 0, .int .u8 0, .int .u8 0, .int .u8 0, .int .u8 0, .int .u8 0, .int .u8 0, .int .u8 0, .int .u8 0, .int .u8 0, .int .u8 0, .int .u8 0, .int .u8 0, .int .u8 0, .int .u8 0, .int .u8 0, .int .u8 0, .int .u8 0, .int .u8 0, .int .u8 0, .int .u8 0, .int .u8 0]) (by kernel_rfl) (by kernel_rfl)
  · exact ZeroIs.agg' (cs := #[.int .i64 0, .int .i64 0, .int .u8 0, .int .u8 0, .int .u8 0, .int .u8 0, .int .u8 0, .int .u8 0, .int .u8 0, .int .u8 0, .int .u8 0, .int .u8 0, .int .u8 0, .int .u8 0, .int .u8 0, .int .u8 0, .int .u8 0, .int .u8 0, .int .u8 0, .int .u8 0, .int .u8 0, .int .u8 0, .int .u8 0, .int .u8 0, .int .u8 0, .int .u8 0, .int .u8 0, .int .u8 0, .int .u8 0, .int .u8 0, .int .u8 0, .int .u8 0, .int .u8 0, .int .u8 0, .int .u8 0, .int .u8 0, .int .u8 0, .int .u8 0, .int .u8 0, .int .u8 0, .int .u8 0, .int .u8 0, .int .u8 0, .int .u8 0, .int .u8 0, .int .u8 0, .int .u8 0, .int .u8 0, .int .u8 0, .int .u8 0, .int .u8 0, .int .u8 0, .int .u8 0, .int .u8 0, .int .u8 0, .int .u8 0, .int .u8 0, .int .u8 0, .int .u8 0, .int .u8 0, .int .u8 0, .int .u8 0, .int .u8 0, .int .u8 0, .int .u8 0, .int .u8 0]) (by kernel_rfl) (by kernel_rfl)
  · exact ZeroIs.agg' (cs := #[.int .i64 0, .int .i64 0, .int .u8 0, .int .u8 0, .int .u8 0, .int .u8 0, .int .u8 0, .int .u8 0, .int .u8 0, .int .u8 0, .int .u8 0, .int .u8 0, .int .u8 0, .int .u8 0, .int .u8 0, .int .u8 0, .int .u8 0, .int .u8 0, .int .u8 0, .int .u8 0, .int .u8 0, .int .u8 0, .int .u8 0, .int .u8 0, .int .u8 0, .int .u8 0, .int .u8 0, .int .u8 0, .int .u8 0, .int .u8 0, .int .u8 0, .int .u8 0, .int .u8 0, .int .u8 0, .int .u8 0, .int .u8 0, .int .u8 0, .int .u8 0, .int .u8 0, .int .u8 0, .int .u8 0, .int .u8 0, .int .u8 0, .int .u8 0, .int .u8 0, .int .u8 0, .int .u8 0, .int .u8 0, .int .u8 0, .int .u8 0, .int .u8 0, .int .u8 0, .int .u8 0, .int .u8 0, .int .u8 0, .int .u8 0, .int .u8 0, .int .u8 0, .int .u8 0, .int .u8 0, .int .u8 0, .int .u8 0, .int .u8 0, .int .u8 0, .int .u8 0, .int .u8 0]) (by kernel_rfl) (by kernel_rfl)
  · exact ZeroIs.agg' (cs := #[.slice none 0 0, .slice none 0 0]) (by kernel_rfl) rfl
theorem Z3 : Z 3 = some (.int .i64 0) := rfl
theorem Z4 : Z 4 = some (.bool false) := rfl
theorem Z5 : Z 5 = some (.int .u8 0) := rfl
theorem Z9 : Z 9 = some (.str ⟨#[]⟩) := rfl
theorem Z22 : Z 22 = some (.vsl [] 0) := rfl
theorem Z23 : Z 23 = some (.vsl [] 0) := rfl
theorem Z24 : Z 24 = some (.nilptr) := rfl
theorem Z26 : Z 26 = some (.int .i64 0) := rfl
theorem Z28 : Z 28 = some (.agg (bytesAV (zb 256))) := rfl
theorem Z29 : Z 29 = some (.agg (bytesAV (zb 256))) := rfl
theorem Z39 : Z 39 = some (.vsl [] 0) := rfl
theorem Z41 : Z 41 = some (.vsl [] 0) := rfl
theorem Z43 : Z 43 = some (.agg [.int .i64 0, .int .i64 0, .int .u8 0, .vsl [] 0, .vsl [] 0]) := rfl
theorem Z47 : Z 47 = some (.agg (List.replicate 8 (.agg (bytesAV (zb 256))))) := rfl
theorem Z50 : Z 50 = some (.nilptr) := rfl
theorem Z51 : Z 51 = some (.vsl [] 0) := rfl
theorem Z53 : Z 53 = some (.agg [.int .i64 0, .nilsl, .nilsl, .nilsl, .int .i64 0, .int .i64 0, .bool false]) := rfl
theorem Z61 : Z 61 = some (.nilmap) := rfl
theorem Z62 : Z 62 = some (.vsl [] 0) := rfl
theorem Z63 : Z 63 = some (.nilmap) := rfl
theorem Z65 : Z 65 = some (.agg [.int .i64 0, .nilmap, .nilmap, .nilsl, .nilmap, .int .i64 0, .int .i64 0, .bool false]) := rfl
theorem Z67 : Z 67 = some (.agg [.int .i64 0, .int .i64 0]) := rfl
theorem Z68 : Z 68 = some (.agg (bytesAV (zb 64))) := rfl
theorem Z69 : Z 69 = some (.agg (bytesAV (zb 64))) := rfl
theorem Z72 : Z 72 = some (.agg [.agg [.int .i64 0, .int .i64 0], .agg (bytesAV (zb 64))]) := rfl
theorem Z77 : Z 77 = some (.agg [.int .i64 0, .int .i64 0, .agg (bytesAV (zb 64))]) := rfl
theorem Z79 : Z 79 = some (.agg [.vsl [] 0, .vsl [] 0]) := rfl
theorem el22 : elemS Try.prog Z 22 = some (.int .u8 0, 1) := by kernel_rfl
theorem em22 : elemM Try.prog Z 22 = some (.int .u8 0, 1, 1) := by kernel_rfl
theorem at22 : apT Try.prog Z 22 22 = some (1, 1) := by kernel_rfl
theorem el23 : elemS Try.prog Z 23 = some (.bool false, 1) := by kernel_rfl
theorem em23 : elemM Try.prog Z 23 = some (.bool false, 1, 1) := by kernel_rfl
theorem at23 : apT Try.prog Z 23 23 = some (1, 1) := by kernel_rfl
theorem bz28 : bldZ Try.prog Z 28 = some (bytesAV (zb 256)) := by kernel_rfl
theorem bz29 : bldZ Try.prog Z 29 = some (bytesAV (zb 256)) := by kernel_rfl
theorem el39 : elemS Try.prog Z 39 = some (.agg [.int .i64 0, .int .i64 0, .int .u8 0, .vsl [] 0, .vsl [] 0], 5) := by kernel_rfl
theorem em39 : elemM Try.prog Z 39 = some (.agg [.int .i64 0, .int .i64 0, .int .u8 0, .vsl [] 0, .vsl [] 0], 5, 72) := by kernel_rfl
theorem at39 : apT Try.prog Z 39 39 = some (5, 72) := by kernel_rfl
theorem el41 : elemS Try.prog Z 41 = some (.int .i64 0, 1) := by kernel_rfl
theorem em41 : elemM Try.prog Z 41 = some (.int .i64 0, 1, 8) := by kernel_rfl
theorem at41 : apT Try.prog Z 41 41 = some (1, 8) := by kernel_rfl
theorem bz43 : bldZ Try.prog Z 43 = some [.int .i64 0, .int .i64 0, .int .u8 0, .vsl [] 0, .vsl [] 0] := by kernel_rfl
theorem bz47 : bldZ Try.prog Z 47 = some (List.replicate 8 (.agg (bytesAV (zb 256)))) := by kernel_rfl
theorem el51 : elemS Try.prog Z 51 = some (.agg [.int .i64 0, .int .i64 0, .agg (bytesAV (zb 64))], 66) := by kernel_rfl
theorem em51 : elemM Try.prog Z 51 = some (.agg [.int .i64 0, .int .i64 0, .agg (bytesAV (zb 64))], 66, 80) := by kernel_rfl
theorem at51 : apT Try.prog Z 51 51 = some (66, 80) := by kernel_rfl
theorem bz53 : bldZ Try.prog Z 53 = some [.int .i64 0, .nilsl, .nilsl, .nilsl, .int .i64 0, .int .i64 0, .bool false] := by kernel_rfl
theorem el62 : elemS Try.prog Z 62 = some (.agg [.agg [.int .i64 0, .int .i64 0], .agg (bytesAV (zb 64))], 66) := by kernel_rfl
theorem em62 : elemM Try.prog Z 62 = some (.agg [.agg [.int .i64 0, .int .i64 0], .agg (bytesAV (zb 64))], 66, 80) := by kernel_rfl
theorem at62 : apT Try.prog Z 62 62 = some (66, 80) := by kernel_rfl
theorem bz65 : bldZ Try.prog Z 65 = some [.int .i64 0, .nilmap, .nilmap, .nilsl, .nilmap, .int .i64 0, .int .i64 0, .bool false] := by kernel_rfl
theorem bz67 : bldZ Try.prog Z 67 = some [.int .i64 0, .int .i64 0] := by kernel_rfl
theorem bz68 : bldZ Try.prog Z 68 = some (bytesAV (zb 64)) := by kernel_rfl
theorem bz69 : bldZ Try.prog Z 69 = some (bytesAV (zb 64)) := by kernel_rfl
theorem bz72 : bldZ Try.prog Z 72 = some [.agg [.int .i64 0, .int .i64 0], .agg (bytesAV (zb 64))] := by kernel_rfl
theorem bz77 : bldZ Try.prog Z 77 = some [.int .i64 0, .int .i64 0, .agg (bytesAV (zb 64))] := by kernel_rfl
theorem bz79 : bldZ Try.prog Z 79 = some [.vsl [] 0, .vsl [] 0] := by kernel_rfl
theorem at22_9 : apT Try.prog Z 22 9 = some (1, 1) := by kernel_rfl
end Go.Proofs.Ytpnjllemklindaa
