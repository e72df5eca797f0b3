/- The watchman of the log's blocks. -/
import Derived.Test.YtbhhbadeabhfcaaC5
set_option linter.unusedVariables false
set_option linter.unusedSimpArgs false
namespace Go.Proofs.Ytbhhbadeabhfcaa
open Go Go.RowKit

def c0 : Ch := ⟨2, 5, 7, [120]⟩
theorem c0_wf : c0.Wf := ⟨by decide, by decide, by decide, by decide⟩
theorem c0_back : unpackP (packP c0) = (c0, true) := by kernel_rfl
theorem c0_ok : packOk c0 = true := by decide
theorem fok10 : fnOk Try.prog 10 = true := by kernel_rfl
theorem fok12 : fnOk Try.prog 12 = true := by kernel_rfl
theorem fok14 : fnOk Try.prog 14 = true := by kernel_rfl
theorem awake_spec : ACall Try.prog 14 [] [] (.bool true) [] := by
  refine ACall.run (Z := Z) (N := 25) mixed hZ Try.func14 rfl rfl (by kernel_rfl) (by simp) (fun x hx => by simp at hx) 0 ?_
  have hp := pack_spec c0 c0_wf
  have hu := unpack_spec (packP c0) (packP_len c0)
  rw [c0_back] at hu
  have hpl := packP_len c0
  have e0 : packAV c0 = .tuple [arrAV (packP c0), .int .i64 0] := by rw [packAV, c0_ok]; rfl
  rw [e0] at hp
  obtain ⟨l, hl⟩ : ∃ l, packP c0 = l := ⟨_, rfl⟩
  rw [hl] at hp hu hpl
  have hav : AV.agg [AV.int .u32 2, AV.int .u32 5, AV.int .u64 7, AV.str ⟨#[120]⟩] = c0.av := rfl
  simp -dsimp -implicitDefEqProofs only [↓j0, ↓j1, ↓j7, ↓j12, ↓j15, j17, j18, j20, ↓j30, j32, j33, j34, ↓j39, ↓j53, ↓j54, ↓j111, j112, j113, j114, j115, ↓j129, ↓j130, partsAV, AV.size, AV.sizeL, AV.layable, argEnv, j147, j148, j150, j151, j152, j153, j156, j163, j164, Nat.reduceAdd, j166, j167, j181, j197, j198, j199, j200, j201, j250, j253, j256, j259, j361, hav]
  refine CallTo.pure (args := [c0.av]) rfl fok10 (by simp -dsimp -implicitDefEqProofs only [↓j25, ↓j29, j157, j158, ↓reduceIte]) (fun x hx => (args_ch x hx).2) hp ?_
  have hz := zb_len 256
  simp -dsimp -implicitDefEqProofs only [↓j0, ↓j1, ↓j7, ↓j12, ↓j15, j17, j18, j19, j20, j21, j22, j23, ↓j25, ↓j27, ↓j29, ↓j38, ↓j39, ↓j41, ↓j43, ↓j44, ↓j53, ↓j57, ↓j63, ↓j65, j72, j116, ↓j129, ↓j130, ↓j137, AV.proj, AV.offOf, AV.upd, AV.size, AV.layable, j147, j148, j155, j156, ↓reduceIte, Nat.reduceEqDiff, j166, j180, j224, j267, j268, j347, hpl, hz]
  refine CallTo.pure (args := [arrAV l]) rfl fok12 (by simp -dsimp -implicitDefEqProofs only [↓j25, ↓j29, j157, j158, ↓reduceIte]) (fun x hx => (args_arr x hx).2) hu ?_
  have hk : cellsEq [AV.int .u32 ((2 : Nat) : Int), AV.int .u32 ((5 : Nat) : Int), AV.int .u64 ((7 : Nat) : Int), AV.str ⟨([120] : List UInt8).toArray⟩] [AV.int .u32 2, AV.int .u32 5, AV.int .u64 7, AV.str ⟨#[120]⟩] = some true := by kernel_rfl
  have q1 : c0.ep = 2 := rfl
  have q2 : c0.no = 5 := rfl
  have q3 : c0.off = 7 := rfl
  have q4 : c0.by_ = [120] := rfl
  simp -dsimp -implicitDefEqProofs only [↓j0, ↓j1, ↓j2, ↓j7, ↓j10, ↓j12, ↓j15, j17, j18, j19, j20, j21, j22, j23, ↓j25, ↓j27, ↓j29, ↓j30, j32, j33, j34, ↓j38, ↓j39, ↓j40, ↓j41, ↓j43, ↓j44, ↓j48, ↓j54, ↓j57, ↓j63, ↓j65, j70, j72, ↓j76, ↓j78, ↓j111, j112, j113, j114, j115, j116, ↓j129, ↓j130, ↓j131, ↓j134, ↓j137, j141, partsAV, AV.proj, AV.offOf, AV.upd, AV.size, AV.sizeL, AV.layable, AV.flat, AV.flatL, j147, j148, j150, j151, j152, j153, j154, j155, j156, j157, j158, j159, j163, j164, reduceCtorEq, ↓reduceIte, Nat.reduceAdd, Nat.reduceEqDiff, j166, j167, j169, j179, j181, j195, kindOf, j197, j198, j199, j200, j201, Int.reduceBEq, j246, j247, j250, j253, j256, j259, j260, j261, j345, j361, hk, q1, q2, q3, q4]
  exact Final.one (.inr rfl) (r := .tmp 0) rfl ⟨rfl, fun vs h => by cases h⟩ (fun vs h => by cases h) (fun vs h => by cases h) (.same _ trivial)
end Go.Proofs.Ytbhhbadeabhfcaa
