import Derived.Test.YtimdepgenefkmaaP30
set_option maxRecDepth 8000
set_option linter.unusedVariables false
set_option linter.unusedSimpArgs false
namespace Go.Proofs.Ytimdepgenefkmaa
open Go Go.RowKit

def Ud.zero : Ud := ⟨0, []⟩
theorem uzero_ok : Ud.zero.Ok := ⟨by decide, by decide, fun o ho => by cases ho⟩
def rightP (uu : Bool) (no : Nat) (p : List UInt8) : Bool := if uu then (getUndo no p).isSome else getOk no p
theorem right_spec (uu : Bool) (no : Nat) (hno : no < 65536) (p : List UInt8) (hp : p.length = 224) : ACall Try.prog 14 [idAV uu no, arrAV p] [] (.bool (rightP uu no p)) [] := by
  cases uu
  · exact rightD_spec no hno p hp
  refine ACall.run (Z := Z) (N := 29) mixed hZ Try.func14 rfl rfl (by kernel_rfl) (by simp) args_idp 0 ?_
  have hg : ACall Try.prog 33 [.int .u16 no, arrAV p] [] (.tuple [((getUndo no p).getD ⟨0, []⟩).av, .int .i64 (if (getUndo no p).isSome then 0 else 2)]) [] := getUndo_spec no hno p hp
  have hr : rightP true no p = (getUndo no p).isSome := rfl
  obtain ⟨u, hu⟩ : ∃ u, (getUndo no p).getD ⟨0, []⟩ = u := ⟨_, rfl⟩
  obtain ⟨b, hb⟩ : ∃ b, (getUndo no p).isSome = b := ⟨_, rfl⟩
  rw [hu, hb] at hg
  rw [hr, hb]
  have hc : ((if b = true then (0 : Int) else 2) == 0) = b := by cases b <;> rfl
  simp -dsimp -implicitDefEqProofs only [↓j0, ↓j1, ↓j7, ↓j12, ↓j13, ↓j15, j17, j18, j20, ↓j25, ↓j27, ↓j29, ↓j30, j32, ↓j39, ↓j42, ↓j43, ↓j45, ↓j53, ↓j76, ↓j79, j129, j130, j131, ↓j145, ↓j146, ↓j147, ↓j149, ↓j153, AV.proj, AV.offOf, AV.size, AV.sizeL, AV.layable, argEnv, j163, j164, j166, j167, j170, j171, j172, reduceCtorEq, ↓reduceIte, Nat.reduceAdd, Nat.reduceEqDiff, j182, j196, j197, j240, j253, j261, j266, j269, j273, j274, hp]
  refine CallTo.pure (args := [.int .u16 no, arrAV p]) rfl fok33 (by simp -dsimp -implicitDefEqProofs only [↓j25, ↓j29, j173, j174, ↓reduceIte, Nat.reduceEqDiff]) (fun x hx => (args_np x hx).2) hg ?_
  simp -dsimp -implicitDefEqProofs only [↓j0, ↓j1, ↓j7, ↓j10, ↓j12, ↓j15, j17, j18, j19, j20, j21, j22, j23, ↓j25, ↓j27, ↓j29, ↓j30, j33, ↓j38, ↓j39, ↓j41, ↓j44, ↓j48, ↓j57, ↓j78, j85, ↓j89, ↓j145, ↓j146, ↓j153, j157, AV.proj, AV.offOf, AV.upd, AV.size, AV.sizeL, AV.layable, j163, j164, j170, j171, reduceCtorEq, ↓reduceIte, Nat.reduceAdd, Nat.reduceEqDiff, j182, j185, j197, j391, j433, hc]
  exact Final.one (.inr rfl) (r := .tmp 4) rfl ⟨rfl, fun vs h => by cases h⟩ (fun vs h => by cases h) (fun vs h => by cases h) (.same _ trivial)
theorem rright_spec (uu : Bool) (no : Nat) (hno : no < 65536) (p : List UInt8) (hp : p.length = 224) : ACall Try.prog 31 [idAV uu no, arrAV p] [] (.bool (rightP uu no p)) [] := by
  refine ACall.run (Z := Z) (N := 27) mixed hZ Try.func31 rfl rfl (by kernel_rfl) (by simp) args_idp 0 ?_
  cases uu
  · have hg : ACall Try.prog 22 [.int .u16 no, arrAV p] [] (.tuple [(rgetData no p).1.av, .bool (rgetData no p).2]) [] := rgetData_spec no hno p hp
    have hr : rightP false no p = (rgetData no p).2 := by
      rw [rget_get hno hp]
      show getOk no p = _
      unfold getData; cases getOk no p <;> rfl
    have hgl : (rgetData no p).1.body.length = 64 := by rw [rget_get hno hp]; exact getData_len hp
    obtain ⟨⟨D, b⟩, hD⟩ : ∃ u, rgetData no p = u := ⟨_, rfl⟩
    rw [hD] at hg hr hgl
    have hgl : D.body.length = 64 := hgl
    rw [hr]
    simp -dsimp -implicitDefEqProofs only [↓j0, ↓j1, ↓j7, ↓j9, ↓j12, ↓j13, ↓j15, j17, j18, j20, ↓j25, ↓j27, ↓j29, ↓j30, j32, ↓j39, ↓j42, ↓j43, ↓j45, ↓j53, ↓j76, ↓j79, j129, j130, j131, ↓j145, ↓j146, ↓j148, ↓j149, ↓j153, AV.proj, AV.offOf, AV.size, AV.sizeL, AV.layable, argEnv, j163, j164, j166, j167, j170, j171, j172, reduceCtorEq, ↓reduceIte, Nat.reduceAdd, Nat.reduceEqDiff, j182, j196, j197, j240, j253, j261, j266, j269, j273, j274, hp]
    refine CallTo.pure (args := [.int .u16 no, arrAV p]) rfl fok22 (by simp -dsimp -implicitDefEqProofs only [↓j25, ↓j29, j173, j174, ↓reduceIte, Nat.reduceEqDiff]) (fun x hx => (args_np x hx).2) hg ?_
    simp -dsimp -implicitDefEqProofs only [↓j0, ↓j1, ↓j7, ↓j10, ↓j12, ↓j15, j17, j18, j19, j20, j21, j22, j23, ↓j25, ↓j27, ↓j29, ↓j38, ↓j39, ↓j41, ↓j44, ↓j57, ↓j78, j85, ↓j145, ↓j146, ↓j153, AV.proj, AV.offOf, AV.upd, AV.size, AV.sizeL, AV.layable, j163, j164, j170, j171, reduceCtorEq, ↓reduceIte, Nat.reduceAdd, Nat.reduceEqDiff, j182, j197, j240, j243, j371, j431, hgl]
    exact Final.one (.inr rfl) (r := .tmp 4) rfl ⟨rfl, fun vs h => by cases h⟩ (fun vs h => by cases h) (fun vs h => by cases h) (.same _ trivial)
  have hg : ACall Try.prog 25 [.int .u16 no, arrAV p] [] (.tuple [((getUndo no p).getD ⟨0, []⟩).av, .bool (getUndo no p).isSome]) [] := by
    have := rgetUndo_spec no hno p hp
    rw [rget_getU hno hp] at this
    exact this
  have hr : rightP true no p = (getUndo no p).isSome := rfl
  obtain ⟨u, hu⟩ : ∃ u, (getUndo no p).getD ⟨0, []⟩ = u := ⟨_, rfl⟩
  obtain ⟨b, hb⟩ : ∃ b, (getUndo no p).isSome = b := ⟨_, rfl⟩
  rw [hu, hb] at hg
  rw [hr, hb]
  simp -dsimp -implicitDefEqProofs only [↓j0, ↓j1, ↓j7, ↓j12, ↓j13, ↓j15, j17, j18, j20, ↓j25, ↓j27, ↓j29, ↓j30, j32, ↓j39, ↓j42, ↓j43, ↓j45, ↓j53, ↓j76, ↓j79, j129, j130, j131, ↓j145, ↓j146, ↓j147, ↓j149, ↓j153, AV.proj, AV.offOf, AV.size, AV.sizeL, AV.layable, argEnv, j163, j164, j166, j167, j170, j171, j172, reduceCtorEq, ↓reduceIte, Nat.reduceAdd, Nat.reduceEqDiff, j182, j196, j197, j240, j253, j261, j266, j269, j273, j274, hp]
  refine CallTo.pure (args := [.int .u16 no, arrAV p]) rfl fok25 (by simp -dsimp -implicitDefEqProofs only [↓j25, ↓j29, j173, j174, ↓reduceIte, Nat.reduceEqDiff]) (fun x hx => (args_np x hx).2) hg ?_
  simp -dsimp -implicitDefEqProofs only [↓j0, ↓j1, ↓j7, ↓j10, ↓j12, ↓j15, j17, j18, j19, j20, j21, j22, j23, ↓j25, ↓j27, ↓j29, ↓j38, ↓j39, ↓j41, ↓j44, ↓j57, ↓j78, j85, ↓j145, ↓j146, ↓j153, AV.proj, AV.offOf, AV.upd, AV.size, AV.sizeL, AV.layable, j163, j164, j170, j171, reduceCtorEq, ↓reduceIte, Nat.reduceAdd, Nat.reduceEqDiff, j182, j197, j391, j433]
  exact Final.one (.inr rfl) (r := .tmp 4) rfl ⟨rfl, fun vs h => by cases h⟩ (fun vs h => by cases h) (fun vs h => by cases h) (.same _ trivial)
end Go.Proofs.Ytimdepgenefkmaa
