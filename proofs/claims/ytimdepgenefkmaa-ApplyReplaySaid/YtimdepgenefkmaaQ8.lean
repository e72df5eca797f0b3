import Derived.Test.YtimdepgenefkmaaQ7
set_option maxRecDepth 8000
set_option linter.unusedVariables false
set_option linter.unusedSimpArgs false
namespace Go.Proofs.Ytimdepgenefkmaa
open Go Go.RowKit

def E0 : En := ⟨9, ⟨2, false, 1, zb 224, 4, 0, 0, [], 0, .zero⟩⟩
def D0 : Dt := ⟨9, 4, 0, 0, zb 64⟩
theorem rz_ok {k no ts : Nat} {uu : Bool} (hk : k < 256) (hno : no < 65536) (ht : ts < 4294967296) : Rc.Ok ⟨k, uu, no, zb 224, ts, 0, 0, [], 0, .zero⟩ := ⟨hk, hno, zb_len 224, ht, show (0 : Nat) < 65536 by decide, show (0 : Nat) ≤ _ by omega, show (0 : Nat) < 256 by decide, od_zero_ok⟩
theorem e0_ok : E0.Ok := ⟨by decide, rz_ok (by decide) (by decide) (by decide)⟩
theorem d0_ok : D0.Ok := ⟨by decide, by decide, by decide, zb_len 64⟩
theorem getData_put {no : Nat} (hno : no < 65536) {d : Dt} (hd : d.Ok) : getData no (putData no d) = (d, true) := by
  unfold getData
  rw [(dt_back hno hd).2, (dt_back hno hd).1, if_pos rfl]
theorem redo0 : redoP false 1 (putData 1 .zero) E0 = (putData 1 D0, 0) := by
  have hm : mayR E0.rc = true := by kernel_rfl
  have hg := getData_put (no := 1) (by decide) zero_ok
  have h1 : ¬ (mayR E0.rc = false ∨ E0.rc.kind = 6 ∨ ¬ (E0.rc.undo = false ∧ E0.rc.no = 1)) := by
    rintro (h | h | h)
    · rw [hm] at h; cases h
    · cases h
    · exact h ⟨rfl, rfl⟩
  have k1 : ∀ q : List UInt8, (if E0.rc.kind = 1 then E0.rc.image else q) = q := fun q => if_neg (show ¬ (2 : Nat) = 1 by decide)
  have k2 : E0.rc.kind = 2 := rfl
  have h2 : dApplyR Dt.zero.body E0.rc.delta = (zb 64, 0) := rfl
  unfold redoP
  rw [if_neg h1, if_neg Bool.false_ne_true, k1, hg, if_neg (by simp), if_pos k2, h2, if_pos rfl]
  rfl
theorem fok10 : fnOk Try.prog 10 = true := by kernel_rfl
theorem args_nil : ∀ x, x ∈ ([] : List AV) → AV.on (fun _ => False) x ∧ ∀ vs, x ≠ .tuple vs := fun x hx => by cases hx
theorem awake_spec : ACall Try.prog 10 [] [] (.bool true) [] := by
  refine ACall.run (Z := Z) (N := 38) mixed hZ Try.func10 rfl rfl (by kernel_rfl) (by simp) args_nil 0 ?_
  have hz := zb_len 224
  have hb := blankD_spec 1 (by decide)
  have hpl : (putData 1 .zero).length = 224 := putData_len zero_ok
  have hr := redo_spec false 1 (by decide) (putData 1 .zero) hpl E0 e0_ok
  rw [redo0] at hr
  have hql : (putData 1 D0).length = 224 := putData_len d0_ok
  have hg := getData_spec 1 (by decide) (putData 1 D0) hql
  rw [getData_put (by decide) d0_ok] at hg
  obtain ⟨P, hP⟩ : ∃ P, putData 1 .zero = P := ⟨_, rfl⟩
  obtain ⟨Q, hQ⟩ : ∃ Q, putData 1 D0 = Q := ⟨_, rfl⟩
  rw [hP] at hb hpl hr
  rw [hQ] at hr hql hg
  simp -dsimp -implicitDefEqProofs only [↓j0, ↓j1, ↓j4, ↓j7, ↓j8, ↓j12, ↓j15, j17, j18, j19, j20, j21, j22, j23, j24, ↓j25, ↓j27, ↓j29, ↓j30, j32, j33, ↓j39, ↓j41, ↓j43, ↓j44, ↓j53, ↓j54, ↓j76, ↓j78, ↓j124, j125, j126, j127, j128, j129, ↓j145, ↓j146, ↓j153, partsAV, AV.proj, AV.offOf, AV.upd, AV.size, AV.sizeL, AV.layable, argEnv, j163, j164, j166, j167, j168, j169, j170, j171, j172, j174, j179, j180, ↓reduceIte, Nat.reduceAdd, Nat.reduceEqDiff, j182, j183, j196, j197, j213, j214, j215, j217, j263, j264, j270, j418, j438]
  refine CallTo.pure (args := [idAV false 1]) rfl fok30 (by simp -dsimp -implicitDefEqProofs only [↓j25, ↓j29, j173, j174, ↓reduceIte] <;> rfl) (fun x hx => (args_id x hx).2) hb ?_
  simp -dsimp -implicitDefEqProofs only [↓j4, j17, j18, j20, j24, ↓j25, ↓j27, ↓j29, ↓j30, j33, ↓j43, ↓j53, ↓j54, ↓j76, ↓j124, j125, j126, j127, j128, j129, ↓j145, ↓j146, ↓j153, partsAV, AV.proj, AV.offOf, AV.size, AV.sizeL, AV.layable, j163, j164, j166, j167, j168, j169, j170, j171, j172, j174, j179, j180, ↓reduceIte, Nat.reduceAdd, Nat.reduceEqDiff, j182, j183, j197, j213, j214, j215, j216, j217, j240, j263, j264, j317, j320, j326, j345, j348, j442, j443, hz]
  refine CallTo.pure (args := [idAV false 1, arrAV P, E0.av]) rfl fok8 (by simp -dsimp -implicitDefEqProofs only [↓j25, ↓j29, j173, j174, ↓reduceIte, Nat.reduceEqDiff] <;> rfl) (fun x hx => (args_ipe x hx).2) hr ?_
  simp -dsimp -implicitDefEqProofs only [↓j3, ↓j4, j17, j18, j19, j20, j21, j22, j23, j24, ↓j25, ↓j27, ↓j29, ↓j38, ↓j39, ↓j41, ↓j44, ↓j57, ↓j78, j85, ↓j145, ↓j146, ↓j153, AV.proj, AV.offOf, AV.upd, AV.size, AV.layable, j163, j164, j170, j171, j172, j173, j174, reduceCtorEq, ↓reduceIte, Nat.reduceAdd, Nat.reduceEqDiff, j182, j240, j273, j419, hz, hql]
  refine ⟨by kernel_rfl, ?_⟩
  simp -dsimp -implicitDefEqProofs only [↓j1, ↓j7, ↓j12, ↓j15, j17, j18, j20, ↓j25, ↓j27, ↓j29, ↓j43, ↓j53, ↓j76, j129, ↓j145, ↓j146, ↓j153, AV.proj, AV.offOf, j171, ↓reduceIte, Nat.reduceEqDiff, j182, j240, j273, j274, hql]
  refine CallTo.pure (args := [.int .u16 ((1 : Nat) : Int), arrAV Q]) rfl fok18 (by simp -dsimp -implicitDefEqProofs only [↓j25, ↓j29, ↓j30, j33, j173, j174, ↓reduceIte] <;> rfl) (fun x hx => (args_np x hx).2) hg ?_
  have z0 : ((0 : Int) == 0) = true := rfl
  have z4 : ((D0.ts : Int) == 4) = true := rfl
  have z9 : ((D0.lsn : Int) == 9) = true := rfl
  have hbl : D0.body.length = 64 := zb_len 64
  simp -dsimp -implicitDefEqProofs only [↓j0, ↓j1, ↓j2, ↓j7, ↓j10, ↓j12, ↓j15, j17, j18, j19, j20, j21, j22, j23, ↓j25, ↓j27, ↓j29, ↓j30, j32, j33, ↓j38, ↓j39, ↓j40, ↓j41, ↓j43, ↓j44, ↓j45, ↓j48, ↓j57, ↓j76, ↓j78, ↓j79, j83, j85, ↓j89, j130, ↓j145, ↓j146, ↓j147, ↓j150, ↓j153, j157, AV.proj, AV.offOf, AV.upd, AV.size, AV.sizeL, AV.layable, j163, j164, j166, j167, j170, j171, j175, reduceCtorEq, ↓reduceIte, Nat.reduceAdd, Nat.reduceEqDiff, j182, j185, j196, j197, j240, j243, j279, j282, j371, j374, j377, j431, hbl, z0, z4, z9]
  exact Final.one (.inr rfl) (r := .tmp 0) rfl ⟨rfl, fun vs h => by cases h⟩ (fun vs h => by cases h) (fun vs h => by cases h) (.same _ trivial)
end Go.Proofs.Ytimdepgenefkmaa
