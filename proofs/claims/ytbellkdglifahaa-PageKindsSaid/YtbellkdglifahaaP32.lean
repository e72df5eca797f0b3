/- The law PageKinds. -/
import Derived.Test.YtbellkdglifahaaP31
set_option linter.unusedVariables false
set_option linter.unusedSimpArgs false
namespace Go.Proofs.Ytbellkdglifahaa
open Go Go.RowKit

theorem args_iip {u v : Bool} {no on : Nat} {p : List UInt8} : ∀ x, x ∈ [idAV u no, idAV v on, arrAV p] → AV.on (fun _ => False) x ∧ ∀ vs, x ≠ .tuple vs := fun x hx => by
  simp only [List.mem_cons, List.not_mem_nil, or_false] at hx
  rcases hx with rfl | rfl | rfl
  · exact ⟨⟨trivial, trivial, trivial⟩, fun vs h => by cases h⟩
  · exact ⟨⟨trivial, trivial, trivial⟩, fun vs h => by cases h⟩
  · exact ⟨on_bytes _ _, fun vs h => by cases h⟩
theorem pageKinds_spec (uu : Bool) (no : Nat) (hno : no < 65536) (vv : Bool) (on : Nat) (hon : on < 65536) (p : List UInt8) (hp : p.length = 224) : ACall Try.prog 5 [idAV uu no, idAV vv on, arrAV p] [] (.bool true) [] := by
  refine ACall.run (Z := Z) (N := 35) mixed hZ Try.func5 rfl rfl (by kernel_rfl) (by simp) args_iip 0 ?_
  have nil0 : ∀ x : AV, x ∈ ([] : List AV) → ∀ vs, x ≠ .tuple vs := fun x hx => by simp at hx
  have hz := zb_len 224
  have hbs := blank_spec uu no hno
  have hrb := rblank_spec uu no hno
  have hbl : (blankP uu no).length = 224 := blankP_len
  have hrs := right_spec vv on hon (blankP uu no) hbl
  have hr2 := right_spec uu no hno p hp
  have hr3 := rright_spec uu no hno p hp
  rw [right_blank hno hon] at hrs
  obtain ⟨q, hq⟩ : ∃ q, blankP uu no = q := ⟨_, rfl⟩
  rw [hq] at hbs hrb hbl hrs
  have hce := cellsEq_bytes (l := q) (k := q) rfl
  rw [beq_self_eq_true] at hce
  have hk1 := kinds_bytes hbl
  have hci : cellsEq [AV.bool uu, .int .u16 no] [AV.bool vv, .int .u16 on] = some ((uu == vv) && ((no : Int) == (on : Int))) := cellsEq_cons (x := AV.bool uu) (y := AV.bool vv) (a := uu == vv) rfl (by
    have := cellsEq_cons (scEq_int (k := .u16) (a := no) (b := on)) cellsEq_nil
    rw [Bool.and_true] at this
    exact this)
  obtain ⟨e, he⟩ : ∃ e, ((uu == vv) && ((no : Int) == (on : Int))) = e := ⟨_, rfl⟩
  rw [he] at hci hrs
  obtain ⟨r, hr⟩ : ∃ r, rightP uu no p = r := ⟨_, rfl⟩
  rw [hr] at hr2 hr3
  have e1 : (e == e) = true := by cases e <;> rfl
  have e2 : (r == r) = true := by cases r <;> rfl
  simp -dsimp -implicitDefEqProofs only [↓j0, ↓j1, ↓j7, ↓j12, ↓j15, j17, j18, j20, ↓j25, ↓j27, ↓j29, ↓j30, j32, ↓j39, ↓j42, ↓j43, ↓j53, ↓j76, j129, ↓j145, ↓j146, ↓j153, AV.proj, AV.offOf, AV.size, AV.sizeL, AV.layable, argEnv, j170, j171, j172, reduceCtorEq, ↓reduceIte, Nat.reduceAdd, Nat.reduceEqDiff, j182, j196, j197, j320, j321]
  refine CallTo.pure (args := [idAV uu no]) rfl fok25 (by simp -dsimp -implicitDefEqProofs only [↓j25, ↓j29, j173, j174, ↓reduceIte]) (fun x hx => (args_id x hx).2) hbs ?_
  simp -dsimp -implicitDefEqProofs only [↓j0, ↓j1, ↓j4, ↓j8, ↓j12, ↓j15, j17, j18, j19, j20, j21, j22, j23, j24, ↓j25, ↓j27, ↓j29, ↓j41, ↓j43, ↓j44, ↓j53, ↓j76, ↓j78, j129, ↓j145, ↓j146, ↓j153, AV.proj, AV.offOf, AV.upd, AV.size, AV.sizeL, AV.layable, j170, j171, j172, j174, reduceCtorEq, ↓reduceIte, Nat.reduceAdd, Nat.reduceEqDiff, j182, j197, j240, j243, j300, j301, j320, j321, j367, hbl]
  refine CallTo.pure (args := [idAV uu no]) rfl fok26 (by simp -dsimp -implicitDefEqProofs only [↓j25, ↓j29, j173, j174, ↓reduceIte]) (fun x hx => (args_id x hx).2) hrb ?_
  simp -dsimp -implicitDefEqProofs only [↓j4, ↓j5, j17, j18, j20, j24, ↓j25, ↓j27, ↓j29, ↓j38, ↓j43, ↓j48, ↓j53, ↓j76, ↓j91, j129, ↓j145, ↓j146, ↓j147, ↓j150, ↓j153, AV.proj, AV.offOf, AV.size, AV.sizeL, j163, j164, j170, j171, j172, j174, j175, ↓reduceIte, Nat.reduceAdd, Nat.reduceEqDiff, j182, j195, j197, j211, j240, j241, j300, j301, j303, j304, j320, j321, hbl, hce, hk1]
  refine CallTo.pure (args := [idAV vv on, arrAV q]) rfl fok27 (by simp -dsimp -implicitDefEqProofs only [↓j25, ↓j29, j173, j174, ↓reduceIte, Nat.reduceEqDiff]) (fun x hx => (args_idp x hx).2) hrs ?_
  simp -dsimp -implicitDefEqProofs only [↓j4, ↓j5, j17, j18, j20, j24, ↓j25, ↓j27, ↓j29, ↓j30, j32, ↓j38, ↓j40, ↓j43, ↓j48, ↓j53, ↓j76, j83, ↓j90, ↓j91, j129, ↓j145, ↓j146, ↓j147, ↓j150, ↓j153, AV.proj, AV.offOf, AV.size, AV.sizeL, AV.flat, AV.flatL, j163, j164, j170, j171, j172, j173, j174, j175, reduceCtorEq, ↓reduceIte, Nat.reduceAdd, Nat.reduceEqDiff, j182, j195, j197, j211, kindOf, j240, j300, j301, j320, j321, j328, j329, j390, hp, hci, e1]
  refine CallTo.pure (args := [idAV uu no, arrAV p]) rfl fok27 (by simp -dsimp -implicitDefEqProofs only [↓j25, ↓j29, j173, j174, ↓reduceIte, Nat.reduceEqDiff]) (fun x hx => (args_idp x hx).2) hr2 ?_
  simp -dsimp -implicitDefEqProofs only [↓j5, j17, j18, j20, j24, ↓j25, ↓j27, ↓j29, ↓j43, ↓j53, ↓j76, j129, ↓j145, ↓j146, ↓j147, ↓j150, ↓j153, AV.proj, AV.offOf, AV.size, AV.sizeL, j163, j164, j170, j171, j172, j174, j175, reduceCtorEq, ↓reduceIte, Nat.reduceAdd, Nat.reduceEqDiff, j182, j197, j240, j300, j301, j320, j321, hp]
  refine CallTo.pure (args := [idAV uu no, arrAV p]) rfl fok28 (by simp -dsimp -implicitDefEqProofs only [↓j25, ↓j29, j173, j174, ↓reduceIte, Nat.reduceEqDiff]) (fun x hx => (args_idp x hx).2) hr3 ?_
  simp -dsimp -implicitDefEqProofs only [↓j4, ↓j5, j17, j18, j20, j24, ↓j25, ↓j29, ↓j30, j32, ↓j38, ↓j40, ↓j48, ↓j53, j83, ↓j90, ↓j145, ↓j146, ↓j147, ↓j150, j163, j164, j170, j171, j172, j174, j175, ↓reduceIte, Nat.reduceEqDiff, j195, j211, j390, e2]
  refine CallTo.pure (args := []) rfl fok15 rfl nil0 awake_spec ?_
  simp -dsimp -implicitDefEqProofs only [↓j3, ↓j4, j17, j18, j20, j24, ↓j25, ↓j29, ↓j30, j32, ↓j39, ↓j40, j83, ↓j145, j170, j171, j172, j174, ↓reduceIte, Nat.reduceEqDiff]
  refine ⟨by kernel_rfl, ?_⟩
  simp -dsimp -implicitDefEqProofs only [↓j10]
  exact Final.one (.inr rfl) (r := .tmp 6) rfl ⟨rfl, fun vs h => by cases h⟩ (fun vs h => by cases h) (fun vs h => by cases h) (.same _ trivial)
end Go.Proofs.Ytbellkdglifahaa
