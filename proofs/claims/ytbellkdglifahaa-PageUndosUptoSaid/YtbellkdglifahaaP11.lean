/- The law PageData. -/
import Derived.Test.YtbellkdglifahaaP10
set_option linter.unusedVariables false
set_option linter.unusedSimpArgs false
namespace Go.Proofs.Ytbellkdglifahaa
open Go Go.RowKit

theorem kinds_dt2 {l : List UInt8} (h : l.length = 64) : (some K3.i :: some K3.i :: some K3.i :: some K3.i :: List.map kindOf (List.map byteAV l)) = (kreps 68).map some := by
  rw [kinds_bytes h]; rfl
theorem args_ndp {no : Nat} {d : Dt} {p : List UInt8} : ∀ x, x ∈ [AV.int .u16 (no : Int), d.av, arrAV p] → AV.on (fun _ => False) x ∧ ∀ vs, x ≠ .tuple vs := fun x hx => by
  simp only [List.mem_cons, List.not_mem_nil, or_false] at hx
  rcases hx with rfl | rfl | rfl
  · exact ⟨trivial, fun vs h => by cases h⟩
  · exact ⟨on_dt _ _, fun vs h => by cases h⟩
  · exact ⟨on_bytes _ _, fun vs h => by cases h⟩
theorem getData_len {no : Nat} {p : List UInt8} (hp : p.length = 224) : (getData no p).1.body.length = 64 := by
  unfold getData; split
  · exact (dtOf_ok hp).body
  · exact zb_len 64
theorem pageData_spec (no : Nat) (hno : no < 65536) (d : Dt) (hd : d.Ok) (p : List UInt8) (hp : p.length = 224) : ACall Try.prog 3 [.int .u16 no, d.av, arrAV p] [] (.bool true) [] := by
  refine ACall.run (Z := Z) (N := 58) mixed hZ Try.func3 rfl rfl (by kernel_rfl) (by simp) args_ndp 0 ?_
  have hgs := getData_spec no hno p hp
  have hrs := rgetData_spec no hno p hp
  rw [rget_get hno hp] at hrs
  have hgl := getData_len (no := no) hp
  obtain ⟨⟨D, b⟩, hr⟩ : ∃ r, getData no p = r := ⟨_, rfl⟩
  rw [hr] at hgs hrs hgl
  have hgl : D.body.length = 64 := hgl
  have hpl := putData_len (no := no) hd
  have hbd := hd.body
  have hz := zb_len 64
  have hc1 := cellsEq_bytes (l := putData no d) (k := putData no d) rfl
  have hk1 := kinds_bytes hpl
  rw [show (putData no d == putData no d) = true from beq_self_eq_true _] at hc1
  have hc2 := cellsEq_dt D D rfl
  rw [Dt.eqb_self] at hc2
  have hc3 : ((if b then (0 : Int) else 2) == 0) = b := by cases b <;> rfl
  have hc4 : (b == b) = true := by cases b <;> rfl
  have hc5 : ((lsnOf p : Int) == (lsnOf p : Int)) = true := by simp
  simp -dsimp -implicitDefEqProofs only [↓j0, ↓j1, ↓j7, ↓j12, ↓j15, j17, j18, j20, ↓j25, ↓j27, ↓j29, ↓j30, j32, ↓j38, ↓j39, ↓j42, ↓j43, ↓j53, ↓j76, j129, ↓j145, ↓j146, ↓j153, AV.proj, AV.offOf, AV.layable, argEnv, j170, j171, j172, reduceCtorEq, ↓reduceIte, Nat.reduceAdd, Nat.reduceEqDiff, j182, j196, j240, j300, j301, hp]
  refine CallTo.pure (args := [.int .u16 no, arrAV p]) rfl fok9 (by simp -dsimp -implicitDefEqProofs only [↓j25, ↓j29, j173, j174, ↓reduceIte, Nat.reduceEqDiff]) (fun x hx => (args_np x hx).2) hgs ?_
  simp -dsimp -implicitDefEqProofs only [↓j0, ↓j1, ↓j7, ↓j12, ↓j15, j17, j18, j19, j20, j21, j22, j23, ↓j25, ↓j27, ↓j29, ↓j38, ↓j39, ↓j41, ↓j43, ↓j44, ↓j53, ↓j57, ↓j76, ↓j78, j85, j129, ↓j145, ↓j146, ↓j153, AV.proj, AV.offOf, AV.upd, AV.size, AV.sizeL, AV.layable, j163, j164, j170, j171, reduceCtorEq, ↓reduceIte, Nat.reduceAdd, Nat.reduceEqDiff, j182, j197, j240, j284, j300, j301, j366, hp, hgl, hz]
  refine CallTo.pure (args := [.int .u16 no, arrAV p]) rfl fok10 (by simp -dsimp -implicitDefEqProofs only [↓j25, ↓j29, j173, j174, ↓reduceIte, Nat.reduceEqDiff]) (fun x hx => (args_np x hx).2) hrs ?_
  simp -dsimp -implicitDefEqProofs only [↓j0, ↓j1, ↓j4, ↓j8, ↓j12, ↓j15, j17, j18, j19, j20, j21, j22, j23, j24, ↓j25, ↓j27, ↓j29, ↓j38, ↓j39, ↓j41, ↓j43, ↓j44, ↓j53, ↓j57, ↓j76, ↓j78, j85, j129, ↓j145, ↓j146, ↓j153, AV.proj, AV.offOf, AV.upd, AV.size, AV.sizeL, AV.layable, j163, j164, j170, j171, j172, j174, reduceCtorEq, ↓reduceIte, Nat.reduceAdd, Nat.reduceEqDiff, j182, j197, j240, j284, j285, j366, hgl, hz, hbd]
  refine CallTo.pure (args := [.int .u16 no, d.av]) rfl fok11 (by simp -dsimp -implicitDefEqProofs only [↓j25, ↓j29, j173, j174, ↓reduceIte, Nat.reduceEqDiff]) (fun x hx => (args_nd x hx).2) (putData_spec no hno d hd) ?_
  simp -dsimp -implicitDefEqProofs only [↓j4, j17, j18, j20, j24, ↓j25, ↓j27, ↓j29, ↓j38, ↓j43, ↓j53, ↓j76, j129, ↓j145, ↓j146, ↓j153, AV.proj, AV.offOf, AV.size, AV.sizeL, j170, j171, j172, j174, reduceCtorEq, ↓reduceIte, Nat.reduceAdd, Nat.reduceEqDiff, j182, j197, j240, j284, j285, hbd]
  refine CallTo.pure (args := [.int .u16 no, d.av]) rfl fok12 (by simp -dsimp -implicitDefEqProofs only [↓j25, ↓j29, j173, j174, ↓reduceIte, Nat.reduceEqDiff]) (fun x hx => (args_nd x hx).2) (rputData_spec no hno d hd) ?_
  simp -dsimp -implicitDefEqProofs only [↓j4, ↓j5, j17, j18, j20, j24, ↓j25, ↓j27, ↓j29, ↓j38, ↓j43, ↓j48, ↓j76, ↓j91, j129, ↓j145, ↓j146, ↓j147, ↓j150, ↓j153, AV.proj, AV.offOf, AV.size, AV.sizeL, AV.flat, AV.flatL, j163, j164, j170, j171, j172, j173, j174, j175, ↓reduceIte, Nat.reduceAdd, Nat.reduceEqDiff, j182, j184, j195, j197, j211, kindOf, j240, j241, j284, j285, j298, j299, j301, j303, j304, hgl, hc1, hk1, hc2]
  refine ⟨kinds_dt2 hgl, ?_⟩
  simp -dsimp -implicitDefEqProofs only [↓j4, ↓j5, j17, j18, j20, j24, ↓j25, ↓j29, ↓j30, j32, j33, ↓j38, ↓j40, ↓j48, j83, ↓j89, ↓j90, ↓j145, ↓j146, ↓j147, ↓j150, ↓j151, j157, j163, j164, j170, j171, j172, j174, j175, ↓reduceIte, Nat.reduceEqDiff, j185, j195, j211, j390, hc3, hc4]
  have nil0 : ∀ x : AV, x ∈ ([] : List AV) → ∀ vs, x ≠ .tuple vs := fun x hx => by simp at hx
  have i0 : ((0 : Int) == 0) = true := rfl
  have i2 : ((2 : Int) == 2) = true := rfl
  cases b
  all_goals
    simp -dsimp -implicitDefEqProofs only [↓j4, ↓j5, j17, j18, j20, j24, ↓j25, ↓j27, ↓j29, ↓j30, j32, j33, ↓j38, ↓j40, ↓j43, ↓j48, ↓j53, ↓j76, j81, j83, ↓j89, j129, ↓j145, ↓j146, ↓j147, ↓j148, ↓j150, ↓j151, ↓j153, j157, AV.proj, AV.offOf, j163, j164, j170, j171, j172, j174, j175, ↓reduceIte, Nat.reduceEqDiff, j182, j185, j195, j240, j300, j301, hp, i2]
    refine CallTo.pure (args := [arrAV p]) rfl fok13 (by simp -dsimp -implicitDefEqProofs only [↓j25, ↓j29, j173, j174, ↓reduceIte]) (fun x hx => (args_arr x hx).2) (lsn_spec p hp) ?_
    simp -dsimp -implicitDefEqProofs only [↓j5, j17, j18, j20, j24, ↓j25, ↓j27, ↓j29, ↓j43, ↓j53, ↓j76, j129, ↓j145, ↓j146, ↓j147, ↓j150, ↓j153, AV.proj, AV.offOf, j163, j164, j170, j171, j172, j174, j175, ↓reduceIte, Nat.reduceEqDiff, j182, j240, j300, j301, hp]
    refine CallTo.pure (args := [arrAV p]) rfl fok14 (by simp -dsimp -implicitDefEqProofs only [↓j25, ↓j29, j173, j174, ↓reduceIte]) (fun x hx => (args_arr x hx).2) (rlsn_spec p hp) ?_
    simp -dsimp -implicitDefEqProofs only [↓j4, ↓j5, j17, j18, j20, j24, ↓j25, ↓j29, ↓j30, j32, ↓j38, ↓j40, ↓j48, ↓j53, j83, ↓j89, ↓j145, ↓j146, ↓j147, ↓j150, j157, j163, j164, j170, j171, j172, j174, j175, ↓reduceIte, Nat.reduceEqDiff, j185, hc5]
    refine CallTo.pure (args := []) rfl fok15 rfl nil0 awake_spec ?_
    simp -dsimp -implicitDefEqProofs only [↓j3, ↓j4, j17, j18, j20, j24, ↓j25, ↓j29, ↓j30, j32, ↓j39, ↓j40, j83, ↓j145, j170, j171, j172, j174, ↓reduceIte, Nat.reduceEqDiff]
    refine ⟨by kernel_rfl, ?_⟩
    exact Final.one (.inr rfl) (r := .tmp 6) rfl ⟨rfl, fun vs h => by cases h⟩ (fun vs h => by cases h) (fun vs h => by cases h) (.same _ trivial)
end Go.Proofs.Ytbellkdglifahaa
