/- The law PageBack. -/
import Derived.Test.YtbellkdglifahaaP20
import Derived.Test.YtbellkdglifahaaP24
set_option linter.unusedVariables false
set_option linter.unusedSimpArgs false
namespace Go.Proofs.Ytbellkdglifahaa
open Go Go.RowKit

theorem args_ndu {no : Nat} {d : Dt} {u : Ud} : ∀ x, x ∈ [AV.int .u16 (no : Int), d.av, u.av] → AV.on (fun _ => False) x ∧ ∀ vs, x ≠ .tuple vs := fun x hx => by
  simp only [List.mem_cons, List.not_mem_nil, or_false] at hx
  rcases hx with rfl | rfl | rfl
  · exact ⟨trivial, fun vs h => by cases h⟩
  · exact ⟨on_dt _ _, fun vs h => by cases h⟩
  · exact ⟨on_ud _ _, fun vs h => by cases h⟩
theorem pageBack_spec (no : Nat) (hno : no < 65536) (d : Dt) (hd : d.Ok) (u : Ud) (hu : u.Ok) (hb : u.olds.length ≤ 1048576) : ACall Try.prog 6 [.int .u16 no, d.av, u.av] [] (.bool true) [] := by
  refine ACall.run (Z := Z) (N := 76) mixed hZ Try.func6 rfl rfl (by kernel_rfl) (by simp) args_ndu 0 ?_
  have nil0 : ∀ x : AV, x ∈ ([] : List AV) → ∀ vs, x ≠ .tuple vs := fun x hx => by simp at hx
  have hz := zb_len 224
  have hbl := hd.body
  have hp := putData_len (no := no) hd
  have hq : (putUndo no u).length = 224 := putUndo_len
  have hps := putData_spec no hno d hd
  have hdb := dt_back hno hd
  have hgd := getData_spec no hno (putData no d) hp
  have hg : getData no (putData no d) = (d, true) := by unfold getData; rw [hdb.2, if_pos rfl, hdb.1]
  rw [hg] at hgd
  have hls := lsn_spec (putData no d) hp
  have hld : lsnOf (putData no d) = d.lsn := congrArg Dt.lsn hdb.1
  rw [hld] at hls
  have hks := kept_spec u hu hb
  have hpu : ACall Try.prog 16 [.int .u16 no, u.av] [] (.tuple [arrAV (putUndo no u), .int .i64 (if mayP u then 0 else 1)]) [] := putUndo_spec no hno u hu
  have hms := may_spec u hu
  have hgu := getUndo_spec no hno (putUndo no u) hq
  have hlu := lsn_spec (putUndo no u) hq
  have hss := same_spec u hu
  have hlq : mayP u = true → lsnOf (putUndo no u) = u.lsn := fun hm => by
    have hp0 : putUndo no u = sealP 2 no u.lsn (undoRest u ++ zb (208 - sumS u.olds)) := by unfold putUndo; rw [hm]; rfl
    rw [hp0]; exact (seal_parts hno hu.lsn).2.2.2.1
  have hgp := fun hm => getUndo_put hno hu hm
  obtain ⟨p, hpe⟩ : ∃ p, putData no d = p := ⟨_, rfl⟩
  obtain ⟨q, hqe⟩ : ∃ q, putUndo no u = q := ⟨_, rfl⟩
  rw [hpe] at hp hps hgd hls
  rw [hqe] at hq hpu hgu hlu hlq hgp
  have hcd := cellsEq_dt d d rfl
  rw [Dt.eqb_iff.2 rfl] at hcd
  have e1 : ((d.lsn : Int) != (d.lsn : Int)) = false := by simp
  have e2 : ((u.lsn : Int) == (u.lsn : Int)) = true := by simp
  simp -dsimp -implicitDefEqProofs only [↓j0, ↓j1, ↓j7, ↓j12, ↓j15, j17, j18, j20, ↓j25, ↓j27, ↓j29, ↓j30, j32, ↓j38, ↓j39, ↓j42, ↓j43, ↓j53, ↓j76, j129, ↓j145, ↓j146, ↓j153, AV.proj, AV.offOf, AV.size, AV.sizeL, AV.layable, argEnv, j170, j171, j172, reduceCtorEq, ↓reduceIte, Nat.reduceAdd, Nat.reduceEqDiff, j182, j196, j197, j240, j284, j285, hbl]
  refine CallTo.pure (args := [.int .u16 no, d.av]) rfl fok11 (by simp -dsimp -implicitDefEqProofs only [↓j25, ↓j29, j173, j174, ↓reduceIte, Nat.reduceEqDiff]) (fun x hx => (args_nd x hx).2) hps ?_
  simp -dsimp -implicitDefEqProofs only [↓j1, j17, j18, j20, ↓j53, j171]
  refine CallTo.pure (args := [.int .u16 no, arrAV p]) rfl fok9 (by simp -dsimp -implicitDefEqProofs only [↓j25, ↓j29, j173, j174, ↓reduceIte, Nat.reduceEqDiff]) (fun x hx => (args_np x hx).2) hgd ?_
  have n0 : ((0 : Int) != 0) = false := rfl
  have n1 : ((1 : Int) != 0) = true := rfl
  have i0 : ((0 : Int) == 0) = true := rfl
  have bb : (true != true) = false := rfl
  have aud : ∀ x, x ∈ [u.av] → ∀ vs, x ≠ .tuple vs := fun x hx => (args_ud x hx).2
  simp -dsimp -implicitDefEqProofs only [↓j0, ↓j1, ↓j4, ↓j5, ↓j8, ↓j12, ↓j15, j17, j18, j19, j20, j21, j22, j23, j24, ↓j25, ↓j27, ↓j29, ↓j30, j33, ↓j38, ↓j39, ↓j41, ↓j43, ↓j44, ↓j48, ↓j57, ↓j76, ↓j78, j85, ↓j89, ↓j91, j129, ↓j145, ↓j146, ↓j148, ↓j151, ↓j153, j158, AV.proj, AV.offOf, AV.upd, AV.size, AV.sizeL, AV.layable, AV.flat, AV.flatL, j163, j164, j170, j171, j172, j173, j174, j175, reduceCtorEq, ↓reduceIte, Nat.reduceAdd, Nat.reduceEqDiff, j182, j184, j185, j197, j212, kindOf, j240, j241, j243, j284, j285, j298, j299, j366, hbl, hcd, n0]
  refine ⟨kinds_dt2 hbl, ?_⟩
  simp -dsimp -implicitDefEqProofs only [↓j4, ↓j5, j17, j18, j20, j24, ↓j25, ↓j27, ↓j29, ↓j30, j32, ↓j38, ↓j40, ↓j43, ↓j53, ↓j76, j83, j129, ↓j145, ↓j146, ↓j148, ↓j151, ↓j153, AV.proj, AV.offOf, AV.size, AV.sizeL, j163, j164, j170, j171, j172, j174, j175, reduceCtorEq, ↓reduceIte, Nat.reduceAdd, Nat.reduceEqDiff, j182, j193, j195, j197, j240, j284, j285, hbl]
  refine CallTo.pure (args := [.int .u16 no, d.av]) rfl fok11 (by simp -dsimp -implicitDefEqProofs only [↓j25, ↓j29, j173, j174, ↓reduceIte, Nat.reduceEqDiff]) (fun x hx => (args_nd x hx).2) hps ?_
  simp -dsimp -implicitDefEqProofs only [↓j5, j17, j18, j20, j24, ↓j25, ↓j53, ↓j145, ↓j148, ↓j151, j163, j164, j170, j171, j172, j174, j175, ↓reduceIte, Nat.reduceEqDiff]
  refine CallTo.pure (args := [arrAV p]) rfl fok13 (by simp -dsimp -implicitDefEqProofs only [↓j25, ↓j29, j173, j174, ↓reduceIte]) (fun x hx => (args_arr x hx).2) hls ?_
  simp -dsimp -implicitDefEqProofs only [↓j3, ↓j4, ↓j5, j17, j18, j20, j24, ↓j25, ↓j27, ↓j29, ↓j30, j32, ↓j40, ↓j43, ↓j45, ↓j48, ↓j76, ↓j79, j83, ↓j89, j130, ↓j145, ↓j146, ↓j148, ↓j151, ↓j153, j158, AV.proj, AV.offOf, AV.sizeL, j163, j164, j167, j170, j171, j172, j174, j175, reduceCtorEq, ↓reduceIte, Nat.reduceEqDiff, j182, j185, j195, j197, j264, j287, e1]
  refine ⟨by kernel_rfl, ?_⟩
  simp -dsimp -implicitDefEqProofs only [↓j1, ↓j7, ↓j9, ↓j12, ↓j13, ↓j15, j17, j18, j20, ↓j25, ↓j27, ↓j29, ↓j38, ↓j43, ↓j53, ↓j76, j129, ↓j145, ↓j146, ↓j148, ↓j149, ↓j153, AV.proj, AV.offOf, AV.size, AV.sizeL, j171, reduceCtorEq, ↓reduceIte, Nat.reduceAdd, Nat.reduceEqDiff, j182, j197, j312, j313]
  refine CallTo.pure (args := [u.av]) rfl fok17 (by simp -dsimp -implicitDefEqProofs only [↓j25, ↓j29, j173, j174, ↓reduceIte]) aud hks ?_
  simp -dsimp -implicitDefEqProofs only [↓j1, j17, j18, j20, ↓j53, j171]
  refine CallTo.pure (args := [.int .u16 no, u.av]) rfl fok16 (by simp -dsimp -implicitDefEqProofs only [↓j25, ↓j29, j173, j174, ↓reduceIte, Nat.reduceEqDiff]) (fun x hx => (args_nu x hx).2) hpu ?_
  cases hm : mayP u
  · have e4 : (if false = true then (0 : Int) else 1) = 1 := rfl
    rw [hm] at hms
    simp -dsimp -implicitDefEqProofs only [↓j0, ↓j1, ↓j7, ↓j12, ↓j13, ↓j15, j17, j18, j19, j20, j21, j22, j23, ↓j25, ↓j27, ↓j29, ↓j30, j33, ↓j38, ↓j39, ↓j41, ↓j43, ↓j44, ↓j48, ↓j53, ↓j57, ↓j76, ↓j78, j85, ↓j89, j129, ↓j145, ↓j146, ↓j147, ↓j149, ↓j153, j158, AV.proj, AV.offOf, AV.upd, AV.size, AV.sizeL, AV.layable, j163, j164, j170, j171, reduceCtorEq, ↓reduceIte, Nat.reduceAdd, Nat.reduceEqDiff, j182, j185, j195, j197, j240, j243, j300, j312, j313, j367, hq, n1]
    refine CallTo.pure (args := [u.av]) rfl fok17 (by simp -dsimp -implicitDefEqProofs only [↓j25, ↓j29, j173, j174, ↓reduceIte]) aud hks ?_
    simp -dsimp -implicitDefEqProofs only [↓j1, j17, j18, j20, ↓j53, j171]
    refine CallTo.pure (args := [u.av]) rfl fok21 (by simp -dsimp -implicitDefEqProofs only [↓j25, ↓j29, j173, j174, ↓reduceIte]) aud hms ?_
    simp -dsimp -implicitDefEqProofs only [↓j1, ↓j2, j17, j18, j20, ↓j25, ↓j29, ↓j38, ↓j53, ↓j55, j84, ↓j145, ↓j147, ↓j150, j163, j164, j171, j175, ↓reduceIte, j194]
    refine CallTo.pure (args := []) rfl fok15 rfl nil0 awake_spec ?_
    simp -dsimp -implicitDefEqProofs only [↓j0, ↓j1, ↓j10, j17, j18, j20, ↓j25, ↓j29, ↓j30, j32, ↓j39, ↓j40, j83, ↓j145, j171, ↓reduceIte, Nat.reduceEqDiff]
    exact Final.one (.inr rfl) (r := .tmp 6) rfl ⟨rfl, fun vs h => by cases h⟩ (fun vs h => by cases h) (fun vs h => by cases h) (.same _ trivial)
  · have e4 : (if true = true then (0 : Int) else 1) = 0 := rfl
    rw [hgp hm] at hgu
    rw [hlq hm] at hlu
    have hgu : ACall Try.prog 19 [.int .u16 no, arrAV q] [] (.tuple [u.av, .int .i64 0]) [] := hgu
    simp -dsimp -implicitDefEqProofs only [↓j0, ↓j1, ↓j7, ↓j9, ↓j12, ↓j13, ↓j15, j17, j18, j19, j20, j21, j22, j23, ↓j25, ↓j27, ↓j29, ↓j30, j33, ↓j38, ↓j39, ↓j41, ↓j43, ↓j44, ↓j48, ↓j53, ↓j57, ↓j76, ↓j78, j85, ↓j89, j129, ↓j145, ↓j146, ↓j148, ↓j149, ↓j153, j158, AV.proj, AV.offOf, AV.upd, AV.size, AV.layable, j163, j164, j170, j171, reduceCtorEq, ↓reduceIte, Nat.reduceAdd, Nat.reduceEqDiff, j182, j185, j240, j243, j300, j301, j367, hq, n0]
    refine CallTo.pure (args := [.int .u16 no, arrAV q]) rfl fok19 (by simp -dsimp -implicitDefEqProofs only [↓j25, ↓j29, j173, j174, ↓reduceIte, Nat.reduceEqDiff]) (fun x hx => (args_np x hx).2) hgu ?_
    simp -dsimp -implicitDefEqProofs only [↓j0, ↓j1, ↓j4, ↓j5, ↓j8, ↓j12, ↓j15, j17, j18, j19, j20, j21, j22, j23, j24, ↓j25, ↓j27, ↓j29, ↓j30, j33, ↓j38, ↓j39, ↓j41, ↓j43, ↓j44, ↓j48, ↓j53, ↓j57, ↓j76, ↓j78, j85, ↓j89, j129, ↓j145, ↓j146, ↓j147, ↓j150, ↓j153, j157, AV.proj, AV.offOf, AV.upd, AV.size, AV.sizeL, AV.layable, j163, j164, j170, j171, j172, j174, j175, reduceCtorEq, ↓reduceIte, Nat.reduceAdd, Nat.reduceEqDiff, j182, j185, j197, j312, j313, j370, i0]
    refine CallTo.pure (args := [u.av, u.av]) rfl fok24 (by simp -dsimp -implicitDefEqProofs only [↓j25, ↓j29, j173, j174, ↓reduceIte, Nat.reduceEqDiff]) (fun x hx => (args_uu x hx).2) hss ?_
    simp -dsimp -implicitDefEqProofs only [↓j4, ↓j5, j17, j18, j20, j24, ↓j25, ↓j27, ↓j29, ↓j30, j32, ↓j38, ↓j40, ↓j43, ↓j53, ↓j76, j83, j129, ↓j145, ↓j146, ↓j147, ↓j150, ↓j153, AV.proj, AV.offOf, j163, j164, j170, j171, j172, j174, j175, ↓reduceIte, Nat.reduceEqDiff, j182, j240, j300, j301, hq]
    refine CallTo.pure (args := [arrAV q]) rfl fok13 (by simp -dsimp -implicitDefEqProofs only [↓j25, ↓j29, j173, j174, ↓reduceIte]) (fun x hx => (args_arr x hx).2) hlu ?_
    simp -dsimp -implicitDefEqProofs only [↓j4, ↓j5, j17, j18, j20, j24, ↓j25, ↓j27, ↓j29, ↓j30, j32, ↓j38, ↓j40, ↓j43, ↓j45, ↓j48, ↓j53, ↓j76, ↓j79, j83, ↓j89, j130, ↓j145, ↓j146, ↓j147, ↓j150, ↓j153, j157, AV.proj, AV.offOf, AV.sizeL, j163, j164, j167, j170, j171, j172, j174, j175, ↓reduceIte, Nat.reduceEqDiff, j182, j185, j197, j264, j315, e2]
    refine CallTo.pure (args := []) rfl fok15 rfl nil0 awake_spec ?_
    simp -dsimp -implicitDefEqProofs only [↓j3, ↓j4, j17, j18, j20, j24, ↓j25, ↓j29, ↓j30, j32, ↓j39, ↓j40, j83, ↓j145, j170, j171, j172, j174, ↓reduceIte, Nat.reduceEqDiff]
    refine ⟨by kernel_rfl, ?_⟩
    simp -dsimp -implicitDefEqProofs only [↓j10]
    exact Final.one (.inr rfl) (r := .tmp 6) rfl ⟨rfl, fun vs h => by cases h⟩ (fun vs h => by cases h) (fun vs h => by cases h) (.same _ trivial)
end Go.Proofs.Ytbellkdglifahaa
