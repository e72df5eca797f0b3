/- Masters are loaded. -/
import Derived.Test.YthfaldoagmkllaaE6
set_option linter.unusedVariables false
set_option linter.unusedSimpArgs false
namespace Go.Proofs.Ythfaldoagmkllaa
open Go Go.RowKit

def pickM : Option Ms → Option Ms → Ms × Int × Nat
  | none, none => (.zero, 0, 2)
  | some a, none => (a, 0, 0)
  | none, some b => (b, 1, 0)
  | some a, some b => if a.seq < b.seq then (b, 1, 0) else (a, 0, 0)
def DS.loadP (d : DS) : (Ms × Int × Nat) × DS :=
  if (d.readP 0).2.1 ≠ 0 then ((.zero, 0, (d.readP 0).2.1), (d.readP 0).2.2)
  else if ((d.readP 0).2.2.readP 1).2.1 ≠ 0 then ((.zero, 0, ((d.readP 0).2.2.readP 1).2.1), ((d.readP 0).2.2.readP 1).2.2)
  else (pickM (unpackM (d.readP 0).1) (unpackM ((d.readP 0).2.2.readP 1).1), ((d.readP 0).2.2.readP 1).2.2)
abbrev loadAV (r : Ms × Int × Nat) : AV := .tuple [r.1.av, .int .i64 r.2.1, .int .i64 (r.2.2 : Nat)]
theorem readP_ok {d : DS} (hd : d.Ok) (ho : d.ops < 1000000) (b : Int) : (d.readP b).2.2.Ok := by
  unfold DS.readP
  split
  · exact hd
  · split
    · exact hd
    · split <;> exact opP_ok hd ho
theorem readP_ops (d : DS) (b : Int) : (d.readP b).2.2.ops ≤ d.ops + 1 := by
  have h := opP_n d
  unfold DS.readP
  split
  · show d.ops ≤ _; omega
  · split
    · show d.ops ≤ _; omega
    · split <;> (show d.opP.2.ops ≤ _; omega)
theorem load_spec (d : DS) (hd : d.Ok) (ho : d.ops + 1 < 1000000) : ACall Try.prog 16 [.ptr 0 0 []] (diskH0 d) (loadAV d.loadP.1) (diskH d.loadP.2 2 3 4) := by
  obtain ⟨P, hP⟩ : ∃ P, d.loadP = P := ⟨_, rfl⟩
  rw [hP]
  obtain ⟨⟨M, A, C⟩, e⟩ := P
  refine ACall.runH (Z := Z) (N := 50) mixed hZ Try.func16 rfl rfl (by kernel_rfl) (by simp) (disk_args no_args) (disk_on fun _ h => h) 10 (fun n h => by have := disk_lt n h; omega) ?_
  have fin : ∀ (x : (Ms × Int × Nat) × DS) (t : Env) (H : Heap) (k : Nat), x = d.loadP → look t 2 = some (.ptr 10 0 []) → look t 3 = some (.int .i64 x.1.2.1) → look t 4 = some (.int .i64 (x.1.2.2 : Nat)) → Heap.get H 10 = some (.cells x.1.1.av) → (∀ n b, Heap.get (diskG x.2 0 1 2 3 4) n = some b → Heap.get H n = some b) →
      Final Try.prog Try.f16 (loadAV (M, A, C)) (diskH e 2 3 4) .ret ⟨50, t, H, k⟩ := by
    intro x t H k hx h2 h3 h4 h10 hH
    rw [hP] at hx
    subst hx
    exact Final.manyH (.inr rfl) (rs := [.cell 2 27, .tmp 3, .tmp 4]) (us := [M.av, .int .i64 A, .int .i64 (C : Nat)]) rfl ⟨⟨10, 0, [], _, h2, h10, rfl, rfl, by simp -dsimp -implicitDefEqProofs only [j129, AV.size, AV.sizeL, Nat.reduceAdd, j182, j197, j282, j283]⟩, ⟨h3, fun vs h => by cases h⟩, ⟨h4, fun vs h => by cases h⟩, trivial⟩ (by simp) ⟨.same _ (on_ms _ _), .same _ trivial, .same _ trivial, trivial⟩
      (disk_keep (hH _ _ rfl) (hH _ _ rfl) (hH _ _ (get_seen nm0)) (fun f hf => hH _ _ (get_fail nm0 hf)) (fun hp => hH _ _ (get_pend nm0 hp)))
  have hr0 := read_at (six0 12 (by omega)) d hd (by omega) 0
  have hl0 := readP_len hd 0
  obtain ⟨hf0, hp0⟩ := readP_same (d := d) 0
  have hk0 := readP_ok hd (by omega) 0
  have ho0 := readP_ops d 0
  have hLP : d.loadP = if (d.readP 0).2.1 ≠ 0 then ((.zero, 0, (d.readP 0).2.1), (d.readP 0).2.2)
    else if ((d.readP 0).2.2.readP 1).2.1 ≠ 0 then ((.zero, 0, ((d.readP 0).2.2.readP 1).2.1), ((d.readP 0).2.2.readP 1).2.2)
    else (pickM (unpackM (d.readP 0).1) (unpackM ((d.readP 0).2.2.readP 1).1), ((d.readP 0).2.2.readP 1).2.2) := rfl
  obtain ⟨r0, hr0e⟩ : ∃ r, d.readP 0 = r := ⟨_, rfl⟩
  rw [hr0e] at hr0 hl0 hf0 hp0 hk0 ho0 hLP
  obtain ⟨x0, c0, e0⟩ := r0
  have hk0 : e0.Ok := hk0
  have ho0 : e0.ops ≤ d.ops + 1 := ho0
  have hr1 := read_at (six0 12 (by omega)) e0 hk0 (by omega) 1
  have hl1 := readP_len hk0 1
  obtain ⟨hf1, hp1⟩ := readP_same (d := e0) 1
  have hLP : d.loadP = if c0 ≠ 0 then ((.zero, 0, c0), e0)
    else if (e0.readP 1).2.1 ≠ 0 then ((.zero, 0, (e0.readP 1).2.1), (e0.readP 1).2.2)
    else (pickM (unpackM x0) (unpackM (e0.readP 1).1), (e0.readP 1).2.2) := hLP
  obtain ⟨r1, hr1e⟩ : ∃ r, e0.readP 1 = r := ⟨_, rfl⟩
  rw [hr1e] at hr1 hl1 hf1 hp1 hLP
  obtain ⟨x1, c1, e1⟩ := r1
  have hl0 : x0.length = 256 := hl0
  have hl1 : x1.length = 256 := hl1
  have hu0 := unpack_spec x0 hl0
  have hu1 := unpack_spec x1 hl1
  have hz := zb_len 256
  have l02 : decide ((0 : Int) < 2) = true := rfl
  have l12 : decide ((1 : Int) < 2) = true := rfl
  have l22 : decide ((2 : Int) < 2) = false := rfl
  rw [show diskH0 d = diskG d 0 1 2 3 4 from rfl]
  simp -dsimp -implicitDefEqProofs only [↓j0, ↓j1, ↓j7, ↓j12, ↓j14, ↓j15, ↓j16, j17, j18, j20, ↓j30, j33, ↓j38, ↓j39, ↓j41, ↓j145, argEnv, j170, j171, Nat.reduceAdd, Int.reduceNeg, j412]
  refine AWp.unrollR (Z := Z) 3 mixed hZ (by kernel_rfl) rfl ?_
  simp -dsimp -implicitDefEqProofs only [↓j0, ↓j1, ↓j7, ↓j9, ↓j12, ↓j13, ↓j14, ↓j15, j17, j18, j20, ↓j25, ↓j29, ↓j30, j33, ↓j38, ↓j39, ↓j48, ↓j53, ↓j89, ↓j145, ↓j146, ↓j147, ↓j149, j159, j171, reduceCtorEq, ↓reduceIte, Nat.reduceEqDiff, Int.reduceLT, j185, j191, Int.reduceNeg, UnrR]
  have a1 : (x : AV) → x ∈ [AV.int .i64 (0 : Int)] → ∀ vs, x ≠ .tuple vs := fun x hx => (args_i x hx).2
  refine CallTo.disk1 rfl fok35 (by simp -dsimp -implicitDefEqProofs only [↓j25, ↓j29, j173, j174, ↓reduceIte, Nat.reduceEqDiff, Int.reduceNeg]) (fun y hy => (args_i y hy).2) hr0 (subC (by omega) (subC (by omega) sub0)) (by rw [hf0]; exact fun h => h) (by rw [hp0]; exact fun h => h) ?_
  simp -dsimp -implicitDefEqProofs only [↓j0, ↓j1, ↓j7, ↓j12, ↓j13, ↓j15, j17, j18, j19, j20, j21, j22, j23, ↓j25, ↓j27, ↓j29, ↓j30, j33, ↓j38, ↓j39, ↓j41, ↓j44, ↓j48, ↓j57, ↓j78, j85, ↓j89, ↓j145, ↓j146, ↓j149, ↓j153, j158, AV.proj, AV.offOf, AV.upd, AV.size, AV.layable, j163, j164, j170, j171, reduceCtorEq, ↓reduceIte, Nat.reduceAdd, Nat.reduceEqDiff, j182, j185, j188, j189, Int.reduceNeg, j240, j309, j414, hl0, hz, dels_cons_dg, dels_dg0, del_dg]
  by_cases hc0 : c0 = 0
  rotate_left
  · have f0 : (((c0 : Nat) : Int) != 0) = true := by rw [bne_iff_ne]; omega
    have hLP : d.loadP = ((.zero, 0, c0), e0) := by rw [hLP, if_pos hc0]
    simp -dsimp -implicitDefEqProofs only [↓j0, ↓j1, ↓j7, ↓j10, ↓j12, ↓j15, j17, j18, j19, j20, j21, j22, j23, ↓j25, ↓j27, ↓j29, ↓j30, j33, ↓j38, ↓j39, ↓j44, ↓j54, ↓j78, ↓j124, j125, j127, ↓j145, ↓j146, ↓j147, ↓j153, partsAV, AV.proj, AV.offOf, AV.upd, AV.size, AV.sizeL, AV.layable, j170, j171, reduceCtorEq, ↓reduceIte, Nat.reduceAdd, Nat.reduceEqDiff, j182, j188, j189, j197, Int.reduceNeg, j214, j218, j219, j282, j432, f0, get_dg, del_dg]
    exact fin ((.zero, 0, c0), e0) _ _ _ hLP.symm rfl rfl rfl rfl (subC (by omega) (subC (by omega) subX))
  have f0 : (((c0 : Nat) : Int) != 0) = false := by rw [hc0]; rfl
  have hLP : d.loadP = if c1 ≠ 0 then ((.zero, 0, c1), e1) else (pickM (unpackM x0) (unpackM x1), e1) := by rw [hLP, if_neg (by omega)]
  simp -dsimp -implicitDefEqProofs only [↓j1, ↓j7, ↓j9, ↓j12, ↓j15, j17, j18, j20, ↓j25, ↓j27, ↓j29, ↓j43, ↓j53, ↓j76, j129, ↓j145, ↓j146, ↓j148, ↓j153, AV.proj, AV.offOf, j171, ↓reduceIte, Nat.reduceEqDiff, j182, Int.reduceNeg, j240, j309, j310, f0, hl0]
  have hu0 : ACall Try.prog 10 [arrAV x0] [] (.tuple [((unpackM x0).getD .zero).av, .bool (unpackM x0).isSome]) [] := hu0
  have hu1 : ACall Try.prog 10 [arrAV x1] [] (.tuple [((unpackM x1).getD .zero).av, .bool (unpackM x1).isSome]) [] := hu1
  have n1 : decide ((-1 : Int) < 0) = true := rfl
  have n2 : decide ((0 : Int) < 0) = false := rfl
  have n3 : decide ((1 : Int) < 0) = false := rfl
  have w1 : IntKind.i64.wrap 1 = 1 := rfl
  have w2 : IntKind.i64.wrap 2 = 2 := rfl
  refine CallTo.pure (args := [arrAV x0]) rfl fok10 (by simp -dsimp -implicitDefEqProofs only [↓j25, ↓j29, j173, j174, ↓reduceIte, Int.reduceNeg]) (fun x hx => (on_arr1 x hx).2) hu0 ?_
  rcases hx0 : unpackM x0 with _ | A0
  · rw [hx0] at hLP
    simp -dsimp -implicitDefEqProofs only [↓j0, ↓j1, ↓j2, ↓j7, ↓j9, ↓j12, ↓j13, ↓j14, ↓j15, j17, j18, j19, j20, j21, j22, j23, ↓j25, ↓j27, ↓j29, ↓j30, j32, j33, ↓j38, ↓j39, ↓j40, ↓j41, ↓j44, ↓j48, ↓j53, ↓j57, ↓j78, j82, j85, ↓j89, ↓j145, ↓j146, ↓j147, ↓j148, ↓j149, ↓j150, ↓j152, ↓j153, j154, j159, AV.proj, AV.offOf, AV.upd, AV.size, AV.sizeL, AV.layable, j163, j164, j170, j171, j175, reduceCtorEq, ↓reduceIte, Nat.reduceAdd, Nat.reduceEqDiff, Int.reduceLT, Int.reduceAdd, j182, j185, j188, j189, j191, j197, Int.reduceNeg, j282, j412, w1, Option.isSome, Option.getD, del_dg]
    refine CallTo.disk1 rfl fok35 (by simp -dsimp -implicitDefEqProofs only [↓j25, ↓j29, j173, j174, ↓reduceIte, Nat.reduceEqDiff, Int.reduceNeg]) (fun y hy => (args_i y hy).2) hr1 (subC (by omega) (subC (by omega) subX)) (by rw [hf1]; exact fun h => h) (by rw [hp1]; exact fun h => h) ?_
    simp -dsimp -implicitDefEqProofs only [↓j0, ↓j1, ↓j7, ↓j12, ↓j13, ↓j15, j17, j18, j19, j20, j21, j22, j23, ↓j25, ↓j27, ↓j29, ↓j30, j33, ↓j38, ↓j39, ↓j41, ↓j44, ↓j48, ↓j57, ↓j78, j85, ↓j89, ↓j145, ↓j146, ↓j149, ↓j153, j158, AV.proj, AV.offOf, AV.upd, AV.size, AV.layable, j163, j164, j170, j171, reduceCtorEq, ↓reduceIte, Nat.reduceAdd, Nat.reduceEqDiff, j182, j185, j188, j189, Int.reduceNeg, j240, j309, j414, hz, hl1, dels_cons_dg, dels_dgX, dels_empty, del_dg]
    by_cases hc1 : c1 = 0
    rotate_left
    · have f1 : (((c1 : Nat) : Int) != 0) = true := by rw [bne_iff_ne]; omega
      have hLP : d.loadP = ((.zero, 0, c1), e1) := by rw [hLP, if_pos hc1]
      simp -dsimp -implicitDefEqProofs only [↓j0, ↓j1, ↓j7, ↓j10, ↓j12, ↓j15, j17, j18, j19, j20, j21, j22, j23, ↓j25, ↓j27, ↓j29, ↓j30, j33, ↓j38, ↓j39, ↓j44, ↓j54, ↓j78, ↓j124, j125, j127, ↓j145, ↓j146, ↓j147, ↓j153, partsAV, AV.proj, AV.offOf, AV.upd, AV.size, AV.sizeL, AV.layable, j170, j171, reduceCtorEq, ↓reduceIte, Nat.reduceAdd, Nat.reduceEqDiff, j182, j188, j189, j197, Int.reduceNeg, j214, j218, j219, j282, j432, f1, get_dg, del_dg]
      exact fin ((.zero, 0, c1), e1) _ _ _ hLP.symm rfl rfl rfl rfl (subC (by omega) (subC (by omega) subX))
    have f1 : (((c1 : Nat) : Int) != 0) = false := by rw [hc1]; rfl
    simp -dsimp -implicitDefEqProofs only [↓j1, ↓j7, ↓j9, ↓j12, ↓j15, j17, j18, j20, ↓j25, ↓j27, ↓j29, ↓j43, ↓j53, ↓j76, j129, ↓j145, ↓j146, ↓j148, ↓j153, AV.proj, AV.offOf, j171, ↓reduceIte, Nat.reduceEqDiff, j182, Int.reduceNeg, j240, j309, j310, f1, hl1]
    refine CallTo.pure (args := [arrAV x1]) rfl fok10 (by simp -dsimp -implicitDefEqProofs only [↓j25, ↓j29, j173, j174, ↓reduceIte, Int.reduceNeg]) (fun x hx => (on_arr1 x hx).2) hu1 ?_
    rcases hx1 : unpackM x1 with _ | A1
    · rw [hx1] at hLP
      have hLP : d.loadP = ((.zero, 0, 2), e1) := by rw [hLP, if_neg (by omega)]; rfl
      simp -dsimp -implicitDefEqProofs only [↓j0, ↓j1, ↓j2, ↓j7, ↓j9, ↓j10, ↓j11, ↓j12, ↓j13, ↓j15, j17, j18, j19, j20, j21, j22, j23, ↓j25, ↓j27, ↓j29, ↓j30, j32, j33, ↓j38, ↓j39, ↓j40, ↓j41, ↓j44, ↓j48, ↓j54, ↓j57, ↓j78, j82, j85, ↓j89, ↓j124, j125, j127, ↓j145, ↓j146, ↓j147, ↓j148, ↓j149, ↓j150, ↓j152, ↓j153, j154, j159, partsAV, AV.proj, AV.offOf, AV.upd, AV.size, AV.sizeL, AV.layable, j163, j164, j170, j171, j175, reduceCtorEq, ↓reduceIte, Nat.reduceAdd, Nat.reduceEqDiff, Int.reduceLT, Int.reduceAdd, j182, j185, j188, j189, j191, j192, j197, Int.reduceNeg, j214, j218, j219, j282, j412, j432, w2, Option.isSome, Option.getD, get_dg, del_dg]
      exact fin ((.zero, 0, 2), e1) _ _ _ hLP.symm rfl rfl rfl rfl (by first | exact (subC (by omega) (subC (by omega) subX)) | exact (subC (by omega) (subC (by omega) (subC (by omega) subX))) | exact (subC (by omega) (subC (by omega) (subC (by omega) (subC (by omega) subX)))))
    · rw [hx1] at hLP
      have hLP : d.loadP = ((A1, 1, 0), e1) := by rw [hLP, if_neg (by omega)]; rfl
      simp -dsimp -implicitDefEqProofs only [↓j0, ↓j1, ↓j2, ↓j7, ↓j9, ↓j10, ↓j11, ↓j12, ↓j13, ↓j15, j17, j18, j19, j20, j21, j22, j23, ↓j25, ↓j27, ↓j29, ↓j30, j32, j33, ↓j38, ↓j39, ↓j40, ↓j41, ↓j43, ↓j44, ↓j48, ↓j57, ↓j76, ↓j78, j81, j83, j85, ↓j89, j129, ↓j145, ↓j146, ↓j147, ↓j148, ↓j149, ↓j150, ↓j151, ↓j153, j154, j159, AV.proj, AV.offOf, AV.upd, AV.size, AV.sizeL, AV.layable, j163, j164, j170, j171, j175, reduceCtorEq, ↓reduceIte, Nat.reduceAdd, Nat.reduceEqDiff, Int.reduceLT, Int.reduceAdd, j182, j185, j188, j189, j191, j192, j197, Int.reduceNeg, j282, j283, j412, w2, Option.isSome, Option.getD, get_dg, del_dg]
      exact fin ((A1, 1, 0), e1) _ _ _ hLP.symm rfl rfl rfl rfl (by first | exact (subC (by omega) (subC (by omega) subX)) | exact (subC (by omega) (subC (by omega) (subC (by omega) subX))) | exact (subC (by omega) (subC (by omega) (subC (by omega) (subC (by omega) subX)))))
  · rw [hx0] at hLP
    simp -dsimp -implicitDefEqProofs only [↓j0, ↓j1, ↓j2, ↓j7, ↓j9, ↓j12, ↓j13, ↓j14, ↓j15, j17, j18, j19, j20, j21, j22, j23, ↓j25, ↓j27, ↓j29, ↓j30, j32, j33, ↓j38, ↓j39, ↓j40, ↓j41, ↓j43, ↓j44, ↓j48, ↓j53, ↓j57, ↓j76, ↓j78, j81, j83, j85, ↓j89, j129, ↓j145, ↓j146, ↓j147, ↓j149, ↓j150, ↓j151, ↓j153, j154, j159, AV.proj, AV.offOf, AV.upd, AV.size, AV.sizeL, AV.layable, j163, j164, j170, j171, j175, reduceCtorEq, ↓reduceIte, Nat.reduceAdd, Nat.reduceEqDiff, Int.reduceLT, Int.reduceAdd, j182, j185, j188, j189, j191, j197, Int.reduceNeg, j282, j283, j412, w1, Option.isSome, Option.getD, get_dg, del_dg]
    refine CallTo.disk1 rfl fok35 (by simp -dsimp -implicitDefEqProofs only [↓j25, ↓j29, j173, j174, ↓reduceIte, Nat.reduceEqDiff, Int.reduceNeg]) (fun y hy => (args_i y hy).2) hr1 (subC (by omega) (subC (by omega) (subC (by omega) subX))) (by rw [hf1]; exact fun h => h) (by rw [hp1]; exact fun h => h) ?_
    simp -dsimp -implicitDefEqProofs only [↓j0, ↓j1, ↓j7, ↓j12, ↓j13, ↓j15, j17, j18, j19, j20, j21, j22, j23, ↓j25, ↓j27, ↓j29, ↓j30, j33, ↓j38, ↓j39, ↓j41, ↓j44, ↓j48, ↓j57, ↓j78, j85, ↓j89, ↓j145, ↓j146, ↓j149, ↓j153, j158, AV.proj, AV.offOf, AV.upd, AV.size, AV.layable, j163, j164, j170, j171, reduceCtorEq, ↓reduceIte, Nat.reduceAdd, Nat.reduceEqDiff, j182, j185, j188, j189, Int.reduceNeg, j240, j309, j414, hz, hl1, dels_cons_dg, dels_dgX, dels_empty, del_dg]
    by_cases hc1 : c1 = 0
    rotate_left
    · have f1 : (((c1 : Nat) : Int) != 0) = true := by rw [bne_iff_ne]; omega
      have hLP : d.loadP = ((.zero, 0, c1), e1) := by rw [hLP, if_pos hc1]
      simp -dsimp -implicitDefEqProofs only [↓j0, ↓j1, ↓j7, ↓j10, ↓j12, ↓j15, j17, j18, j19, j20, j21, j22, j23, ↓j25, ↓j27, ↓j29, ↓j30, j33, ↓j38, ↓j39, ↓j44, ↓j54, ↓j78, ↓j124, j125, j127, ↓j145, ↓j146, ↓j147, ↓j153, partsAV, AV.proj, AV.offOf, AV.upd, AV.size, AV.sizeL, AV.layable, j170, j171, reduceCtorEq, ↓reduceIte, Nat.reduceAdd, Nat.reduceEqDiff, j182, j188, j189, j197, Int.reduceNeg, j214, j218, j219, j282, j432, f1, get_dg, del_dg]
      exact fin ((.zero, 0, c1), e1) _ _ _ hLP.symm rfl rfl rfl rfl (subC (by omega) (subC (by omega) subX))
    have f1 : (((c1 : Nat) : Int) != 0) = false := by rw [hc1]; rfl
    simp -dsimp -implicitDefEqProofs only [↓j1, ↓j7, ↓j9, ↓j12, ↓j15, j17, j18, j20, ↓j25, ↓j27, ↓j29, ↓j43, ↓j53, ↓j76, j129, ↓j145, ↓j146, ↓j148, ↓j153, AV.proj, AV.offOf, j171, ↓reduceIte, Nat.reduceEqDiff, j182, Int.reduceNeg, j240, j309, j310, f1, hl1]
    refine CallTo.pure (args := [arrAV x1]) rfl fok10 (by simp -dsimp -implicitDefEqProofs only [↓j25, ↓j29, j173, j174, ↓reduceIte, Int.reduceNeg]) (fun x hx => (on_arr1 x hx).2) hu1 ?_
    rcases hx1 : unpackM x1 with _ | A1
    · rw [hx1] at hLP
      have hLP : d.loadP = ((A0, 0, 0), e1) := by rw [hLP, if_neg (by omega)]; rfl
      simp -dsimp -implicitDefEqProofs only [↓j0, ↓j1, ↓j2, ↓j7, ↓j9, ↓j10, ↓j11, ↓j12, ↓j13, ↓j15, j17, j18, j19, j20, j21, j22, j23, ↓j25, ↓j27, ↓j29, ↓j30, j32, j33, ↓j38, ↓j39, ↓j40, ↓j41, ↓j43, ↓j44, ↓j48, ↓j57, ↓j76, ↓j78, j82, j85, ↓j89, j129, ↓j145, ↓j146, ↓j148, ↓j149, ↓j150, ↓j152, ↓j153, j154, j159, AV.proj, AV.offOf, AV.upd, AV.size, AV.sizeL, AV.layable, j163, j164, j170, j171, j175, reduceCtorEq, ↓reduceIte, Nat.reduceAdd, Nat.reduceEqDiff, Int.reduceLT, Int.reduceAdd, j182, j185, j188, j189, j192, j197, Int.reduceNeg, j282, j283, j412, w2, Option.isSome, Option.getD, get_dg, del_dg]
      exact fin ((A0, 0, 0), e1) _ _ _ hLP.symm rfl rfl rfl rfl (by first | exact (subC (by omega) (subC (by omega) subX)) | exact (subC (by omega) (subC (by omega) (subC (by omega) subX))) | exact (subC (by omega) (subC (by omega) (subC (by omega) (subC (by omega) subX)))))
    · rw [hx1] at hLP
      by_cases hlt : A0.seq < A1.seq
      · have q1 : decide ((A0.seq : Int) < (A1.seq : Int)) = true := decide_eq_true (by omega)
        have hLP : d.loadP = ((A1, 1, 0), e1) := by rw [hLP, if_neg (by omega)]; simp only [pickM, if_pos hlt]
        simp -dsimp -implicitDefEqProofs only [↓j0, ↓j1, ↓j2, ↓j7, ↓j9, ↓j10, ↓j11, ↓j12, ↓j13, ↓j15, j17, j18, j19, j20, j21, j22, j23, ↓j25, ↓j27, ↓j29, ↓j30, j32, j33, ↓j38, ↓j39, ↓j40, ↓j41, ↓j43, ↓j44, ↓j45, ↓j48, ↓j57, ↓j76, ↓j78, ↓j79, j83, j85, ↓j89, j129, j130, ↓j145, ↓j146, ↓j147, ↓j148, ↓j149, ↓j150, ↓j151, ↓j153, j154, j159, j161, AV.proj, AV.offOf, AV.upd, AV.size, AV.sizeL, AV.layable, j163, j164, j167, j170, j171, j175, reduceCtorEq, ↓reduceIte, Nat.reduceAdd, Nat.reduceEqDiff, Int.reduceLT, Int.reduceAdd, j182, j185, j188, j189, j192, j195, j197, Int.reduceNeg, j261, j282, j283, j285, j412, w2, q1, Option.isSome, Option.getD, get_dg, del_dg]
        exact fin ((A1, 1, 0), e1) _ _ _ hLP.symm rfl rfl rfl rfl (by first | exact (subC (by omega) (subC (by omega) subX)) | exact (subC (by omega) (subC (by omega) (subC (by omega) subX))) | exact (subC (by omega) (subC (by omega) (subC (by omega) (subC (by omega) subX)))))
      · have q1 : decide ((A0.seq : Int) < (A1.seq : Int)) = false := decide_eq_false (by omega)
        have hLP : d.loadP = ((A0, 0, 0), e1) := by rw [hLP, if_neg (by omega)]; simp only [pickM, if_neg hlt]
        simp -dsimp -implicitDefEqProofs only [↓j0, ↓j1, ↓j2, ↓j7, ↓j9, ↓j10, ↓j11, ↓j12, ↓j13, ↓j15, j17, j18, j19, j20, j21, j22, j23, ↓j25, ↓j27, ↓j29, ↓j30, j32, j33, ↓j38, ↓j39, ↓j40, ↓j41, ↓j43, ↓j44, ↓j45, ↓j48, ↓j57, ↓j76, ↓j78, ↓j79, j83, j85, ↓j89, j129, j130, ↓j145, ↓j146, ↓j147, ↓j148, ↓j149, ↓j150, ↓j151, ↓j153, j154, j159, j161, AV.proj, AV.offOf, AV.upd, AV.size, AV.sizeL, AV.layable, j163, j164, j167, j170, j171, j175, reduceCtorEq, ↓reduceIte, Nat.reduceAdd, Nat.reduceEqDiff, Int.reduceLT, Int.reduceAdd, j182, j185, j188, j189, j192, j195, j197, Int.reduceNeg, j261, j282, j283, j285, j412, w2, q1, Option.isSome, Option.getD, get_dg, del_dg]
        exact fin ((A0, 0, 0), e1) _ _ _ hLP.symm rfl rfl rfl rfl (by first | exact (subC (by omega) (subC (by omega) subX)) | exact (subC (by omega) (subC (by omega) (subC (by omega) subX))) | exact (subC (by omega) (subC (by omega) (subC (by omega) (subC (by omega) subX)))))
end Go.Proofs.Ythfaldoagmkllaa
