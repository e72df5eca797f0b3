/- The law DiskLasts. -/
import Derived.Test.YtpnjllemklindaaD23
set_option linter.unusedVariables false
set_option linter.unusedSimpArgs false
namespace Go.Proofs.Ytpnjllemklindaa
open Go Go.RowKit

def bA (l : List UInt8) : AV := .vsl (l.map byteAV) l.length
theorem on_bA (S : Nat → Prop) (l : List UInt8) : AV.on S (bA l) := on_bytes S l
theorem args_l3 {a b : List UInt8} {k : List Bool} : ∀ y, y ∈ [bA a, bA b, boolsAV k] → AV.on (fun _ => False) y ∧ ∀ vs, y ≠ .tuple vs := fun y hy => by
  simp only [List.mem_cons, List.not_mem_nil, or_false] at hy
  rcases hy with rfl | rfl | rfl
  · exact ⟨on_bA _ _, fun vs h => by cases h⟩
  · exact ⟨on_bA _ _, fun vs h => by cases h⟩
  · exact ⟨on_bools _ _, fun vs h => by cases h⟩
def laT (a b : List UInt8) (k : List Bool) (i : Nat) : Env := [(8, .int .i64 i), (7, .ptr 100 0 []), (0, bA a), (1, bA b), (2, boolsAV k), (6, .bool false)]
def laSt (a b : List UInt8) (k : List Bool) (d : DS) (i : Nat) : St := ⟨116, laT a b k i, diskG d 100 101 102 103 104, 105⟩
theorem la_on {a b : List UInt8} {k : List Bool} {i : Nat} : onTL (fun k => k < 102) (laT a b k i) :=
  onTL_cons trivial (onTL_cons (show (100 : Nat) < 102 by decide) (onTL_cons (on_bA _ _) (onTL_cons (on_bA _ _) (onTL_cons (on_bools _ _) (onTL_cons trivial onTL_nil)))))
def lbT (a b : List UInt8) (k : List Bool) (c : Nat) : Env := [(10, .int .i64 c), (9, .ptr 105 0 []), (7, .ptr 100 0 []), (1, bA b), (2, boolsAV k), (6, .bool false)]
def lbSt (a b : List UInt8) (k : List Bool) (e : DS) (c : Nat) : St := ⟨116, lbT a b k c, diskG e 100 101 102 103 104 ++ [(105, .cells (.agg ((bL e.seen e c).map arrAV)))], 106⟩
theorem was0_eq {m : List Wr} {d : DS} : (bL m d 0).map arrAV = was0 := by
  unfold bL was0
  rw [List.range_zero, List.map_nil, List.nil_append, List.map_replicate]
theorem front_dg {e : DS} {A : ABlk} {n : Nat} : Heap.get ((105, A) :: diskG e 100 101 102 103 104) n = Heap.get (diskG e 100 101 102 103 104 ++ [(105, A)]) n := by
  have := get_front (X := []) (n := n) (c := A) (get_dg0 (d := e) (a := 100) (b := 101) (s := 102) (q := 103) (m := 104) (n := 105) (show _ ≠ _ ∧ _ by decide))
  rw [List.append_nil] at this
  exact this
def lcT (b : List UInt8) (k : List Bool) (j : Nat) : Env := [(12, .int .i64 j), (11, .sl 106 0 [] 0 256 256 1), (9, .ptr 105 0 []), (7, .ptr 100 0 []), (1, bA b), (2, boolsAV k), (6, .bool false)]
def lcX (e0 : DS) (ov : List Bool) : Heap := [(106, .cells (.agg (ov.map AV.bool))), (105, .cells (.agg ((bL e0.seen e0 256).map arrAV)))]
def lcSt (b : List UInt8) (k : List Bool) (e0 e : DS) (ov : List Bool) (j : Nat) : St := ⟨116, lcT b k j, diskG e 100 101 102 103 104 ++ lcX e0 ov, 107⟩
theorem lc_on {b : List UInt8} {k : List Bool} {j : Nat} : onTL (fun k => k < 104 ∨ k = 105 ∨ k = 106) (lcT b k j) :=
  onTL_cons trivial (onTL_cons (show (106 : Nat) < 104 ∨ (106 : Nat) = 105 ∨ (106 : Nat) = 106 by decide) (onTL_cons (show (105 : Nat) < 104 ∨ (105 : Nat) = 105 ∨ (105 : Nat) = 106 by decide) (onTL_cons (show (100 : Nat) < 104 ∨ (100 : Nat) = 105 ∨ (100 : Nat) = 106 by decide) (onTL_cons (on_bA _ _) (onTL_cons (on_bools _ _) (onTL_cons trivial onTL_nil))))))
theorem lc_onH {e0 : DS} {ov : List Bool} : onHL (fun k => k = 105 ∨ k = 106) (lcX e0 ov) :=
  onHL_cons (.inr rfl) (on_bools _ _) (onHL_cons (.inl rfl) (on_blk _ _) onHL_nil)
def ldT (c : Nat) : Env := [(13, .int .i64 c), (11, .sl 106 0 [] 0 256 256 1), (9, .ptr 105 0 []), (7, .ptr 100 0 []), (6, .bool false)]
def ldSt (k : List Bool) (e0 f : DS) (ov : List Bool) (c : Nat) : St := ⟨116, ldT c, diskG f 100 101 107 103 104 ++ lcX e0 ov, 108⟩
set_option maxHeartbeats 1600000 in
theorem diskLasts_spec (a b : List UInt8) (k : List Bool) (ha : a.length ≤ 9223372036854775807) (hb : b.length ≤ 9223372036854775807) (hk : k.length ≤ 1048576) : ACall Try.prog 3 [bA a, bA b, boolsAV k] [] (.bool true) [] := by
  refine ACall.run (Z := Z2) (N := 116) mixed hZ2 Try.func3 rfl rfl (by kernel_rfl) (by simp) args_l3 100 ?_
  have ret : ∀ (t : Env) (H : Heap) (m : Nat), look t 6 = some (.bool true) → Final Try.prog Try.f3 (.bool true) [] .ret ⟨116, t, H, m⟩ := fun t H m h =>
    Final.one (.inr rfl) (r := .tmp 6) rfl ⟨h, fun vs h => by cases h⟩ (fun vs h => by cases h) (fun vs h => by cases h) (.same _ trivial)
  have h999 : ∀ x, 105 ≤ x → Six 100 101 102 103 104 x := six
  have nil0 : ∀ x : AV, x ∈ ([] : List AV) → ∀ vs, x ≠ .tuple vs := fun x hx => by simp at hx
  simp -dsimp -implicitDefEqProofs only [↓j0, ↓j1, ↓j7, ↓j12, ↓j15, j17, j18, j20, ↓j30, j32, ↓j39, ↓j53, ↓j145, argEnv, j172, Nat.reduceAdd, j196]
  refine CallTo.gen (args := [.int .i64 ((300 : Nat) : Int)]) [] (diskG (DS.new 300) 100 101 102 103 104) 105 rfl fok9 (by simp -dsimp -implicitDefEqProofs only [↓j30, j33, j173, j174]; rfl) (fun x hx => (args_i x hx).2) (new_at 300 (by omega) (by omega)) (fun n b h => by simp [Heap.get] at h) ⟨by show 100 ≤ 105; omega, new_put⟩ ?_
  simp -dsimp -implicitDefEqProofs only [↓j0, ↓j1, ↓j7, ↓j9, ↓j12, ↓j13, ↓j14, ↓j15, ↓j16, j17, j18, j20, ↓j25, ↓j29, ↓j30, j33, j35, ↓j38, ↓j39, ↓j48, ↓j145, ↓j146, ↓j148, ↓j149, j171, j172, j174, ↓reduceIte, j211, ↓j235, j271, bA]
  refine AWp.loopR (Z := Z2) mixed hZ2 (by kernel_rfl) (fun n s => ∃ i d, i + n = min a.length 100 ∧ Ls i d ∧ s = laSt a b k d i) (n0 := min a.length 100) (s0 := laSt a b k (DS.new 300) 0) ?_ ⟨0, DS.new 300, by omega, ls_new, rfl⟩ ?_ rfl
  · exact wkT (by simp -dsimp -implicitDefEqProofs only [↓j25, j179, reduceCtorEq, ↓reduceIte, Nat.reduceEqDiff, j182, j183, j184, j202, j203, j209, laT, bA] <;> simp) (by omega)
  rintro n s ⟨i, d, hi, hd, rfl⟩
  refine ⟨rfl, ?_⟩
  by_cases hlt : i < a.length ∧ i < 100
  · have d1 : decide ((i : Int) < (a.length : Int)) = true := decide_eq_true (by omega)
    have d2 : decide ((i : Int) < 100) = true := decide_eq_true (by omega)
    have hlt1 : (i : Int) < (a.length : Int) := by omega
    have hw : IntKind.i64.wrap ((i : Int) + 1) = ((i + 1 : Nat) : Int) := by rw [wrap_i64 (by omega) (by omega)]; omega
    obtain ⟨y, hy⟩ := list_get (xs := a) (i := i) (by omega)
    have hyl := y.toNat_lt
    have hsz : AV.sizeL ((a.map byteAV).take i) = i * 1 := (unif_bytes a).sizeL_take (by simp; omega)
    have v1 : IntKind.i64.wrap (y.toNat : Int) = (y.toNat : Int) := wrap_i64 (by omega) (by omega)
    have v2 : IntKind.u8.wrap (i : Int) = (i : Int) := by rw [wrap_u8, Nat.mod_eq_of_lt (by omega)]
    have ho := hd.ops
    have hp := hd.pend
    obtain ⟨w1, w2⟩ := ls_write hd (by omega) (b := y.toNat) (by omega) (filL_len i 256)
    have hwr := write_at (h999 105 (by omega)) d hd.ok (by omega) (by omega) (y.toNat : Int) (filL i 256) (filL_len i 256)
    have hne : ¬ ((wrD d y.toNat (filL i 256)).pend = d.pend) := fun h => by
      have := congrArg List.length h
      rw [show (wrD d y.toNat (filL i 256)).pend.length = d.pend.length + 4 from wrPN_len _ _ _ _] at this
      omega
    rw [w1] at hwr
    simp only [hne, if_false] at hwr
    have z0 : (((0 : Nat) : Int) != 0) = false := rfl
    simp -dsimp -implicitDefEqProofs only [↓j0, ↓j1, ↓j2, ↓j4, ↓j7, ↓j8, ↓j9, ↓j12, ↓j13, ↓j14, ↓j15, j17, j18, j20, j24, ↓j25, ↓j29, ↓j30, j32, j33, ↓j38, ↓j40, ↓j43, ↓j46, ↓j48, ↓j50, ↓j53, ↓j58, ↓j62, ↓j77, j83, ↓j89, ↓j92, j130, j142, ↓j145, ↓j146, ↓j147, ↓j149, ↓j150, j159, AV.proj, AV.offOf, j163, j164, j170, j171, j172, j174, j175, j177, reduceCtorEq, ↓reduceIte, Nat.reduceEqDiff, j182, j185, j191, j197, j206, j207, j208, ↓j225, j251, j255, j256, j262, j490, j492, j494, laSt, laT, bA, d2, hlt1, hy, hsz, byteAV, v1, v2]
    refine CallTo.pure (args := [.int .u8 (i : Nat)]) rfl fok11 (by simp -dsimp -implicitDefEqProofs only [↓j25, ↓j29, j173, j174, ↓reduceIte]) (fun x hx => (args_i x hx).2) (filled_spec i (by omega)) ?_
    simp -dsimp -implicitDefEqProofs only [↓j4, j17, j18, j20, j24, ↓j53, j170, j171, j172, j174]
    refine CallTo.disk 106 rfl fok10 (by simp -dsimp -implicitDefEqProofs only [↓j25, ↓j29, j173, j174, ↓reduceIte, Nat.reduceEqDiff]) (fun z hz => (args_pbx z hz).2) hwr sub0 (by omega) (.inl rfl) (.inl w2.fails) (.inr (.inr ⟨by omega, by omega⟩)) ?_
    simp -dsimp -implicitDefEqProofs only [↓j3, ↓j4, j17, j18, j20, j24, ↓j25, ↓j29, ↓j30, j33, ↓j48, ↓j89, ↓j145, ↓j146, j158, j170, j171, j172, j174, ↓reduceIte, j185, z0, dels_dg0]
    refine ⟨confOk_sub [([],[]),([],[]),([],[]),([],[]),([],[]),([],[]),([],[]),([],[]),([],[]),([],[100, 101, 102, 103, 104, 102, 103, 105]),([],[])] ⟨fsub_refl _, fsub_refl _, fsub_refl _, fsub_refl _, fsub_refl _, fsub_refl _, fsub_refl _, fsub_refl _, fsub_refl _, fsub_disk, fsub_refl _, trivial⟩ (by kernel_rfl), ?_⟩
    simp -dsimp -implicitDefEqProofs only [↓j0, ↓j1, ↓j7, ↓j9, ↓j13, ↓j15, j17, j18, j20, ↓j25, ↓j29, ↓j30, j33, ↓j38, ↓j39, ↓j48, ↓j89, ↓j145, ↓j146, ↓j148, ↓j149, j154, j171, ↓reduceIte, Nat.reduceEqDiff, j185]
    refine ⟨n - 1, laSt a b k (wrD d y.toNat (filL i 256)) (i + 1), by omega, ⟨i + 1, _, by omega, w2, rfl⟩, Wk.trans (wkT (t0 := laT a b k (i + 1)) (by simp -dsimp -implicitDefEqProofs only [↓j25, reduceCtorEq, ↓reduceIte, Nat.reduceEqDiff, j182, j202, j203, laT, bA, hw] <;> simp) (Nat.le_refl _)) (Wk.disk0 (by omega) (by omega) la_on)⟩
  have hi100 : i ≤ 100 := by omega
  have hex : decide ((i : Int) < (a.length : Int)) = false ∧ decide ((i : Int) < 101) = true ∨ decide ((i : Int) < (a.length : Int)) = true ∧ decide ((i : Int) < 100) = false := by
    by_cases h : i < a.length
    · exact .inr ⟨decide_eq_true (by omega), decide_eq_false (by omega)⟩
    · exact .inl ⟨decide_eq_false (by omega), decide_eq_true (by omega)⟩
  have hops := hd.ops
  obtain ⟨y1, y2, y3⟩ := ls_sync hd (by omega)
  have hsy := sync_at (h999 105 (by omega)) d hd.ok (by omega)
  rw [y1] at hsy
  obtain ⟨e0, he0⟩ : ∃ e0, d.syncP.2 = e0 := ⟨_, rfl⟩
  rw [he0] at hsy y2 y3
  have z0 : (((0 : Nat) : Int) != 0) = false := rfl
  rcases hex with ⟨d1, d2⟩ | ⟨d1, d2⟩
  all_goals
    simp -dsimp -implicitDefEqProofs only [↓j0, ↓j1, ↓j2, ↓j7, ↓j11, ↓j12, ↓j13, ↓j15, j17, j18, j20, ↓j25, ↓j29, ↓j30, j32, j33, ↓j38, ↓j40, ↓j48, ↓j53, ↓j58, ↓j62, j82, j83, ↓j89, j142, ↓j145, ↓j146, ↓j147, ↓j148, ↓j149, ↓j150, j159, j163, j164, j171, j175, reduceCtorEq, ↓reduceIte, Nat.reduceEqDiff, j185, j494, laSt, laT, bA, d1, d2]
    refine CallTo.disk1 rfl fok12 (by simp -dsimp -implicitDefEqProofs only [↓j25, ↓j29, j173, j174, ↓reduceIte]) (fun y hy => by simp at hy) hsy sub0 (fun h => absurd y2.fails h) (fun h => absurd y3 h) ?_
    simp -dsimp -implicitDefEqProofs only [↓j0, ↓j1, ↓j7, ↓j9, ↓j12, ↓j13, ↓j14, ↓j15, ↓j16, j17, j18, j20, ↓j25, ↓j29, ↓j30, j33, ↓j39, ↓j41, ↓j48, ↓j89, ↓j145, ↓j146, ↓j148, ↓j149, j158, j170, j171, j172, ↓reduceIte, Nat.reduceAdd, j185, z0, Z2_32, dels_dg0]
    refine AWp.loopR (Z := Z2) mixed hZ2 (by kernel_rfl) (fun n s => ∃ c, c + n = 256 ∧ s = lbSt a b k e0 c) (n0 := 256) (s0 := lbSt a b k e0 0) ?_ ⟨0, by omega, rfl⟩ ?_ rfl
    · refine Wk.mk (SubT.spec (t0 := lbT a b k 0) (by simp -dsimp -implicitDefEqProofs only [↓j25, j179, reduceCtorEq, ↓reduceIte, Nat.reduceEqDiff, j182, j183, j184, j202, j203, j209, lbT, bA] <;> simp)) (fun n c h => ?_) (Nat.le_refl _) rfl
      rw [← h]
      show Heap.get ((105, .cells (.agg was0)) :: diskG e0 100 101 102 103 104) n = Heap.get (diskG e0 100 101 102 103 104 ++ [(105, .cells (.agg ((bL e0.seen e0 0).map arrAV)))]) n
      rw [was0_eq]
      exact front_dg
    rintro n2 s ⟨c, hc, rfl⟩
    refine ⟨rfl, ?_⟩
    have hl1 := bL_len e0.seen e0 (show c ≤ 256 by omega)
    have hu1 := unif_blk (bL_256 y2.ok.seen e0 (k := c))
    rcases Nat.lt_or_ge c 256 with hc8 | hc8
    · have hs1 := bL_set e0.seen e0 hc8
      have hw2 : IntKind.i64.wrap ((c : Int) + 1) = ((c + 1 : Nat) : Int) := by rw [wrap_i64 (by omega) (by omega)]; omega
      have f1 : decide ((c : Int) < 256) = true := decide_eq_true (by omega)
      have hse := seen_at (h999 106 (by omega)) e0 y2.ok ((c : Nat) : Int)
      have hrl1 := readL_256 y2.ok.seen e0 ((c : Nat) : Int)
      have hb9 : (c : Int) < ((256 : Nat) : Int) := by omega
      obtain ⟨s1, hs1e⟩ : ∃ x, bL e0.seen e0 c = x := ⟨_, rfl⟩
      rw [hs1e] at hl1 hu1 hs1
      obtain ⟨x1, hx1⟩ := list_get (xs := s1) (i := c) (by omega)
      have hz1 : AV.sizeL ((s1.map arrAV).take c) = c * 256 := hu1.sizeL_take (by simp; omega)
      have hyl1 : x1.length = 256 := bL_256 y2.ok.seen e0 (k := c) x1 (by rw [hs1e]; exact List.mem_of_getElem? hx1)
      have hst1 : (s1.map arrAV).set c (arrAV (e0.readL e0.seen ((c : Nat) : Int))) = (bL e0.seen e0 (c + 1)).map arrAV := by rw [← hs1, List.map_set]
      simp -dsimp -implicitDefEqProofs only [↓j0, ↓j1, ↓j7, ↓j9, ↓j12, ↓j13, ↓j14, ↓j15, j17, j18, j20, ↓j25, ↓j29, ↓j30, j33, ↓j38, ↓j48, ↓j53, ↓j89, ↓j145, ↓j146, ↓j147, ↓j149, j159, j171, ↓reduceIte, Nat.reduceEqDiff, j185, lbSt, lbT, bA, hs1e, f1]
      refine CallTo.disk1 rfl fok13 (by simp -dsimp -implicitDefEqProofs only [↓j25, ↓j29, j173, j174, ↓reduceIte, Nat.reduceEqDiff]) (fun y hy => (args_i y hy).2) hse subX (fun h => h) (fun h => h) ?_
      simp -dsimp -implicitDefEqProofs only [↓j0, ↓j1, ↓j7, ↓j15, j17, j18, j19, j20, j21, j22, j23, ↓j25, ↓j27, ↓j29, ↓j30, j33, ↓j38, ↓j39, ↓j44, ↓j46, ↓j48, ↓j78, ↓j89, ↓j94, ↓j145, ↓j146, ↓j153, j154, AV.proj, AV.offOf, AV.upd, AV.size, AV.layable, j170, j171, j172, j177, ↓reduceIte, Nat.reduceEqDiff, j182, j185, j188, j189, j196, j197, j206, j207, j208, j240, j280, hb9, hx1, hz1, hyl1, hrl1, hst1, ea32, dels_cons_dg, dels_dgX, dels_empty, get_dg, del_dg]
      refine ⟨n2 - 1, lbSt a b k e0 (c + 1), by omega, ⟨c + 1, by omega, rfl⟩, Wk.mk (SubT.spec (t0 := lbT a b k (c + 1)) (by simp -dsimp -implicitDefEqProofs only [↓j25, ↓reduceIte, Nat.reduceEqDiff, j182, j202, j203, lbT, bA, hw2] <;> simp)) (fun n c h => ?_) (Nat.le_refl _) rfl⟩
      rw [← h]
      exact front_dg
    have hc256 : c = 256 := by omega
    subst hc256
    have f1 : decide (((256 : Nat) : Int) < 256) = false := rfl
    simp -dsimp -implicitDefEqProofs only [↓j0, ↓j1, ↓j7, ↓j11, ↓j12, ↓j13, ↓j15, j17, j18, j20, ↓j25, ↓j29, ↓j30, j33, ↓j38, ↓j48, ↓j75, j88, ↓j89, ↓j145, ↓j146, ↓j148, ↓j149, j159, j171, ↓reduceIte, Int.reduceLE, j183, j184, j185, j232, lbSt, lbT, bA, f1, emz23]
    refine ⟨by omega, ?_⟩
    obtain ⟨R, hR⟩ : ∃ R, List.replicate (Int.toNat 256) ((AV.bool false, 1, 1) : AV × Nat × Nat).fst = R := ⟨_, rfl⟩
    rw [hR]
    have hR2 : (List.replicate 256 false).map AV.bool = R := by rw [List.map_replicate]; exact hR
    simp -dsimp -implicitDefEqProofs only [↓j0, ↓j1, ↓j7, ↓j12, ↓j14, ↓j15, ↓j16, j17, j18, j20, ↓j25, ↓j29, ↓j30, j33, ↓j39, ↓j145, j170, j171, ↓reduceIte, Nat.reduceAdd, Int.reduceToNat]
    refine AWp.loopR (Z := Z2) mixed hZ2 (by kernel_rfl) (fun n s => ∃ j e ov, j + n = min b.length 100 ∧ Lw e0 ov (i + 1 + j) e ∧ ov.length = 256 ∧ s = lcSt b k e0 e ov j) (n0 := min b.length 100) (s0 := lcSt b k e0 e0 (List.replicate 256 false) 0) ?_ ⟨0, e0, _, by omega, ⟨y2, rfl, fun w hw => by rw [y3] at hw; simp at hw⟩, by rw [List.length_replicate], rfl⟩ ?_ rfl
    · refine Wk.mk (SubT.spec (t0 := lcT b k 0) (by simp -dsimp -implicitDefEqProofs only [↓j25, j179, ↓reduceIte, Nat.reduceEqDiff, j182, j183, j184, j202, j203, j209, lcT, bA] <;> simp)) (fun n c h => ?_) (Nat.le_refl _) rfl
      rw [← h]
      show Heap.get ((106, .cells (.agg R)) :: (diskG e0 100 101 102 103 104 ++ [(105, .cells (.agg ((bL e0.seen e0 256).map arrAV)))])) n = Heap.get (diskG e0 100 101 102 103 104 ++ [(106, .cells (.agg ((List.replicate 256 false).map AV.bool))), (105, .cells (.agg ((bL e0.seen e0 256).map arrAV)))]) n
      rw [hR2]
      exact get_front (get_dg0 (show _ ≠ _ ∧ _ by decide))
    rintro n3 s ⟨j, e, ov, hj, hw, hov, rfl⟩
    refine ⟨rfl, ?_⟩
    have hho := hw.ls.ops
    have hhp := hw.ls.pend
    by_cases hlt3 : j < b.length ∧ j < 100
    · have g1 : decide ((j : Int) < (b.length : Int)) = true := decide_eq_true (by omega)
      have g2 : decide ((j : Int) < 100) = true := decide_eq_true (by omega)
      have g3 : (j : Int) < (b.length : Int) := by omega
      have hw3 : IntKind.i64.wrap ((j : Int) + 1) = ((j + 1 : Nat) : Int) := by rw [wrap_i64 (by omega) (by omega)]; omega
      obtain ⟨y, hy⟩ := list_get (xs := b) (i := j) (by omega)
      have hyl := y.toNat_lt
      have hsz : AV.sizeL ((b.map byteAV).take j) = j * 1 := (unif_bytes b).sizeL_take (by simp; omega)
      have v1 : IntKind.i64.wrap (y.toNat : Int) = (y.toNat : Int) := wrap_i64 (by omega) (by omega)
      have v2 : IntKind.i64.wrap (200 + (j : Int)) = ((200 + j : Nat) : Int) := by rw [wrap_i64 (by omega) (by omega)]; omega
      have v3 : IntKind.u8.wrap ((200 + j : Nat) : Int) = (((200 + j) % 256 : Nat) : Int) := wrap_u8 _
      have hul : Unif 1 (ov.map AV.bool) := fun x hx => by obtain ⟨_, _, rfl⟩ := List.mem_map.1 hx; rfl
      obtain ⟨ob, hob⟩ := list_get (xs := ov) (i := y.toNat) (by omega)
      have hsz2 : AV.sizeL ((ov.map AV.bool).take y.toNat) = y.toNat * 1 := hul.sizeL_take (by simp; omega)
      have hset : (ov.map AV.bool).set y.toNat (AV.bool true) = (ov.set y.toNat true).map AV.bool := by rw [List.map_set]
      have g4 : (y.toNat : Int) < ((256 : Nat) : Int) := by omega
      have hfl := filL_len ((200 + j) % 256) 256
      obtain ⟨w1, w2⟩ := ls_write hw.ls (by omega) (b := y.toNat) (by omega) hfl
      have w3 := lw_write hw (by omega) (b := y.toNat) (by omega) hov hfl
      have hwr := write_at (h999 107 (by omega)) e hw.ls.ok (by omega) (by omega) (y.toNat : Int) (filL ((200 + j) % 256) 256) hfl
      have hne : ¬ ((wrD e y.toNat (filL ((200 + j) % 256) 256)).pend = e.pend) := fun h => by
        have := congrArg List.length h
        rw [show (wrD e y.toNat (filL ((200 + j) % 256) 256)).pend.length = e.pend.length + 4 from wrPN_len _ _ _ _] at this
        omega
      rw [w1] at hwr
      simp only [hne, if_false] at hwr
      simp -dsimp -implicitDefEqProofs only [↓j0, ↓j1, ↓j2, ↓j4, ↓j7, ↓j8, ↓j9, ↓j12, ↓j13, ↓j14, ↓j15, j17, j18, j19, j20, j21, j22, j23, j24, ↓j25, ↓j27, ↓j29, ↓j30, j32, j33, ↓j38, ↓j40, ↓j43, ↓j44, ↓j46, ↓j48, ↓j50, ↓j53, ↓j58, ↓j62, ↓j77, ↓j78, j83, ↓j89, ↓j92, ↓j93, j130, j142, ↓j145, ↓j146, ↓j147, ↓j149, ↓j150, ↓j153, j154, j159, AV.proj, AV.offOf, AV.upd, AV.size, AV.layable, j163, j164, j170, j171, j172, j174, j175, j177, ↓reduceIte, Nat.reduceEqDiff, j182, j185, j188, j189, j191, j196, j197, j206, j207, j208, j224, ↓j225, j251, j252, j255, j256, j262, j267, j490, j492, j494, lcSt, lcT, lcX, bA, g2, g3, hy, hsz, byteAV, g4, hob, hsz2, hset, v1, v2, v3, get_dg, del_dg]
      refine CallTo.pure (args := [.int .u8 ((200 + j) % 256 : Nat)]) rfl fok11 (by simp -dsimp -implicitDefEqProofs only [↓j25, ↓j29, j173, j174, ↓reduceIte]) (fun x hx => (args_i x hx).2) (filled_spec ((200 + j) % 256) (Nat.mod_lt _ (by decide))) ?_
      simp -dsimp -implicitDefEqProofs only [↓j4, j17, j18, j20, j24, ↓j53, j170, j171, j172, j174]
      refine CallTo.disk 108 rfl fok10 (by simp -dsimp -implicitDefEqProofs only [↓j25, ↓j29, j173, j174, ↓reduceIte, Nat.reduceEqDiff]) (fun z hz => (args_pbx z hz).2) hwr (subC (by omega) subX) (by omega) (.inl rfl) (.inl w2.fails) (.inr (.inr ⟨by omega, by omega⟩)) ?_
      simp -dsimp -implicitDefEqProofs only [↓j3, ↓j4, j17, j18, j20, j24, ↓j25, ↓j29, ↓j30, j33, ↓j48, ↓j89, ↓j145, ↓j146, j158, j170, j171, j172, j174, ↓reduceIte, Nat.reduceEqDiff, j182, j185, j188, j189, z0, dels_cons_dg, dels_dgX, dels_empty]
      refine ⟨confOk_sub [([],[]),([],[]),([],[]),([],[]),([],[]),([],[]),([],[]),([],[]),([],[]),([],[]),([],[100, 101, 102, 103, 104, 102, 103, 107]),([],[])] ⟨fsub_refl _, fsub_refl _, fsub_refl _, fsub_refl _, fsub_refl _, fsub_refl _, fsub_refl _, fsub_refl _, fsub_refl _, fsub_refl _, fsub_disk, fsub_refl _, trivial⟩ (by kernel_rfl), ?_⟩
      simp -dsimp -implicitDefEqProofs only [↓j0, ↓j1, ↓j7, ↓j9, ↓j13, ↓j15, j17, j18, j20, ↓j25, ↓j29, ↓j30, j33, ↓j38, ↓j39, ↓j48, ↓j89, ↓j145, ↓j146, ↓j148, ↓j149, j154, j171, ↓reduceIte, Nat.reduceEqDiff, j185]
      refine ⟨n3 - 1, lcSt b k e0 (wrD e y.toNat (filL ((200 + j) % 256) 256)) (ov.set y.toNat true) (j + 1), by omega, ⟨j + 1, _, _, by omega, (show i + 1 + j + 1 = i + (1 + (j + 1)) by omega) ▸ w3, by rw [List.length_set]; exact hov, rfl⟩, Wk.trans (Wk.mk (s' := ⟨116, lcT b k (j + 1), diskG (wrD e y.toNat (filL ((200 + j) % 256) 256)) 100 101 102 103 107 ++ lcX e0 (ov.set y.toNat true), 108⟩) (SubT.spec (by simp -dsimp -implicitDefEqProofs only [↓j25, ↓reduceIte, Nat.reduceEqDiff, j182, j202, j203, lcT, bA, hw3] <;> simp)) (fun n c h => h) (Nat.le_refl _) rfl) (Wk.diskM (.inr (Nat.le_refl _)) lc_on lc_onH)⟩
    have hex3 : decide ((j : Int) < (b.length : Int)) = false ∧ decide ((j : Int) < 101) = true ∨ decide ((j : Int) < (b.length : Int)) = true ∧ decide ((j : Int) < 100) = false := by
      by_cases h : j < b.length
      · exact .inr ⟨decide_eq_true (by omega), decide_eq_false (by omega)⟩
      · exact .inl ⟨decide_eq_false (by omega), decide_eq_true (by omega)⟩
    have hcr := crash_at (h999 107 (by omega)) e hw.ls.ok k (by omega)
    have hco := crash_ok hw.ls.ok k
    have hls := fun (x : Nat) (h : ov[x]? = some false) => lw_seen y2 y3 hw k h
    have hcn : (e.crashP k).n = 300 := hw.ls.n3
    have hcf : (e.crashP k).fails = none := rfl
    have hcp : (e.crashP k).pend = [] := rfl
    have hcs : (e.crashP k).seen = (e.crashP k).sure := rfl
    obtain ⟨f, hf⟩ : ∃ f, e.crashP k = f := ⟨_, rfl⟩
    rw [hf] at hcr hco hcn hcf hcp hcs
    simp only [hf] at hls
    have h108 : Six 100 101 107 103 104 108 := ⟨by decide⟩
    rcases hex3 with ⟨g1, g2⟩ | ⟨g1, g2⟩
    all_goals
      simp -dsimp -implicitDefEqProofs only [↓j0, ↓j1, ↓j2, ↓j7, ↓j11, ↓j12, ↓j13, ↓j15, j17, j18, j20, ↓j25, ↓j29, ↓j30, j32, j33, ↓j38, ↓j40, ↓j48, ↓j53, ↓j58, ↓j62, j82, j83, ↓j89, j142, ↓j145, ↓j146, ↓j147, ↓j148, ↓j149, ↓j150, j159, j163, j164, j171, j175, ↓reduceIte, Nat.reduceEqDiff, j185, j224, j494, lcSt, lcT, lcX, bA, g1, g2]
      refine CallTo.pure (args := [boolsAV k]) rfl fok15 (by simp -dsimp -implicitDefEqProofs only [↓j25, ↓j29, j173, j174, ↓reduceIte]) (fun y hy => (args_bl y hy).2) (copied_spec k (by omega)) ?_
      simp -dsimp -implicitDefEqProofs only [↓j1, j17, j18, j20, ↓j53, j171]
      refine CallTo.disk 108 rfl fok14 (by simp -dsimp -implicitDefEqProofs only [↓j25, ↓j29, j173, j174, ↓reduceIte, Nat.reduceEqDiff]) (fun y hy => (args_bl y hy).2) hcr subX (by omega) (.inr (by omega)) (.inl hcf) (.inl hcp) ?_
      simp -dsimp -implicitDefEqProofs only [↓j0, ↓j1, ↓j7, ↓j12, ↓j14, ↓j15, ↓j16, j17, j18, j20, ↓j30, j33, ↓j39, ↓j145, j171, Nat.reduceEqDiff, j182, j188, j189, dels_cons_dg, dels_dgX, dels_empty]
      refine AWp.loopR (Z := Z2) mixed hZ2 (by kernel_rfl) (fun n s => ∃ c, c + n = 256 ∧ s = ldSt k e0 f ov c) (n0 := 256) (s0 := ldSt k e0 f ov 0) ?_ ⟨0, by omega, rfl⟩ ?_ rfl
      · exact Wk.mk (SubT.spec (t0 := ldT 0) (by simp -dsimp -implicitDefEqProofs only [↓j25, j179, ↓reduceIte, Nat.reduceEqDiff, j182, j183, j184, j202, j203, j209, ldT] <;> rfl)) (fun n c h => h) (Nat.le_refl _) rfl
      rintro n4 s ⟨c, hc, rfl⟩
      refine ⟨rfl, ?_⟩
      rcases Nat.lt_or_ge c 256 with hc8 | hc8
      · have hw4 : IntKind.i64.wrap ((c : Int) + 1) = ((c + 1 : Nat) : Int) := by rw [wrap_i64 (by omega) (by omega)]; omega
        have f1 : decide ((c : Int) < 256) = true := decide_eq_true (by omega)
        have g4 : (c : Int) < ((256 : Nat) : Int) := by omega
        have hul : Unif 1 (ov.map AV.bool) := fun x hx => by obtain ⟨_, _, rfl⟩ := List.mem_map.1 hx; rfl
        have hsz2 : AV.sizeL ((ov.map AV.bool).take c) = c * 1 := hul.sizeL_take (by simp; omega)
        obtain ⟨ob, hob⟩ := list_get (xs := ov) (i := c) (by omega)
        have hse := seen_at h108 f hco ((c : Nat) : Int)
        have hsu := sure_at h108 f hco ((c : Nat) : Int)
        rw [← hcs] at hsu
        have hrl := readL_256 hco.seen f ((c : Nat) : Int)
        have hyw := bL_get e0.seen e0 hc8
        have hlw := bL_len e0.seen e0 (show 256 ≤ 256 by omega)
        have huw := unif_blk (bL_256 y2.ok.seen e0 (k := 256))
        have hzw : AV.sizeL (((bL e0.seen e0 256).map arrAV).take c) = c * 256 := huw.sizeL_take (by simp; omega)
        have hew : ob = false → e0.readL e0.seen ((c : Nat) : Int) = f.readL f.seen ((c : Nat) : Int) := fun ho => by
          subst ho
          unfold DS.readL
          rw [y2.n3, hcn, if_neg (by omega), if_neg (by omega)]
          exact (hls c hob).symm
        obtain ⟨x1, hx1⟩ : ∃ x, f.readL f.seen ((c : Nat) : Int) = x := ⟨_, rfl⟩
        rw [hx1] at hse hsu hrl hew
        have hce1 := cellsEq_bytes (l := x1) (k := x1) rfl
        have hkb1 := kinds_bytes hrl
        have hbb1 : (x1 == x1) = true := beq_self_eq_true _
        rw [hbb1] at hce1
        cases ob
        · rw [hew rfl] at hyw
          simp -dsimp -implicitDefEqProofs only [↓j0, ↓j1, ↓j4, ↓j5, ↓j7, ↓j8, ↓j9, ↓j12, ↓j13, ↓j14, ↓j15, j17, j18, j20, j24, ↓j25, ↓j27, ↓j29, ↓j30, j33, ↓j38, ↓j43, ↓j46, ↓j48, ↓j53, ↓j55, ↓j76, j84, ↓j89, ↓j93, j131, ↓j145, ↓j146, ↓j147, ↓j149, ↓j150, ↓j153, j159, AV.proj, AV.offOf, j163, j164, j170, j171, j172, j174, j175, j177, ↓reduceIte, Nat.reduceEqDiff, j182, j185, j188, j189, j194, j196, j197, j206, j207, j208, j253, j267, ldSt, ldT, lcX, f1, g4, hob, hsz2, get_dg]
          refine CallTo.disk1 rfl fok13 (by simp -dsimp -implicitDefEqProofs only [↓j25, ↓j29, j173, j174, ↓reduceIte, Nat.reduceEqDiff]) (fun y hy => (args_i y hy).2) hse subX (fun h => h) (fun h => h) ?_
          simp -dsimp -implicitDefEqProofs only [↓j4, ↓j5, j17, j18, j20, j24, ↓j25, ↓j27, ↓j29, ↓j30, j32, ↓j38, ↓j40, ↓j43, ↓j46, ↓j48, ↓j53, ↓j76, j83, ↓j91, ↓j94, j129, ↓j145, ↓j146, ↓j147, ↓j148, ↓j150, ↓j151, ↓j153, AV.proj, AV.offOf, j163, j164, j170, j171, j172, j174, j175, j177, ↓reduceIte, Nat.reduceEqDiff, j182, j188, j189, j193, j196, j197, j206, j207, j208, j212, j240, j241, j280, j281, j283, j284, g4, hyw, hzw, hrl, hce1, hkb1, ea32, dels_cons_dg, dels_dgX, dels_empty, get_dg]
          refine CallTo.disk1 rfl fok16 (by simp -dsimp -implicitDefEqProofs only [↓j25, ↓j29, j173, j174, ↓reduceIte, Nat.reduceEqDiff]) (fun y hy => (args_i y hy).2) hsu subX (fun h => h) (fun h => h) ?_
          simp -dsimp -implicitDefEqProofs only [↓j5, j17, j18, j20, j24, ↓j25, ↓j29, ↓j38, ↓j53, ↓j145, ↓j148, ↓j151, j163, j164, j170, j171, j172, j174, j175, ↓reduceIte, Nat.reduceEqDiff, j182, j188, j189, dels_cons_dg, dels_dgX, dels_empty]
          refine CallTo.disk1 rfl fok13 (by simp -dsimp -implicitDefEqProofs only [↓j25, ↓j29, j173, j174, ↓reduceIte, Nat.reduceEqDiff]) (fun y hy => (args_i y hy).2) hse subX (fun h => h) (fun h => h) ?_
          simp -dsimp -implicitDefEqProofs only [↓j3, ↓j4, ↓j5, j17, j18, j20, j24, ↓j25, ↓j29, ↓j30, j32, ↓j40, ↓j48, j83, ↓j91, ↓j145, ↓j146, ↓j148, ↓j151, j163, j164, j170, j171, j172, j174, j175, ↓reduceIte, Nat.reduceEqDiff, j182, j188, j189, j193, j195, j212, j241, j281, j283, j284, hce1, hkb1, dels_cons_dg, dels_dgX, dels_empty]
          refine ⟨confOk_sub [([],[]),([],[]),([],[]),([106],[]),([],[]),([],[]),([],[]),([],[]),([],[100, 101, 107, 103, 104, 107, 103, 104]),([],[]),([],[]),([105],[]),([],[]),([],[]),([],[]),([],[]),([],[]),([],[100, 101, 107, 103, 104, 107, 103, 104]),([],[]),([],[]),([],[100, 101, 107, 103, 104, 107, 103, 104]),([],[]),([],[])] ⟨fsub_refl _, fsub_refl _, fsub_refl _, fsub_refl _, fsub_refl _, fsub_refl _, fsub_refl _, fsub_refl _, fsub_disk, fsub_refl _, fsub_refl _, fsub_refl _, fsub_refl _, fsub_refl _, fsub_refl _, fsub_refl _, fsub_refl _, fsub_disk, fsub_refl _, fsub_refl _, fsub_disk, fsub_refl _, fsub_refl _, trivial⟩ (by kernel_rfl), ?_⟩
          simp -dsimp -implicitDefEqProofs only [↓j0, ↓j1, ↓j7, ↓j9, ↓j13, ↓j15, j17, j18, j20, ↓j25, ↓j29, ↓j30, j33, ↓j38, ↓j39, ↓j48, ↓j89, ↓j145, ↓j146, ↓j148, ↓j149, j154, j171, ↓reduceIte, Nat.reduceEqDiff, j185]
          exact ⟨n4 - 1, ldSt k e0 f ov (c + 1), by omega, ⟨c + 1, by omega, rfl⟩, Wk.mk (SubT.spec (t0 := ldT (c + 1)) (by simp -dsimp -implicitDefEqProofs only [↓j25, ↓reduceIte, Nat.reduceEqDiff, j182, j202, j203, ldT, hw4] <;> rfl)) (fun n c h => h) (Nat.le_refl _) rfl⟩
        · simp -dsimp -implicitDefEqProofs only [↓j0, ↓j1, ↓j4, ↓j5, ↓j7, ↓j8, ↓j9, ↓j12, ↓j13, ↓j14, ↓j15, j17, j18, j20, j24, ↓j25, ↓j27, ↓j29, ↓j30, j32, j33, ↓j38, ↓j40, ↓j43, ↓j46, ↓j48, ↓j53, ↓j55, ↓j76, j82, j84, ↓j89, ↓j93, j131, ↓j145, ↓j146, ↓j147, ↓j148, ↓j149, ↓j150, ↓j151, ↓j153, j159, AV.proj, AV.offOf, j163, j164, j170, j171, j172, j174, j175, j177, ↓reduceIte, Nat.reduceEqDiff, j182, j185, j188, j189, j193, j196, j197, j206, j207, j208, j253, j267, ldSt, ldT, lcX, f1, g4, hob, hsz2, get_dg]
          refine CallTo.disk1 rfl fok16 (by simp -dsimp -implicitDefEqProofs only [↓j25, ↓j29, j173, j174, ↓reduceIte, Nat.reduceEqDiff]) (fun y hy => (args_i y hy).2) hsu subX (fun h => h) (fun h => h) ?_
          simp -dsimp -implicitDefEqProofs only [↓j5, j17, j18, j20, j24, ↓j25, ↓j29, ↓j38, ↓j53, ↓j145, ↓j148, ↓j151, j163, j164, j170, j171, j172, j174, j175, ↓reduceIte, Nat.reduceEqDiff, j182, j188, j189, dels_cons_dg, dels_dgX, dels_empty]
          refine CallTo.disk1 rfl fok13 (by simp -dsimp -implicitDefEqProofs only [↓j25, ↓j29, j173, j174, ↓reduceIte, Nat.reduceEqDiff]) (fun y hy => (args_i y hy).2) hse subX (fun h => h) (fun h => h) ?_
          simp -dsimp -implicitDefEqProofs only [↓j3, ↓j4, ↓j5, j17, j18, j20, j24, ↓j25, ↓j29, ↓j30, j32, ↓j40, ↓j48, j83, ↓j91, ↓j145, ↓j146, ↓j148, ↓j151, j163, j164, j170, j171, j172, j174, j175, ↓reduceIte, Nat.reduceEqDiff, j182, j188, j189, j193, j195, j212, j241, j281, j283, j284, hce1, hkb1, dels_cons_dg, dels_dgX, dels_empty]
          refine ⟨confOk_sub [([],[]),([],[]),([],[]),([106],[]),([],[]),([],[]),([],[]),([],[]),([],[]),([],[]),([],[]),([],[]),([],[]),([],[]),([],[]),([],[]),([],[]),([],[100, 101, 107, 103, 104, 107, 103, 104]),([],[]),([],[]),([],[100, 101, 107, 103, 104, 107, 103, 104]),([],[]),([],[])] ⟨fsub_refl _, fsub_refl _, fsub_refl _, fsub_refl _, fsub_refl _, fsub_refl _, fsub_refl _, fsub_refl _, fsub_refl _, fsub_refl _, fsub_refl _, fsub_refl _, fsub_refl _, fsub_refl _, fsub_refl _, fsub_refl _, fsub_refl _, fsub_disk, fsub_refl _, fsub_refl _, fsub_disk, fsub_refl _, fsub_refl _, trivial⟩ (by kernel_rfl), ?_⟩
          simp -dsimp -implicitDefEqProofs only [↓j0, ↓j1, ↓j7, ↓j9, ↓j13, ↓j15, j17, j18, j20, ↓j25, ↓j29, ↓j30, j33, ↓j38, ↓j39, ↓j48, ↓j89, ↓j145, ↓j146, ↓j148, ↓j149, j154, j171, ↓reduceIte, Nat.reduceEqDiff, j185]
          exact ⟨n4 - 1, ldSt k e0 f ov (c + 1), by omega, ⟨c + 1, by omega, rfl⟩, Wk.mk (SubT.spec (t0 := ldT (c + 1)) (by simp -dsimp -implicitDefEqProofs only [↓j25, ↓reduceIte, Nat.reduceEqDiff, j182, j202, j203, ldT, hw4] <;> rfl)) (fun n c h => h) (Nat.le_refl _) rfl⟩
      have hc256 : c = 256 := by omega
      subst hc256
      have f1 : decide (((256 : Nat) : Int) < 256) = false := rfl
      have hpe := pending_at h108 f
      rw [hcp] at hpe
      have z1 : (((0 : Nat) : Int) == 0) = true := rfl
      simp -dsimp -implicitDefEqProofs only [↓j0, ↓j1, ↓j7, ↓j11, ↓j12, ↓j13, ↓j15, j17, j18, j20, ↓j25, ↓j29, ↓j30, j33, ↓j38, ↓j48, ↓j53, ↓j89, ↓j145, ↓j146, ↓j148, ↓j149, j159, j171, ↓reduceIte, Nat.reduceEqDiff, j185, ldSt, ldT, f1]
      refine CallTo.disk1 rfl fok17 (by simp -dsimp -implicitDefEqProofs only [↓j25, ↓j29, j173, j174, ↓reduceIte]) (fun y hy => by simp at hy) hpe subX (fun h => h) (fun h => h) ?_
      simp -dsimp -implicitDefEqProofs only [↓j1, ↓j2, j17, j18, j20, ↓j25, ↓j29, ↓j30, j33, ↓j38, ↓j48, ↓j53, ↓j89, ↓j145, ↓j146, ↓j147, ↓j150, j157, j163, j164, j171, j175, ↓reduceIte, j185, j231, z1, dels_dgX]
      refine CallTo.pure (args := []) rfl fok18 rfl nil0 awake_spec ?_
      simp -dsimp -implicitDefEqProofs only [↓j0, ↓j1, ↓j10, j17, j18, j20, ↓j25, ↓j29, ↓j30, j32, ↓j39, ↓j40, j83, ↓j145, j171, ↓reduceIte, Nat.reduceEqDiff]
      exact ret _ _ _ rfl
end Go.Proofs.Ytpnjllemklindaa
