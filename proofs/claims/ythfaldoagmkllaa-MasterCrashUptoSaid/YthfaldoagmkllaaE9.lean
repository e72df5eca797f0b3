/- Disks that do what they are asked; the watchman. -/
import Derived.Test.YthfaldoagmkllaaE8
set_option linter.unusedVariables false
set_option linter.unusedSimpArgs false
namespace Go.Proofs.Ythfaldoagmkllaa
open Go Go.RowKit

structure DS.Calm (d : DS) : Prop where
  down : d.down = false
  fuse : d.fuse = 0
  fails : ∀ k, failAt d.fails k = false
theorem calm_op {d : DS} (h : d.Calm) : d.opP = (0, { d with ops := d.ops + 1 }) := by
  unfold DS.opP
  rw [if_neg (by rw [h.fuse]; omega), h.fails]
  rfl
theorem calm_new (n : Nat) : (DS.new n).Calm := ⟨rfl, rfl, fun k => rfl⟩
theorem calm_write {d : DS} (h : d.Calm) {b : Nat} (hb : b < d.n) (x : List UInt8) : d.writeP (b : Nat) x = (0, ({ d with ops := d.ops + 1 } : DS).wr b x 4) := by
  unfold DS.writeP
  rw [if_neg (by rw [h.down]; decide), if_neg (by omega), calm_op h]
  rfl
theorem calm_sync {d : DS} (h : d.Calm) : d.syncP = (0, ({ d with ops := d.ops + 1 } : DS).settle [] true) := by
  unfold DS.syncP
  rw [if_neg (by rw [h.down]; decide), calm_op h]
  rfl
theorem calm_read {d : DS} (h : d.Calm) {b : Nat} (hb : b < d.n) : d.readP (b : Nat) = (gatherP d.seen b, 0, { d with ops := d.ops + 1 }) := by
  unfold DS.readP
  rw [if_neg (by rw [h.down]; decide), if_neg (by omega), calm_op h]
  rfl
/-- A disk behind a store. -/
def DS.stored (d : DS) (b : Nat) (m : Ms) : DS := ({ ({ d with ops := d.ops + 1 } : DS).wr b (packM m) 4 with ops := d.ops + 2 } : DS).settle [] true
theorem calm_store {d : DS} (h : d.Calm) (hn : 2 ≤ d.n) {b : Nat} (hb : b < 2) {m : Ms} (hy : mayM m = true) : d.storeP (b : Nat) m = (0, d.stored b m) := by
  unfold DS.storeP
  rw [if_pos ⟨hy, by omega, by omega⟩, calm_write h (by omega)]
  have hc : (({ d with ops := d.ops + 1 } : DS).wr b (packM m) 4).Calm := ⟨h.down, h.fuse, h.fails⟩
  show (if (0 : Nat) ≠ 0 then _ else _) = _
  rw [if_neg (by omega), calm_sync hc]
  rfl
theorem stored_calm {d : DS} (h : d.Calm) (b : Nat) (m : Ms) : (d.stored b m).Calm := ⟨h.down, h.fuse, h.fails⟩
theorem stored_ok {d : DS} (hd : d.Ok) (ho : d.ops + 2 < 1000000) (hp : d.pend.length + 4 ≤ 1000000) {b : Nat} (hb : b < d.n) (m : Ms) : (d.stored b m).Ok := by
  have h1 : ({ d with ops := d.ops + 1 } : DS).Ok := ⟨hd.n1, hd.n2, hd.sure, hd.seen, hd.pend, hd.sureN, hd.seenN, hd.few, hd.fails, by show d.ops + 1 ≤ 1000000; omega⟩
  have h2 := wr_ok h1 (b := b) (x := packM m) hb (packM_len m) 4 (by omega) hp
  have h3 : ({ ({ d with ops := d.ops + 1 } : DS).wr b (packM m) 4 with ops := d.ops + 2 } : DS).Ok := ⟨h2.n1, h2.n2, h2.sure, h2.seen, h2.pend, h2.sureN, h2.seenN, h2.few, h2.fails, by show d.ops + 2 ≤ 1000000; omega⟩
  exact settle_ok h3 [] true
theorem stored_gat {d : DS} (hd : d.Ok) (hp : d.pend.length + 4 ≤ 1000000) {b : Nat} (hb : b < d.n) (m : Ms) (c : Nat) : gatherP (d.stored b m).seen c = if c = b then packM m else gatherP d.seen c :=
  gat_wr hd hb (packM_len m) hp c
theorem stored_pend (d : DS) (b : Nat) (m : Ms) : (d.stored b m).pend = [] := rfl
theorem calm_load {d : DS} (h : d.Calm) (hn : 2 ≤ d.n) : d.loadP = (pickM (unpackM (gatherP d.seen 0)) (unpackM (gatherP d.seen 1)), { d with ops := d.ops + 2 }) := by
  have h0 := calm_read h (b := 0) (by omega)
  have hc : ({ d with ops := d.ops + 1 } : DS).Calm := ⟨h.down, h.fuse, h.fails⟩
  have h1 := calm_read hc (b := 1) hn
  have h0 : d.readP 0 = (gatherP d.seen 0, 0, { d with ops := d.ops + 1 }) := h0
  have h1 : ({ d with ops := d.ops + 1 } : DS).readP 1 = (gatherP d.seen 1, 0, { d with ops := d.ops + 2 }) := h1
  unfold DS.loadP
  rw [h0]
  simp only [ne_eq, not_true_eq_false, if_false]
  rw [h1]
  simp
section
variable {a b s q m x : Nat} (h6 : Six a b s q m x) (d : DS)
include h6
theorem store_at (hd : d.Ok) (ho : d.ops + 1 < 1000000) (hp : d.pend.length + 4 ≤ 1000000) (slot : Int) (M : Ms) (hM : M.Ok) :
    ACall Try.prog 18 [.ptr a 0 [], .int .i64 slot, M.av] (diskG d a b s q m) (.int .i64 ((d.storeP slot M).1 : Nat)) (diskG (d.storeP slot M).2 a b s q (if (d.storeP slot M).2.pend = d.pend then m else x)) := by
  have h1 := ACall.swap 12 (by omega) (store_spec d hd ho hp slot M hM) ⟨trivial, on_ms _ _, trivial⟩ trivial
  have h2 := ACall.disk a b s q m x h6.nd (args := [.int .i64 slot, M.av]) h1 ⟨trivial, on_ms _ _, trivial⟩ trivial
  by_cases h : (d.storeP slot M).2.pend = d.pend
  · simp only [h, if_true] at h2 ⊢; exact h2
  · simp only [h, if_false] at h2 ⊢; exact h2
theorem load_at (hd : d.Ok) (ho : d.ops + 1 < 1000000) : ACall Try.prog 16 [.ptr a 0 []] (diskG d a b s q m) (loadAV d.loadP.1) (diskG d.loadP.2 a b s q m) :=
  ACall.disk a b s q m x h6.nd (args := []) (load_spec d hd ho) trivial ⟨on_ms _ _, trivial, trivial, trivial⟩
end
theorem plain_may (s : Nat) : mayM (plainM s) = true := rfl
theorem plain_ok {s : Nat} (h : s < 18446744073709551616) : (plainM s).Ok := ⟨h, show (3 : Nat) < _ by decide, show (0 : Nat) < _ by decide, show (9 : Nat) < _ by decide, show (0 : Nat) < _ by decide, show (100 : Nat) < _ by decide⟩
theorem awake_spec : ACall Try.prog 15 [] [] (.bool true) [] := by
  refine ACall.run (Z := Z) (N := 37) mixed hZ Try.func15 rfl rfl (by kernel_rfl) (by simp) no_args 100 ?_
  have hk := new_ok (n := 4) (by omega) (by omega)
  have hc := calm_new 4
  have hst := store_at (six 105 (by omega)) (DS.new 4) hk (by decide) (by decide) 1 (plainM 5) (plain_ok (by omega))
  have hsp : (DS.new 4).storeP 1 (plainM 5) = (0, (DS.new 4).stored 1 (plainM 5)) := calm_store hc (by decide) (b := 1) (by omega) (plain_may 5)
  rw [hsp] at hst
  rw [if_pos (show ((DS.new 4).stored 1 (plainM 5)).pend = (DS.new 4).pend from rfl)] at hst
  have hgt := fun c => stored_gat hk (by decide) (b := 1) (by decide) (plainM 5) c
  have hdk := stored_ok hk (by decide) (by decide) (b := 1) (by decide) (plainM 5)
  have hdc := stored_calm hc 1 (plainM 5)
  have hdp := stored_pend (DS.new 4) 1 (plainM 5)
  have hdf : ((DS.new 4).stored 1 (plainM 5)).fails = none := rfl
  have hdn : ((DS.new 4).stored 1 (plainM 5)).n = 4 := rfl
  have hdo : ((DS.new 4).stored 1 (plainM 5)).ops = 2 := rfl
  obtain ⟨d, hd⟩ : ∃ d, (DS.new 4).stored 1 (plainM 5) = d := ⟨_, rfl⟩
  rw [hd] at hst hdk hdc hdp hdf hdn hdo
  simp only [hd] at hgt
  have hst : ACall Try.prog 18 [.ptr 100 0 [], .int .i64 1, (plainM 5).av] (diskG (DS.new 4) 100 101 102 103 104) (.int .i64 0) (diskG d 100 101 102 103 104) := hst
  have hg0 : gatherP d.seen 0 = zb 256 := by rw [hgt 0, if_neg (by omega)]; decide +kernel
  have hg1 : gatherP d.seen 1 = packM (plainM 5) := by rw [hgt 1, if_pos rfl]
  have hld := load_at (six 105 (by omega)) d hdk (by omega)
  have hlp : d.loadP = ((plainM 5, 1, 0), { d with ops := d.ops + 2 }) := by
    rw [calm_load hdc (by omega), hg0, hg1, unpack_zero, unpack_pack (plain_ok (by omega)) (plain_may 5)]; rfl
  rw [hlp] at hld
  have hld : ACall Try.prog 16 [.ptr 100 0 []] (diskG d 100 101 102 103 104) (.tuple [(plainM 5).av, .int .i64 1, .int .i64 0]) (diskG { d with ops := d.ops + 2 } 100 101 102 103 104) := hld
  have hps := plain_spec 5
  have hms := msize_spec (plainM 5)
  have hsz : sizeM (plainM 5) = 71 := rfl
  rw [hsz] at hms
  have hcm := cellsEq_ms (plainM 5) (plainM 5)
  rw [Ms.eqb_iff.2 rfl] at hcm
  have i5 : ∀ x, x ∈ [AV.int .u64 ((5 : Nat) : Int)] → ∀ vs, x ≠ .tuple vs := fun x hx => by
    simp only [List.mem_singleton] at hx; subst hx; exact fun vs h => by cases h
  have y0 : ((0 : Int) != 0) = false := rfl
  have y1 : ((0 : Int) == 0) = true := rfl
  have y2 : ((1 : Int) == 1) = true := rfl
  have y3 : ((71 : Int) == 71) = true := rfl
  simp -dsimp -implicitDefEqProofs only [↓j0, ↓j1, ↓j7, ↓j12, ↓j15, j17, j18, j20, ↓j30, j32, ↓j39, ↓j53, ↓j145, argEnv, j172]
  refine CallTo.gen (args := [.int .i64 ((4 : Nat) : Int)]) [] (diskG (DS.new 4) 100 101 102 103 104) 105 rfl fok17 (by simp -dsimp -implicitDefEqProofs only [↓j30, j33, j173, j174]; rfl) (fun x hx => (args_i x hx).2) (new_at 4 (by omega) (by omega)) (fun n b h => by simp [Heap.get] at h) ⟨by show 100 ≤ 105; omega, new_put⟩ ?_
  simp -dsimp -implicitDefEqProofs only [↓j0, ↓j1, ↓j2, ↓j7, ↓j12, ↓j15, j17, j18, j20, ↓j25, ↓j29, ↓j30, j35, ↓j38, ↓j39, ↓j48, ↓j53, ↓j145, ↓j146, ↓j148, ↓j151, j163, j164, j171, j172, j174, j175, ↓reduceIte, Nat.reduceEqDiff, j211, ↓j235, j319]
  refine CallTo.pure (args := [.int .u64 ((5 : Nat) : Int)]) rfl fok19 (by simp -dsimp -implicitDefEqProofs only [↓j30, j33, j173, j174]; rfl) i5 hps ?_
  simp -dsimp -implicitDefEqProofs only [↓j2, j17, j18, j20, ↓j25, ↓j53, ↓j145, ↓j148, ↓j151, j163, j164, j171, j175, ↓reduceIte, Nat.reduceEqDiff]
  refine CallTo.disk1 (args := [.int .i64 (1 : Int), (plainM 5).av]) rfl fok18 (by simp -dsimp -implicitDefEqProofs only [↓j25, ↓j29, ↓j30, j33, j173, j174, ↓reduceIte, Nat.reduceEqDiff]) (fun y hy => (args_sm y hy).2) hst sub0 (by rw [hdf]; exact fun h => absurd rfl h) (by rw [hdp]; exact fun h => absurd rfl h) ?_
  simp -dsimp -implicitDefEqProofs only [↓j0, ↓j1, ↓j2, ↓j7, ↓j9, ↓j12, ↓j13, ↓j15, j17, j18, j20, ↓j25, ↓j29, ↓j30, j32, j33, ↓j38, ↓j40, ↓j48, ↓j53, j83, ↓j89, ↓j145, ↓j146, ↓j148, ↓j149, ↓j151, j158, j163, j164, j171, j172, j175, ↓reduceIte, Nat.reduceEqDiff, j185, j195, y0, dels_dg0]
  refine CallTo.disk1 (args := []) rfl fok16 (by simp -dsimp -implicitDefEqProofs only [↓j25, ↓j29, j173, j174, ↓reduceIte]) (fun y hy => by simp at hy) hld sub0 (fun h => h) (fun h => h) ?_
  simp -dsimp -implicitDefEqProofs only [↓j0, ↓j1, ↓j4, ↓j5, ↓j8, ↓j12, ↓j15, j17, j18, j19, j20, j21, j23, j24, ↓j25, ↓j27, ↓j29, ↓j30, j32, j33, ↓j38, ↓j39, ↓j40, ↓j41, ↓j43, ↓j44, ↓j48, ↓j53, ↓j57, ↓j76, ↓j78, j83, j85, ↓j89, j129, ↓j145, ↓j146, ↓j147, ↓j150, ↓j153, j157, AV.proj, AV.offOf, AV.upd, AV.size, AV.sizeL, AV.layable, j163, j164, j170, j171, j172, j174, j175, ↓reduceIte, Nat.reduceAdd, Nat.reduceEqDiff, j182, j185, j188, j189, j197, j282, j283, j412, y1, y2, dels_dg0, del_dg0]
  refine CallTo.pure (args := [.int .u64 ((5 : Nat) : Int)]) rfl fok19 (by simp -dsimp -implicitDefEqProofs only [↓j30, j33, j173, j174]; rfl) i5 hps ?_
  simp -dsimp -implicitDefEqProofs only [↓j4, ↓j5, j17, j18, j20, j24, ↓j25, ↓j27, ↓j29, ↓j30, j32, ↓j38, ↓j40, ↓j43, ↓j45, ↓j48, ↓j53, ↓j76, ↓j79, j83, ↓j91, j129, ↓j145, ↓j146, ↓j147, ↓j150, ↓j153, AV.proj, AV.offOf, AV.size, AV.sizeL, AV.flat, AV.flatL, j163, j164, j166, j167, j170, j171, j172, j173, j174, j175, ↓reduceIte, Nat.reduceAdd, Nat.reduceEqDiff, j182, j195, j196, j197, j211, kindOf, j266, j267, j283, j300, j302, j303, hcm]
  refine CallTo.pure (args := [(plainM 5).cfg]) rfl fok14 (by simp -dsimp -implicitDefEqProofs only [↓j25, ↓j29, j173, j174, ↓reduceIte]) (fun x hx => (args_cfg x hx).2) hms ?_
  simp -dsimp -implicitDefEqProofs only [↓j3, ↓j4, ↓j5, j17, j18, j20, j24, ↓j25, ↓j29, ↓j30, j32, j33, ↓j39, ↓j40, ↓j48, j83, ↓j89, ↓j145, ↓j146, ↓j147, ↓j150, j157, j163, j164, j170, j171, j172, j174, j175, ↓reduceIte, Nat.reduceEqDiff, j185, y3]
  refine ⟨by kernel_rfl, ?_⟩
  simp -dsimp -implicitDefEqProofs only [↓j10]
  exact Final.one (.inr rfl) (r := .tmp 0) rfl ⟨rfl, fun vs h => by cases h⟩ (fun vs h => by cases h) (fun vs h => by cases h) (.same _ trivial)
end Go.Proofs.Ythfaldoagmkllaa
