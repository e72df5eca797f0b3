/- The law MasterCrash. -/
import Derived.Test.YthfaldoagmkllaaE16
set_option linter.unusedVariables false
set_option linter.unusedSimpArgs false
namespace Go.Proofs.Ythfaldoagmkllaa
open Go Go.RowKit

def mcT (more fu times : Nat) (keep : List Bool) (a i : Nat) : Env := [(14, .int .i64 i), (13, .ptr 105 0 []), (12, .int .i64 a), (11, .ptr 100 0 []), (0, .int .u8 more), (2, .int .u8 fu), (3, boolsAV keep), (4, .int .u8 times), (10, .bool false)]
def mcSt (more fu times : Nat) (keep : List Bool) (d : DS) (old : Ms) (a i : Nat) : St := ⟨106, mcT more fu times keep a i, diskG d 100 101 102 103 104 ++ [(105, .cells old.av)], 106⟩
theorem mc_onT {more fu times : Nat} {keep : List Bool} {a i : Nat} : onTL (fun k => k < 106 ∧ k ∉ [((111 : Nat), (102 : Nat))].map (·.2)) (mcT more fu times keep a i) :=
  onTL_cons trivial (onTL_cons (show (105 : Nat) < 106 ∧ 105 ∉ _ by simp) (onTL_cons trivial (onTL_cons (show (100 : Nat) < 106 ∧ 100 ∉ _ by simp) (onTL_cons trivial (onTL_cons trivial (onTL_cons (on_bools _ _) (onTL_cons trivial (onTL_cons trivial onTL_nil))))))))
theorem args_mc {more fu times : Nat} {slot : Bool} {keep : List Bool} : ∀ x, x ∈ [AV.int .u8 (more : Nat), .bool slot, .int .u8 (fu : Nat), boolsAV keep, .int .u8 (times : Nat)] → AV.on (fun _ => False) x ∧ ∀ vs, x ≠ .tuple vs := fun x hx => by
  simp only [List.mem_cons, List.not_mem_nil, or_false] at hx
  rcases hx with rfl | rfl | rfl | rfl | rfl
  · exact ⟨trivial, fun vs h => by cases h⟩
  · exact ⟨trivial, fun vs h => by cases h⟩
  · exact ⟨trivial, fun vs h => by cases h⟩
  · exact ⟨on_bools _ _, fun vs h => by cases h⟩
  · exact ⟨trivial, fun vs h => by cases h⟩
theorem args_ni {k : Int} : ∀ y, y ∈ [AV.nilsl, AV.int .i64 k] → ∀ vs, y ≠ .tuple vs := fun y hy vs h => by
  subst h; simp at hy
theorem diskG_no {d : DS} {a b s q q' m m' : Nat} (h : d.pend = []) (hf : d.fails = none) : diskG d a b s q m = diskG d a b s q' m' := by
  unfold diskG
  rw [h, hf]
  rfl
theorem crash_two {o : Oper} {d : DS} {n : Nat} {t : Env} {H : Heap} {K : Eff → Nat → Prop} {ars : Array Operand} {ts : Array TypeId} {keep : List Bool} {mm : Nat} (hd : d.Ok) (hk : keep.length ≤ 9223372036854775807) (hmm : mm = 104 ∨ mm = 108)
    (ho : o.op = .call { callee := .value (.func 22), args := ars, argTypes := ts }) (hargs : ars.toList.map (St.ev ⟨n, t, H, 111⟩) = [some (.ptr 100 0 []), some (.sl 110 0 [] 0 keep.length keep.length 1)])
    (h110 : Heap.get H 110 = some (.cells (.agg (keep.map AV.bool)))) (hH : SubD d 100 101 102 107 mm H)
    (hK : K ⟨.tuple [], [], 110 :: (diskG d 100 101 102 107 mm).map (·.1), diskG (d.crashP keep) 100 101 111 107 mm⟩ 112) : CallTo Try.prog o ⟨n, t, H, 111⟩ K := by
  have hr := crash_at (a := 100) (b := 101) (s := 102) (q := 107) (m := mm) (x := 111) ⟨by simp; omega⟩ d hd keep hk
  have n110 : 110 ∉ (diskG d 100 101 102 107 mm).map (·.1) := fun h => by
    rcases names_diskG.1 h with h | h | h | ⟨h, _⟩ | ⟨h, _⟩ <;> omega
  have hfz := Frz.sl (K := fun n => n ∈ (diskG d 100 101 102 107 mm).map (·.1)) (H := [(110, .cells (.agg (keep.map AV.bool)))]) 110 0 [] 0 keep.length keep.length 1 _ (keep.map AV.bool) rfl n110 rfl rfl (by simp) (unif_bools keep) (fun x hx => by
    have := List.mem_of_mem_drop (List.mem_of_mem_take hx)
    obtain ⟨_, _, rfl⟩ := List.mem_map.1 this
    trivial)
  rw [List.drop_zero, List.take_of_length_le (by simp)] at hfz
  have hl := hr.lendH [(110, .cells (.agg (keep.map AV.bool)))] (args' := [.ptr 100 0 [], .sl 110 0 [] 0 keep.length keep.length 1]) ⟨.same _ (names_diskG.2 (.inl rfl)), hfz, trivial⟩ (fun n hn => by
    simp only [List.map_cons, List.map_nil, List.mem_singleton] at hn
    subst hn
    exact ⟨n110, get_dg0 (show _ ≠ _ ∧ _ by omega)⟩)
  refine CallTo.gen (args := [.ptr 100 0 [], .sl 110 0 [] 0 keep.length keep.length 1]) ((110, .cells (.agg (keep.map AV.bool))) :: diskG d 100 101 102 107 mm) (diskG (d.crashP keep) 100 101 111 107 mm) 112 ho fok22 hargs (fun x hx vs h => by subst h; simp at hx) hl (fun n b h => ?_) ⟨by show (111 : Nat) ≤ 112; omega, fun n x h hn => ?_⟩ hK
  · simp only [Heap.get] at h
    by_cases h13 : n = 110
    · rw [if_pos h13] at h; rw [h13, h110]; exact h
    · rw [if_neg h13] at h
      exact hH n b h
  · simp only [List.map_cons, List.mem_cons, not_or] at hn
    rcases names_diskG.1 (get_map h) with h | h | h | ⟨h, h2⟩ | ⟨h, h2⟩
    · exact absurd (names_diskG.2 (.inl h)) hn.2
    · exact absurd (names_diskG.2 (.inr (.inl h))) hn.2
    · show 111 ≤ n ∧ n < 112; omega
    · exact absurd rfl h2
    · exact absurd rfl h2
theorem diskG_bare {d : DS} {s : Nat} (h : d.pend = []) (hf : d.fails = none) : diskG d 100 101 s 103 104 = [(100, .cells (.agg [.int .i64 d.n, .mapv 101, .mapv s, .nilsl, .nilmap, .int .i64 d.fuse, .int .i64 d.ops, .bool d.down])), (101, mapB d.sure), (s, mapB d.seen)] := by
  unfold diskG
  rw [h, hf]
  rfl
theorem mc_onH {d : DS} {m : Ms} (h : d.pend = []) (hf : d.fails = none) : onHL (okN [(111, 102)] 106) (diskG d 100 101 111 103 104 ++ [(105, .cells m.av)]) := by
  rw [diskG_bare h hf]
  exact onHL_cons (.inl (by simp)) ⟨trivial, .inl (by simp), .inr (by simp), trivial, trivial, trivial, trivial, trivial, trivial⟩ (onHL_cons (.inl (by simp)) (on_mapW _ _) (onHL_cons (.inr (by simp)) (on_mapW _ _) (onHL_cons (.inl (by simp)) (on_ms _ _) onHL_nil)))
theorem mc_ren {d : DS} {m : Ms} (h : d.pend = []) (hf : d.fails = none) : Heap.ren (rnL [(111, 102)]) (diskG d 100 101 111 103 104 ++ [(105, .cells m.av)]) = diskG d 100 101 102 103 104 ++ [(105, .cells m.av)] := by
  have e1 : ∀ x y : Heap, Heap.ren (rnL [(111, 102)]) (x ++ y) = Heap.ren (rnL [(111, 102)]) x ++ Heap.ren (rnL [(111, 102)]) y := fun x y => by simp [Heap.ren]
  rw [e1, ren_disk, Heap.ren_fix (S := fun k => k = 105) (fun k hk => by rw [hk]; rfl) (onHL_cons (b := .cells m.av) (d := 105) rfl (on_ms _ m) onHL_nil)]
  rfl
theorem mc_front {d : DS} {x y : ABlk} {Z : Heap} {k : Nat} {v : ABlk} (h : Heap.get (diskG d 100 101 111 103 104 ++ [(105, x)]) k = some v) : Heap.get ((105, x) :: (112, y) :: (diskG d 100 101 111 103 104 ++ Z)) k = some v := by
  by_cases h5 : k = 105
  · subst h5
    rw [get_dg (show _ ≠ _ ∧ _ by decide)] at h
    exact h
  · rw [get_append] at h
    have hg : Heap.get (diskG d 100 101 111 103 104) k = some v := by
      cases hq : Heap.get (diskG d 100 101 111 103 104) k with
      | some w => rw [hq] at h; exact h
      | none =>
        rw [hq] at h
        simp [Heap.get, h5] at h
    have h12 : k ≠ 112 := fun e => by
      rw [e, get_dg0 (show _ ≠ _ ∧ _ by decide)] at hg
      cases hg
    show (if k = 105 then _ else if k = 112 then _ else _) = _
    rw [if_neg h5, if_neg h12, get_append, hg]
def nextM (s i : Nat) : Ms := { plainM s with epoch := i }
set_option maxRecDepth 8000 in
set_option maxHeartbeats 6400000 in
theorem masterCrash_spec (more : Nat) (hmo : more < 256) (slot : Bool) (fu : Nat) (hfu : fu < 256) (keep : List Bool) (hkp : keep.length ≤ 1048576) (times : Nat) (hti : times < 256) : ACall Try.prog 7 [.int .u8 more, .bool slot, .int .u8 fu, boolsAV keep, .int .u8 times] [] (.bool true) [] := by
  refine ACall.run (Z := Z) (N := 106) mixed hZ Try.func7 rfl rfl (by kernel_rfl) (by simp) args_mc 100 ?_
  have ret : ∀ (t : Env) (H : Heap) (k : Nat), look t 10 = some (.bool true) → Final Try.prog Try.f7 (.bool true) [] .ret ⟨106, t, H, k⟩ := fun t H k h =>
    Final.one (.inr rfl) (r := .tmp 10) rfl ⟨h, fun vs h => by cases h⟩ (fun vs h => by cases h) (fun vs h => by cases h) (.same _ trivial)
  obtain ⟨a0, ha0, ha02⟩ : ∃ a0 : Nat, ((slot = false ∧ a0 = 0) ∨ (slot = true ∧ a0 = 1)) ∧ a0 < 2 := by
    cases slot
    · exact ⟨0, .inl ⟨rfl, rfl⟩, by omega⟩
    · exact ⟨1, .inr ⟨rfl, rfl⟩, by omega⟩
  have hk := new_ok (n := 3) (by omega) (by omega)
  have hc := calm_new 3
  have hst := store_at (six 105 (by omega)) (DS.new 3) hk (by decide) (by decide) (a0 : Int) (plainM 7) (plain_ok (by omega))
  have hsp : (DS.new 3).storeP (a0 : Int) (plainM 7) = (0, (DS.new 3).stored a0 (plainM 7)) := calm_store hc (by decide) ha02 (plain_may 7)
  rw [hsp] at hst
  rw [if_pos (show ((DS.new 3).stored a0 (plainM 7)).pend = (DS.new 3).pend from rfl)] at hst
  have hcr := cr_first (keep := keep) ha02 (plain_ok (s := 7) (by omega)) (plain_may 7) (by decide)
  obtain ⟨d0, hd0⟩ : ∃ d, (DS.new 3).stored a0 (plainM 7) = d := ⟨_, rfl⟩
  rw [hd0] at hst hcr
  have hst : ACall Try.prog 18 [.ptr 100 0 [], .int .i64 (a0 : Nat), (plainM 7).av] (diskG (DS.new 3) 100 101 102 103 104) (.int .i64 0) (diskG d0 100 101 102 103 104) := hst
  have hps := plain_spec 7
  have u1 : ∀ (s : Nat), ∀ x, x ∈ [AV.int .u64 (s : Nat)] → ∀ vs, x ≠ .tuple vs := fun s x hx => by
    simp only [List.mem_singleton] at hx; subst hx; exact fun vs h => by cases h
  have y0 : ((0 : Int) != 0) = false := rfl
  have v1 : (times : Int).tmod 6 = ((times % 6 : Nat) : Int) := by rw [Int.tmod_eq_emod_of_nonneg (by omega)]; omega
  have v2 : IntKind.i64.wrap ((times % 6 : Nat) : Int) = ((times % 6 : Nat) : Int) := wrap_i64 (by omega) (by omega)
  have v3 : (more : Int).tmod 5 = ((more % 5 : Nat) : Int) := by rw [Int.tmod_eq_emod_of_nonneg (by omega)]; omega
  have v4 : IntKind.u64.wrap ((more % 5 : Nat) : Int) = ((more % 5 : Nat) : Int) := by rw [wrap_u64, Nat.mod_eq_of_lt (by omega)]
  have v5 : IntKind.i64.wrap (fu : Int) = (fu : Int) := wrap_i64 (by omega) (by omega)
  have v6 : (fu : Int).tmod 4 = ((fu % 4 : Nat) : Int) := by rw [Int.tmod_eq_emod_of_nonneg (by omega)]; omega
  have v7 : IntKind.i64.wrap (1 + ((fu % 4 : Nat) : Int)) = ((1 + fu % 4 : Nat) : Int) := by rw [wrap_i64 (by omega) (by omega)]; omega
  obtain ⟨F, hF⟩ : ∃ F, 1 + fu % 4 = F := ⟨_, rfl⟩
  rw [hF] at v7
  have start : ∀ (t : Env) (H : Heap), SubT (mcT more fu times keep a0 0) t → (∀ n b, Heap.get (diskG d0 100 101 102 103 104 ++ [(105, .cells (plainM 7).av)]) n = some b → Heap.get H n = some b) → Wk ⟨106, t, H, 106⟩ (mcSt more fu times keep d0 (plainM 7) a0 0) := fun t H ht hH => Wk.mk ht.spec hH (Nat.le_refl _) rfl
  rcases ha0 with ⟨rfl, rfl⟩ | ⟨rfl, rfl⟩
  all_goals
    simp -dsimp -implicitDefEqProofs only [↓j0, ↓j1, ↓j7, ↓j12, ↓j15, j17, j18, j20, ↓j30, j32, ↓j39, ↓j53, ↓j145, argEnv, j172, Nat.reduceAdd, j196]
    refine CallTo.gen (args := [.int .i64 ((3 : Nat) : Int)]) [] (diskG (DS.new 3) 100 101 102 103 104) 105 rfl fok17 (by simp -dsimp -implicitDefEqProofs only [↓j30, j33, j173, j174]; rfl) (fun x hx => (args_i x hx).2) (new_at 3 (by omega) (by omega)) (fun n b h => by simp [Heap.get] at h) ⟨by show 100 ≤ 105; omega, new_put⟩ ?_
    simp -dsimp -implicitDefEqProofs only [↓j0, ↓j1, ↓j7, ↓j9, ↓j12, ↓j13, ↓j15, j17, j18, j20, ↓j25, ↓j29, ↓j30, j33, ↓j38, ↓j39, ↓j53, ↓j145, ↓j147, ↓j148, ↓j149, j171, j172, j174, reduceCtorEq, ↓reduceIte, Nat.reduceEqDiff]
    refine CallTo.pure (args := [.int .u64 ((7 : Nat) : Int)]) rfl fok19 (by simp -dsimp -implicitDefEqProofs only [↓j30, j33, j173, j174]; rfl) (u1 7) hps ?_
    simp -dsimp -implicitDefEqProofs only [↓j0, ↓j1, ↓j2, ↓j7, ↓j12, ↓j15, j17, j18, j19, j20, j21, j23, ↓j25, ↓j27, ↓j29, ↓j30, j35, ↓j38, ↓j41, ↓j43, ↓j44, ↓j48, ↓j53, ↓j76, ↓j78, j129, ↓j145, ↓j146, ↓j148, ↓j151, ↓j153, AV.proj, AV.offOf, AV.upd, AV.size, AV.sizeL, AV.layable, j163, j164, j170, j171, j175, ↓reduceIte, Nat.reduceAdd, Nat.reduceEqDiff, j182, j188, j189, j197, j211, ↓j235, j282, j283, j319, j412, del_dg0]
    refine CallTo.disk1 (args := [.int .i64 (_ : Int), (plainM 7).av]) rfl fok18 (by simp -dsimp -implicitDefEqProofs only [↓j25, ↓j29, j173, j174, ↓reduceIte, Nat.reduceEqDiff]; rfl) (fun y hy => (args_sm y hy).2) hst (subC (by omega) sub0) (by rw [hcr.fails]; exact fun h => absurd rfl h) (by rw [hcr.pend]; exact fun h => absurd rfl h) ?_
    simp -dsimp -implicitDefEqProofs only [↓j0, ↓j1, ↓j2, ↓j7, ↓j9, ↓j12, ↓j13, ↓j14, ↓j15, ↓j16, j17, j18, j20, ↓j25, ↓j29, ↓j30, j32, j33, ↓j39, ↓j40, ↓j48, j83, ↓j89, ↓j145, ↓j146, ↓j148, ↓j149, ↓j151, j158, j163, j164, j171, j175, ↓reduceIte, Nat.reduceEqDiff, j182, j185, j188, j189, j195, y0, dels_cons_dg, dels_dg0]
    refine AWp.loopR (Z := Z) mixed hZ (by kernel_rfl) (fun n s => ∃ i d old a, i + n = times % 6 + 1 ∧ Cr keep d a old ∧ old.seq ≤ 7 + 5 * i ∧ s = mcSt more fu times keep d old a i) (n0 := times % 6 + 1) (s0 := mcSt more fu times keep d0 (plainM 7) _ 0) ?_ ⟨0, d0, plainM 7, _, by omega, hcr, by decide, rfl⟩ ?_ rfl
    · exact start _ _ (by simp -dsimp -implicitDefEqProofs only [↓j25, j179, reduceCtorEq, ↓reduceIte, Nat.reduceEqDiff, j182, j183, j184, j202, j203, j209, mcT] <;> simp) (fun n b h => h)
    rintro n s ⟨i, d, old, a, hi, hd, hsq, rfl⟩
    refine ⟨rfl, ?_⟩
    have hat := hd.at2
    cases n with
    | zero =>
      have g : decide ((i : Int) ≤ ((times % 6 : Nat) : Int)) = false := decide_eq_false (by omega)
      simp -dsimp -implicitDefEqProofs only [↓j0, ↓j1, ↓j7, ↓j11, ↓j12, ↓j13, ↓j15, j17, j18, j20, ↓j25, ↓j29, ↓j30, j33, ↓j38, ↓j48, ↓j50, ↓j53, ↓j89, j109, ↓j145, ↓j146, ↓j148, ↓j149, j160, j171, reduceCtorEq, ↓reduceIte, Nat.reduceEqDiff, Int.reduceEq, j185, ↓j225, j251, j459, mcSt, mcT, v1, v2, g]
      refine CallTo.pure (args := []) rfl fok15 rfl nil0 awake_spec ?_
      simp -dsimp -implicitDefEqProofs only [↓j0, ↓j1, ↓j10, j17, j18, j20, ↓j25, ↓j29, ↓j39, ↓j145, j171, ↓reduceIte]
      exact ret _ _ _ rfl
    | succ n =>
      have g : decide ((i : Int) ≤ ((times % 6 : Nat) : Int)) = true := decide_eq_true (by omega)
      have hw : IntKind.i64.wrap ((i : Int) + 1) = ((i + 1 : Nat) : Int) := by rw [wrap_i64 (by omega) (by omega)]; omega
      have w32 : IntKind.u32.wrap (i : Int) = (i : Int) := by rw [wrap_u32, Nat.mod_eq_of_lt (by omega)]
      have s1 : IntKind.u64.wrap ((old.seq : Int) + 1) = ((old.seq + 1 : Nat) : Int) := by
        have : (old.seq : Int) + 1 = ((old.seq + 1 : Nat) : Int) := by omega
        rw [this, wrap_u64, Nat.mod_eq_of_lt (by omega)]
      have s2 : IntKind.u64.wrap (((old.seq + 1 : Nat) : Int) + ((more % 5 : Nat) : Int)) = ((old.seq + 1 + more % 5 : Nat) : Int) := by
        have : ((old.seq + 1 : Nat) : Int) + ((more % 5 : Nat) : Int) = ((old.seq + 1 + more % 5 : Nat) : Int) := by omega
        rw [this, wrap_u64, Nat.mod_eq_of_lt (by omega)]
      have s3 : IntKind.i64.wrap (1 - (a : Int)) = ((1 - a : Nat) : Int) := by rw [wrap_i64 (by omega) (by omega)]; omega
      obtain ⟨S, hS⟩ : ∃ S, old.seq + 1 + more % 5 = S := ⟨_, rfl⟩
      rw [hS] at s2
      have hpS := plain_spec S
      have hnok : (nextM S i).Ok := ⟨show S < _ by omega, show i < _ by omega, show (0 : Nat) < _ by decide, show (9 : Nat) < _ by decide, show (0 : Nat) < _ by decide, show (100 : Nat) < _ by decide⟩
      have hnmy : mayM (nextM S i) = true := rfl
      have hlt : old.seq < (nextM S i).seq := by show old.seq < S; omega
      obtain ⟨hek, hef, new, hn0, hlp, hcr2⟩ := cr_round hd (fu := F) (by omega) (by omega) hnok hnmy hlt
      have hpk := plan_ok hd.ok (fs := []) (fun f hf => by simp at hf) (F : Int)
      have hpl := (plan_at (a := 100) (b := 101) (s := 102) (q := 103) (m := 104) (x := 107) ⟨by decide⟩ d hd.ok [] (fun f hf => by simp at hf) (by decide) (F : Int)).nilArgs (args' := [.ptr 100 0 [], .nilsl, .int .i64 F]) ⟨.same _ (names_diskG.2 (.inl rfl)), .nil, .same _ trivial, trivial⟩
      have hst2 := store_at (a := 100) (b := 101) (s := 102) (q := 107) (m := 104) (x := 108) ⟨by decide⟩ (d.planP [] F) hpk (by show (0 : Nat) + 1 < _; omega) (by show d.pend.length + 4 ≤ _; rw [hd.pend]; decide) ((1 - a : Nat) : Int) (nextM S i) hnok
      rw [show (d.planP [] F).storeP ((1 - a : Nat) : Int) (nextM S i) = cutP d F (1 - a) (nextM S i) from rfl] at hst2
      obtain ⟨⟨c, e⟩, hce⟩ : ∃ r, cutP d F (1 - a) (nextM S i) = r := ⟨_, rfl⟩
      rw [hce] at hek hef hn0 hlp hcr2 hst2
      have hek : e.Ok := hek
      have hef : e.fails = some [] := hef
      have hn0 : c = 0 → new = true := hn0
      obtain ⟨mm, hmm⟩ : ∃ mm, (if e.pend = (d.planP [] F).pend then 104 else 108) = mm := ⟨_, rfl⟩
      have hm1 : (mm = 104 ∧ e.pend = []) ∨ mm = 108 := by
        by_cases h : e.pend = (d.planP [] F).pend
        · left; rw [← hmm, if_pos h]; exact ⟨rfl, h.trans hd.pend⟩
        · right; rw [← hmm, if_neg h]
      have hst2 : ACall Try.prog 18 [.ptr 100 0 [], .int .i64 ((1 - a : Nat) : Int), (nextM S i).av] (diskG (d.planP [] F) 100 101 102 107 104) (.int .i64 (c : Nat)) (diskG e 100 101 102 107 mm) := by rw [← hmm]; exact hst2
      have hck := crash_ok hek keep
      have hld := load_at (a := 100) (b := 101) (s := 111) (q := 103) (m := 104) (x := 112) ⟨by decide⟩ (e.crashP keep) hck (by show (0 : Nat) + 1 < _; omega)
      have hlp : (e.crashP keep).loadP = ((if new then nextM S i else old, ((if new then 1 - a else a : Nat) : Int), 0), { e.crashP keep with ops := 2 }) := hlp
      rw [hlp] at hld
      have hcr2 : Cr keep { e.crashP keep with ops := 2 } (if new then 1 - a else a) (if new then nextM S i else old) := hcr2
      have hcp : (e.crashP keep).pend = [] := rfl
      have hcf : (e.crashP keep).fails = none := rfl
      have hub := unif_bools keep
      have hu0 : Unif 1 [] := fun x hx => by simp at hx
      have hTk : List.take keep.length (keep.map AV.bool) = keep.map AV.bool := List.take_of_length_le (by simp)
      simp -dsimp -implicitDefEqProofs only [↓j0, ↓j1, ↓j7, ↓j9, ↓j12, ↓j13, ↓j14, ↓j15, j17, j18, j20, ↓j25, ↓j27, ↓j29, ↓j30, j33, ↓j38, ↓j43, ↓j45, ↓j48, ↓j50, ↓j53, ↓j76, ↓j79, ↓j89, j109, j130, ↓j145, ↓j146, ↓j147, ↓j149, ↓j153, j154, j160, AV.proj, AV.offOf, AV.sizeL, j163, j167, j171, reduceCtorEq, ↓reduceIte, Nat.reduceEqDiff, Int.reduceEq, j182, j185, j188, j189, j197, ↓j225, j251, j261, j262, j285, j459, mcSt, mcT, v1, v2, g, s1, v3, v4, s2, get_dg]
      refine CallTo.pure (args := [.int .u64 (S : Nat)]) rfl fok19 (by simp -dsimp -implicitDefEqProofs only [↓j25, ↓j29, j173, j174, ↓reduceIte]) (u1 S) hpS ?_
      simp -dsimp -implicitDefEqProofs only [↓j0, ↓j1, ↓j7, ↓j12, ↓j15, j17, j18, j19, j20, j21, j22, j23, ↓j25, ↓j27, ↓j29, ↓j30, j33, ↓j38, ↓j41, ↓j44, ↓j45, ↓j48, ↓j50, ↓j53, ↓j78, ↓j79, ↓j89, j109, ↓j145, ↓j146, ↓j153, j154, AV.proj, AV.offOf, AV.upd, AV.size, AV.sizeL, AV.layable, j163, j164, j166, j167, j168, j169, j170, j171, reduceCtorEq, ↓reduceIte, Nat.reduceAdd, Nat.reduceEqDiff, Int.reduceEq, j182, j185, j188, j189, j196, j197, ↓j225, j251, j263, j265, j282, j288, j412, j457, j459, w32, v5, v6, v7, del_dg]
      refine CallTo.disk 108 rfl fok21 (by simp -dsimp -implicitDefEqProofs only [↓j25, ↓j29, ↓j30, j36, j173, j174, ↓reduceIte, Nat.reduceEqDiff]) (fun y hy => args_ni y hy) hpl (subC (by omega) subX) (by omega) (.inl rfl) (.inr (.inr (by omega))) (.inl hd.pend) ?_
      simp -dsimp -implicitDefEqProofs only [↓j0, ↓j1, ↓j7, ↓j12, ↓j15, j17, j18, j20, ↓j25, ↓j27, ↓j29, ↓j30, j33, ↓j38, ↓j43, ↓j48, ↓j53, ↓j76, ↓j89, j129, ↓j145, ↓j146, ↓j153, j155, AV.proj, AV.offOf, AV.size, AV.sizeL, j171, ↓reduceIte, Nat.reduceAdd, Nat.reduceEqDiff, j182, j185, j188, j189, j197, j282, j283, s3, dels_cons_dg, dels_dgX, dels_empty, get_dg]
      have enx : AV.agg [.int .u64 ((plainM S).seq : Nat), .int .u32 (i : Nat), .int .u32 ((plainM S).tail : Nat), .int .u64 ((plainM S).lsn : Nat), .int .u32 ((plainM S).last : Nat), (plainM S).cfg] = (nextM S i).av := rfl
      rw [enx]
      refine CallTo.disk 109 (args := [.int .i64 ((1 - a : Nat) : Int), (nextM S i).av]) rfl fok18 (by simp -dsimp -implicitDefEqProofs only [↓j25, ↓j29, j173, j174, ↓reduceIte, Nat.reduceEqDiff]) (fun y hy => (args_sm y hy).2) hst2 subX (by omega) (.inl rfl) (.inr (.inl ⟨rfl, fun h => by cases h⟩)) ?_ ?_
      · rcases hm1 with ⟨_, h⟩ | h
        · exact .inl h
        · exact .inr (.inr (by omega))
      simp -dsimp -implicitDefEqProofs only [↓j0, ↓j1, ↓j7, ↓j12, ↓j15, j17, j18, j20, ↓j25, ↓j29, ↓j38, ↓j39, ↓j51, ↓j74, j125, j127, ↓j145, ↓j146, partsAV, AV.layable, j170, j171, reduceCtorEq, ↓reduceIte, Nat.reduceAdd, Nat.reduceEqDiff, j182, j188, j189, j214, j218, j219, j226, Nat.reducePow, List.replicate, j234, j438, dels_cons_dg, dels_dgX, dels_empty]
      refine DoAppend_of rfl rfl at53 ?_
      simp -dsimp -implicitDefEqProofs only [↓j27, ↓j101, ↓j102, ↓j104, ↓j146, ↓j153, ↓reduceIte, Nat.reduceEqDiff, j182, j184, j188, j189, j196, j197, j214, j222, j223, j231, j234, hub, hu0, hTk]
      have nm : 104 ≤ mm ∧ mm ≤ 108 ∧ mm ≠ 107 := by omega
      have gm : ∀ (k : Nat) (X : Heap), 105 ≤ k → k ≠ 107 → k ≠ 108 → Heap.get (diskG e 100 101 102 107 mm ++ X) k = Heap.get X k := fun k X h1 h2 h3 => get_dg (by omega)
      have lm : ∀ (k : Nat) (X : Heap), 105 ≤ k → k ≠ 107 → k ≠ 108 → Heap.del (diskG e 100 101 102 107 mm ++ X) k = diskG e 100 101 102 107 mm ++ Heap.del X k := fun k X h1 h2 h3 => del_dg (by omega)
      have g110 := fun X => gm 110 X (by omega) (by omega) (by omega)
      have g109 := fun X => gm 109 X (by omega) (by omega) (by omega)
      have g106 := fun X => gm 106 X (by omega) (by omega) (by omega)
      have g105 := fun X => gm 105 X (by omega) (by omega) (by omega)
      have l110 := fun X => lm 110 X (by omega) (by omega) (by omega)
      have l109 := fun X => lm 109 X (by omega) (by omega) (by omega)
      have l106 := fun X => lm 106 X (by omega) (by omega) (by omega)
      have l105 := fun X => lm 105 X (by omega) (by omega) (by omega)
      refine ⟨⟨by omega, by omega⟩, ?_⟩
      simp -dsimp -implicitDefEqProofs only [↓j1, j17, j18, j20, j21, j22, j23, ↓j53, j170, j171, ↓reduceIte, Nat.reduceAdd, Nat.reduceEqDiff, j196, j222, j228, j229, hTk, l109]
      refine crash_two hek (by omega) (by omega) rfl (by simp -dsimp -implicitDefEqProofs only [↓j25, ↓j29, j173, j174, ↓reduceIte, Nat.reduceEqDiff]) rfl (subC (by omega) subX) ?_
      have e105 : ((105 : Nat) = mm) = False := by simp; omega
      have e106 : ((106 : Nat) = mm) = False := by simp; omega
      have e110 : ((110 : Nat) = mm) = False := by simp; omega
      have e112 : ((112 : Nat) = mm) = False := by simp; omega
      obtain ⟨d2, hd2⟩ : ∃ x, e.crashP keep = x := ⟨_, rfl⟩
      rw [hd2] at hld hcr2 hcp hcf
      rw [hd2]
      simp -dsimp -implicitDefEqProofs only [↓j0, ↓j1, ↓j7, ↓j12, ↓j15, j17, j18, j20, j21, j22, j23, ↓j25, ↓j29, ↓j38, ↓j53, ↓j145, j171, ↓reduceIte, Nat.reduceEqDiff, j182, j188, j189, e105, e106, e110, dels_cons_dg, dels_dgX, dels_empty, del_dg]
      rw [diskG_no (q' := 103) (m' := 104) hcp hcf]
      obtain ⟨d3, hd3⟩ : ∃ x, ({ d2 with ops := 2 } : DS) = x := ⟨_, rfl⟩
      rw [hd3] at hld hcr2
      have hne1 : old.eqb (nextM S i) = false := by
        cases h : old.eqb (nextM S i)
        · rfl
        · have := Ms.eqb_iff.1 h
          rw [← this] at hlt; omega
      have hne2 : (nextM S i).eqb old = false := by
        cases h : (nextM S i).eqb old
        · rfl
        · have := Ms.eqb_iff.1 h
          rw [this] at hlt; omega
      have c1 := cellsEq_ms old (nextM S i)
      have c2 := cellsEq_ms (nextM S i) old
      have c3 := cellsEq_ms old old
      have c4 := cellsEq_ms (nextM S i) (nextM S i)
      rw [hne1] at c1
      rw [hne2] at c2
      rw [Ms.eqb_iff.2 rfl] at c3 c4
      have bb1 : (true != true) = false := rfl
      have bb2 : (false != false) = false := rfl
      have k1 : (((1 - a : Nat) : Int) == ((1 - a : Nat) : Int)) = true := by simp
      have k2 : ((a : Int) == ((1 - a : Nat) : Int)) = false := by rw [beq_eq_false_iff_ne]; omega
      have step : ∀ (t : Env) (H : Heap) (nx : Nat) (dd : DS) (m : Ms) (b : Nat), Cr keep dd b m → m.seq ≤ 7 + 5 * (i + 1) → SubT (mcT more fu times keep b (i + 1)) t → (∀ k x, Heap.get (diskG dd 100 101 111 103 104 ++ [(105, .cells m.av)]) k = some x → Heap.get H k = some x) →
          ∃ k s'', k < n + 1 ∧ (∃ i d old a, i + k = times % 6 + 1 ∧ Cr keep d a old ∧ old.seq ≤ 7 + 5 * i ∧ s'' = mcSt more fu times keep d old a i) ∧ Wk ⟨106, t, H, nx⟩ s'' := fun t H nx dd m b hcr hsq ht hH => by
        have hr := Wk.rensT (n := 106) (nx := nx) [(111, 102)] (K := 106) (by decide) (by simp) (by simp) (mc_onT (more := more) (fu := fu) (times := times) (keep := keep) (a := b) (i := i + 1)) (H := diskG dd 100 101 111 103 104 ++ [(105, .cells m.av)]) (H' := diskG dd 100 101 102 103 104 ++ [(105, .cells m.av)]) ?_ ?_
        · exact ⟨n, _, by omega, ⟨i + 1, dd, m, b, by omega, hcr, hsq, rfl⟩, Wk.trans (Wk.mk (s' := ⟨106, mcT more fu times keep b (i + 1), diskG dd 100 101 111 103 104 ++ [(105, .cells m.av)], nx⟩) ht.spec hH (Nat.le_refl _) rfl) hr⟩
        · exact mc_onH hcr.pend hcr.fails
        · exact mc_ren hcr.pend hcr.fails
      cases new
      · have hc0 : c ≠ 0 := fun h => by have := hn0 h; cases this
        have C0 : ((c : Int) == 0) = false := by rw [beq_eq_false_iff_ne]; omega
        have hld : ACall Try.prog 16 [.ptr 100 0 []] (diskG d2 100 101 111 103 104) (.tuple [old.av, .int .i64 (a : Nat), .int .i64 0]) (diskG d3 100 101 111 103 104) := hld
        have hcr2 : Cr keep d3 a old := hcr2
        refine CallTo.disk1 (args := []) rfl fok16 (by simp -dsimp -implicitDefEqProofs only [↓j25, ↓j29, j173, j174, ↓reduceIte]) (fun y hy => by simp at hy) hld subX (by rw [hcr2.fails]; exact fun h => absurd rfl h) (by rw [hcr2.pend]; exact fun h => absurd rfl h) ?_
        simp -dsimp -implicitDefEqProofs only [↓j0, ↓j1, ↓j2, ↓j7, ↓j9, ↓j12, ↓j13, ↓j15, j17, j18, j19, j20, j21, j22, j23, ↓j25, ↓j27, ↓j29, ↓j30, j32, j33, ↓j38, ↓j39, ↓j40, ↓j41, ↓j43, ↓j44, ↓j48, ↓j57, ↓j76, ↓j78, j82, j83, j85, ↓j89, ↓j90, ↓j91, j129, ↓j145, ↓j146, ↓j148, ↓j149, ↓j150, ↓j151, ↓j153, j154, j155, j157, j158, AV.proj, AV.offOf, AV.upd, AV.size, AV.sizeL, AV.layable, AV.flat, AV.flatL, j163, j164, j170, j171, j172, j173, j174, j175, ↓reduceIte, Nat.reduceAdd, Nat.reduceEqDiff, j182, j185, j188, j189, j193, j195, j197, j211, j212, kindOf, j282, j283, j302, j303, j412, j458, y0, c1, c3, C0, bb2, k2, s3, dels_cons_dg, dels_dgX, dels_empty, get_dg, del_dg]
        exact step _ _ _ d3 old a hcr2 (by omega) (by simp -dsimp -implicitDefEqProofs only [↓j25, reduceCtorEq, ↓reduceIte, Nat.reduceEqDiff, j182, j202, j203, mcT, hw] <;> simp) (fun k x h => mc_front h)
      · have hld : ACall Try.prog 16 [.ptr 100 0 []] (diskG d2 100 101 111 103 104) (.tuple [(nextM S i).av, .int .i64 ((1 - a : Nat) : Nat), .int .i64 0]) (diskG d3 100 101 111 103 104) := hld
        have hcr2 : Cr keep d3 (1 - a) (nextM S i) := hcr2
        have hsS : (nextM S i).seq ≤ 7 + 5 * (i + 1) := by show S ≤ _; omega
        refine CallTo.disk1 (args := []) rfl fok16 (by simp -dsimp -implicitDefEqProofs only [↓j25, ↓j29, j173, j174, ↓reduceIte]) (fun y hy => by simp at hy) hld subX (by rw [hcr2.fails]; exact fun h => absurd rfl h) (by rw [hcr2.pend]; exact fun h => absurd rfl h) ?_
        obtain ⟨C, hC⟩ : ∃ C, ((c : Int) == 0) = C := ⟨_, rfl⟩
        cases C
        all_goals
          simp -dsimp -implicitDefEqProofs only [↓j0, ↓j1, ↓j2, ↓j7, ↓j9, ↓j12, ↓j13, ↓j15, j17, j18, j19, j20, j21, j22, j23, ↓j25, ↓j27, ↓j29, ↓j30, j32, j33, ↓j38, ↓j39, ↓j40, ↓j41, ↓j43, ↓j44, ↓j48, ↓j57, ↓j76, ↓j78, j82, j83, j85, ↓j89, ↓j90, ↓j91, j129, ↓j145, ↓j146, ↓j147, ↓j148, ↓j149, ↓j150, ↓j151, ↓j153, j154, j155, j157, j158, AV.proj, AV.offOf, AV.upd, AV.size, AV.sizeL, AV.layable, AV.flat, AV.flatL, j163, j164, j170, j171, j172, j173, j174, j175, ↓reduceIte, Nat.reduceAdd, Nat.reduceEqDiff, j182, j185, j188, j189, j193, j194, j195, j197, j211, j212, kindOf, j282, j283, j302, j303, j412, j458, y0, c2, c4, hC, bb1, k1, s3, dels_cons_dg, dels_dgX, dels_empty, get_dg, del_dg]
          exact step _ _ _ d3 (nextM S i) (1 - a) hcr2 hsS (by simp -dsimp -implicitDefEqProofs only [↓j25, reduceCtorEq, ↓reduceIte, Nat.reduceEqDiff, j182, j202, j203, mcT, hw] <;> simp) (fun k x h => mc_front h)
end Go.Proofs.Ythfaldoagmkllaa
