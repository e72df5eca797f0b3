/- The law MasterLoads. -/
import Derived.Test.YthfaldoagmkllaaE13
set_option linter.unusedVariables false
set_option linter.unusedSimpArgs false
namespace Go.Proofs.Ythfaldoagmkllaa
open Go Go.RowKit

theorem plan_two {o : Oper} {d : DS} {n : Nat} {t : Env} {X : Heap} {K : Eff → Nat → Prop} {ars : Array Operand} {ts : Array TypeId} {f : Int} (hd : d.Ok) (hfo : flOk f) (hf : d.fails = none)
    (ho : o.op = .call { callee := .value (.func 21), args := ars, argTypes := ts }) (hargs : ars.toList.map (St.ev ⟨n, t, (107, .cells (.agg [.int .i64 f])) :: (diskG d 100 101 102 103 106 ++ X), 108⟩) = [some (.ptr 100 0 []), some (.sl 107 0 [] 0 1 1 1), some (.int .i64 0)])
    (hK : K ⟨.tuple [], [], 107 :: (diskG d 100 101 102 103 106).map (·.1), diskG (d.planP [f] 0) 100 101 102 108 106⟩ 109) : CallTo Try.prog o ⟨n, t, (107, .cells (.agg [.int .i64 f])) :: (diskG d 100 101 102 103 106 ++ X), 108⟩ K := by
  have hr := plan_at (a := 100) (b := 101) (s := 102) (q := 103) (m := 106) (x := 108) ⟨by decide⟩ d hd [f] (fun g hg => by simp at hg; subst hg; exact hfo) (by simp) 0
  have n107 : 107 ∉ (diskG d 100 101 102 103 106).map (·.1) := fun h => by
    rcases names_diskG.1 h with h | h | h | ⟨h, _⟩ | ⟨h, _⟩ <;> omega
  have hfz := Frz.sl (K := fun n => n ∈ (diskG d 100 101 102 103 106).map (·.1)) (H := [(107, .cells (.agg [AV.int .i64 f]))]) 107 0 [] 0 1 1 1 _ [AV.int .i64 f] rfl n107 rfl rfl (by simp) (unif_ints [f]) (fun x hx => by simp at hx; subst hx; trivial)
  have hl := hr.lendH [(107, .cells (.agg [AV.int .i64 f]))] (args' := [.ptr 100 0 [], .sl 107 0 [] 0 1 1 1, .int .i64 0]) ⟨.same _ (names_diskG.2 (.inl rfl)), hfz, .same _ trivial, trivial⟩ (fun n hn => by
    simp only [List.map_cons, List.map_nil, List.mem_singleton] at hn
    subst hn
    exact ⟨n107, get_dg0 (show _ ≠ _ ∧ _ by decide)⟩)
  refine CallTo.gen (args := [.ptr 100 0 [], .sl 107 0 [] 0 1 1 1, .int .i64 0]) ((107, .cells (.agg [AV.int .i64 f])) :: diskG d 100 101 102 103 106) (diskG (d.planP [f] 0) 100 101 102 108 106) 109 ho fok21 hargs (fun x hx vs h => by subst h; simp at hx) hl (fun n b h => ?_) ⟨by show (108 : Nat) ≤ 109; omega, fun n x h hn => ?_⟩ hK
  · simp only [Heap.get] at h ⊢
    by_cases h13 : n = 107
    · rw [if_pos h13] at h ⊢; exact h
    · rw [if_neg h13] at h ⊢
      rw [get_append, h]
  · simp only [List.map_cons, List.mem_cons, not_or] at hn
    rcases names_diskG.1 (get_map h) with h | h | h | ⟨h, _⟩ | ⟨h, h2⟩
    · exact absurd (names_diskG.2 (.inl h)) hn.2
    · exact absurd (names_diskG.2 (.inr (.inl h))) hn.2
    · exact absurd (names_diskG.2 (.inr (.inr (.inl h)))) hn.2
    · show 108 ≤ n ∧ n < 109; omega
    · exact absurd ((names_diskG (d := d)).2 (.inr (.inr (.inr (.inr ⟨h, h2⟩))))) hn.2
theorem failAt_one (f k : Int) : failAt (some (plN [f] 1)) k = decide (k = f) := by
  show ((aGet (aPut [] f true) k).getD false) = _
  by_cases h : k = f
  · subst h; simp [aGet, aPut]
  · have h2 : ¬ f = k := fun e => h e.symm
    simp [aGet, aPut, h, h2]
theorem load_planned {d : DS} (hd : d.down = false) (hn : 2 ≤ d.n) (f : Int) : (d.planP [f] 0).loadP.1 = if f = 1 ∨ f = 2 then (.zero, 0, 3) else pickM (unpackM (gatherP d.seen 0)) (unpackM (gatherP d.seen 1)) := by
  have hop : ∀ k : Nat, ({ d.planP [f] 0 with ops := k } : DS).opP = (if ((k : Int) + 1) = f then (3, { d.planP [f] 0 with ops := k + 1 }) else (0, { d.planP [f] 0 with ops := k + 1 })) := fun k => by
    unfold DS.opP
    rw [if_neg (by show ¬ (1 ≤ (0 : Int) ∧ _); omega)]
    show (if failAt (some (plN [f] 1)) ((k : Int) + 1) = true then _ else _) = _
    rw [failAt_one]
    simp only [decide_eq_true_eq]
  have hr : ∀ (k b : Nat), b < 2 → ({ d.planP [f] 0 with ops := k } : DS).readP (b : Nat) = if ((k : Int) + 1) = f then (zb 256, 3, { d.planP [f] 0 with ops := k + 1 }) else (gatherP d.seen b, 0, { d.planP [f] 0 with ops := k + 1 }) := fun k b hb => by
    unfold DS.readP
    rw [if_neg (by show ¬ (d.down = true); rw [hd]; decide), if_neg (by show ¬ ((b : Int) < 0 ∨ (d.n : Int) ≤ b); omega), hop]
    by_cases h : ((k : Int) + 1) = f
    · rw [if_pos h, if_pos h]; rfl
    · rw [if_neg h, if_neg h]; rfl
  have h0 : (d.planP [f] 0).readP 0 = if ((0 : Nat) : Int) + 1 = f then (zb 256, 3, { d.planP [f] 0 with ops := 0 + 1 }) else (gatherP d.seen 0, 0, { d.planP [f] 0 with ops := 0 + 1 }) := hr 0 0 (by omega)
  have h1 : ({ d.planP [f] 0 with ops := 0 + 1 } : DS).readP 1 = if ((1 : Nat) : Int) + 1 = f then (zb 256, 3, { d.planP [f] 0 with ops := 1 + 1 }) else (gatherP d.seen 1, 0, { d.planP [f] 0 with ops := 1 + 1 }) := hr 1 1 (by omega)
  unfold DS.loadP
  by_cases f1 : f = 1
  · rw [if_pos (show ((0 : Nat) : Int) + 1 = f by omega)] at h0
    rw [h0, if_pos (show (3 : Nat) ≠ 0 by decide), if_pos (.inl f1)]
  · rw [if_neg (show ¬ ((0 : Nat) : Int) + 1 = f by omega)] at h0
    rw [h0, if_neg (show ¬ (0 : Nat) ≠ 0 by decide)]
    simp only
    by_cases f2 : f = 2
    · rw [if_pos (show ((1 : Nat) : Int) + 1 = f by omega)] at h1
      rw [h1, if_pos (show (3 : Nat) ≠ 0 by decide), if_pos (.inr f2)]
    · rw [if_neg (show ¬ ((1 : Nat) : Int) + 1 = f by omega)] at h1
      rw [h1, if_neg (show ¬ (0 : Nat) ≠ 0 by decide), if_neg (by omega)]
theorem loadP_same (d : DS) : d.loadP.2.fails = d.fails ∧ d.loadP.2.pend = d.pend := by
  obtain ⟨a1, a2⟩ := readP_same (d := d) 0
  obtain ⟨b1, b2⟩ := readP_same (d := (d.readP 0).2.2) 1
  unfold DS.loadP
  split
  · exact ⟨a1, a2⟩
  · split
    · exact ⟨b1.trans a1, b2.trans a2⟩
    · exact ⟨b1.trans a1, b2.trans a2⟩
theorem args_bbf {a b : List UInt8} {f : Int} : ∀ x, x ∈ [arrAV a, arrAV b, AV.int .u8 f] → AV.on (fun _ => False) x ∧ ∀ vs, x ≠ .tuple vs := fun x hx => by
  simp only [List.mem_cons, List.not_mem_nil, or_false] at hx
  rcases hx with rfl | rfl | rfl
  · exact ⟨on_bytes _ _, fun vs h => by cases h⟩
  · exact ⟨on_bytes _ _, fun vs h => by cases h⟩
  · exact ⟨trivial, fun vs h => by cases h⟩
set_option maxHeartbeats 3200000 in
theorem masterLoads_spec (a b : List UInt8) (ha : a.length = 256) (hb : b.length = 256) (f : Nat) (hf : f < 256) : ACall Try.prog 6 [arrAV a, arrAV b, .int .u8 f] [] (.bool true) [] := by
  refine ACall.run (Z := Z) (N := 128) mixed hZ Try.func6 rfl rfl (by kernel_rfl) (by simp) args_bbf 98 ?_
  have hk := new_ok (n := 3) (by omega) (by omega)
  have hc := calm_new 3
  -- the first block
  have hw1 := write_at (six 105 (by omega)) (DS.new 3) hk (by decide) (by decide) 0 a ha
  have hz1 := calm_write hc (b := 0) (by decide) a
  have hz1 : (DS.new 3).writeP 0 a = (0, ({ (DS.new 3) with ops := 1 } : DS).wr 0 a 4) := hz1
  have hk1 := writeP_ok hk (by decide) (b := 0) ha (by decide)
  have hl1 := writeP_zero (d := DS.new 3) (b := 0) (x := a) (by rw [hz1])
  have hg1 : ∀ c, gatherP (({ (DS.new 3) with ops := 1 } : DS).wr 0 a 4).seen c = if c = 0 then a else gatherP (DS.new 3).seen c := fun c => gat_wr hk (by decide) ha (by decide) c
  rw [hz1] at hw1 hk1 hl1
  have hc1 : (({ (DS.new 3) with ops := 1 } : DS).wr 0 a 4).Calm := ⟨rfl, rfl, fun k => rfl⟩
  have hn1 : (({ (DS.new 3) with ops := 1 } : DS).wr 0 a 4).n = 3 := rfl
  have ho1 : (({ (DS.new 3) with ops := 1 } : DS).wr 0 a 4).ops = 1 := rfl
  have hf1 : (({ (DS.new 3) with ops := 1 } : DS).wr 0 a 4).fails = none := rfl
  obtain ⟨d1, hd1⟩ : ∃ d, ({ (DS.new 3) with ops := 1 } : DS).wr 0 a 4 = d := ⟨_, rfl⟩
  simp only [hd1] at hw1 hk1 hl1 hg1 hc1 hn1 ho1 hf1
  have hl1 : d1.pend.length = 4 := hl1
  have hp1 : d1.pend ≠ [] := fun h => by rw [h] at hl1; cases hl1
  have hw1 : ACall Try.prog 20 [.ptr 100 0 [], .int .i64 0, arrAV a] (diskG (DS.new 3) 100 101 102 103 104) (.int .i64 0) (diskG d1 100 101 102 103 105) := by
    rw [if_neg (show ¬ d1.pend = (DS.new 3).pend from hp1)] at hw1
    exact hw1
  -- the second block
  have hw2 := write_at (six' 105 106 (by omega) (by omega) (by omega)) d1 hk1 (by omega) (by omega) 1 b hb
  have hz2 := calm_write hc1 (b := 1) (by omega) b
  have hz2 : d1.writeP 1 b = (0, ({ d1 with ops := d1.ops + 1 } : DS).wr 1 b 4) := hz2
  have hk2 := writeP_ok hk1 (by omega) (b := 1) hb (by omega)
  have hl2 := writeP_zero (d := d1) (b := 1) (x := b) (by rw [hz2])
  have hg2 : ∀ c, gatherP (({ d1 with ops := d1.ops + 1 } : DS).wr 1 b 4).seen c = if c = 1 then b else gatherP d1.seen c := fun c => gat_wr hk1 (by omega) hb (by omega) c
  rw [hz2] at hw2 hk2 hl2
  have hc2 : (({ d1 with ops := d1.ops + 1 } : DS).wr 1 b 4).Calm := ⟨hc1.down, hc1.fuse, hc1.fails⟩
  have hn2 : (({ d1 with ops := d1.ops + 1 } : DS).wr 1 b 4).n = 3 := hn1
  have ho2 : (({ d1 with ops := d1.ops + 1 } : DS).wr 1 b 4).ops = 2 := by show d1.ops + 1 = 2; omega
  have hf2 : (({ d1 with ops := d1.ops + 1 } : DS).wr 1 b 4).fails = none := hf1
  obtain ⟨d2, hd2⟩ : ∃ d, ({ d1 with ops := d1.ops + 1 } : DS).wr 1 b 4 = d := ⟨_, rfl⟩
  simp only [hd2] at hw2 hk2 hl2 hg2 hc2 hn2 ho2 hf2
  have hl2 : d2.pend.length = 8 := by omega
  have hp2 : d2.pend ≠ [] := fun h => by rw [h] at hl2; cases hl2
  have hw2 : ACall Try.prog 20 [.ptr 100 0 [], .int .i64 1, arrAV b] (diskG d1 100 101 102 103 105) (.int .i64 0) (diskG d2 100 101 102 103 106) := by
    rw [if_neg (show ¬ d2.pend = d1.pend from fun h => by rw [h] at hl2; omega)] at hw2
    exact hw2
  have e0 : gatherP d2.seen 0 = a := by rw [hg2 0, if_neg (by omega), hg1 0, if_pos rfl]
  have e1 : gatherP d2.seen 1 = b := by rw [hg2 1, if_pos rfl]
  -- the plan, the load
  have hfo : flOk (f : Int) := ⟨by omega, by omega⟩
  have hk3 := plan_ok hk2 (fs := [(f : Int)]) (fun g hg => by simp at hg; subst hg; exact hfo) 0
  have hlp := load_planned hc2.down (by omega) (f : Int)
  rw [e0, e1] at hlp
  have hls := loadP_same (d2.planP [(f : Int)] 0)
  have hld := load_at (a := 100) (b := 101) (s := 102) (q := 108) (m := 106) (x := 109) ⟨by decide⟩ (d2.planP [(f : Int)] 0) hk3 (by show (0 : Nat) + 1 < _; omega)
  rw [hlp] at hld
  have hp3 : (d2.planP [(f : Int)] 0).pend ≠ [] := hp2
  have hf3 : (d2.planP [(f : Int)] 0).fails ≠ none := fun h => by cases h
  obtain ⟨d3, hd3⟩ : ∃ d, d2.planP [(f : Int)] 0 = d := ⟨_, rfl⟩
  obtain ⟨d4, hd4⟩ : ∃ d, (d2.planP [(f : Int)] 0).loadP.2 = d := ⟨_, rfl⟩
  rw [hd4] at hls hld
  rw [hd3] at hld hls hp3 hf3
  have hua : ACall Try.prog 11 [arrAV a] [] (.tuple [((unpackM a).getD .zero).av, .bool (unpackM a).isSome]) [] := runpack_spec a ha
  have hub : ACall Try.prog 11 [arrAV b] [] (.tuple [((unpackM b).getD .zero).av, .bool (unpackM b).isSome]) [] := runpack_spec b hb
  have hz := zb_len 256
  have wf : IntKind.i64.wrap (f : Int) = (f : Int) := by rw [wrap_i64 (by omega) (by omega)]
  have y0 : ((0 : Int) != 0) = false := rfl
  have y3 : ((0 : Int) == 0) = true := rfl
  have y5 : ((1 : Int) == 1) = true := rfl
  have y6 : ((3 : Int) == 3) = true := rfl
  have y7 : ((2 : Int) == 2) = true := rfl
  have hcz := cellsEq_ms .zero .zero
  rw [Ms.eqb_iff.2 rfl] at hcz
  have hcz : cellsEq [AV.int .u64 (Ms.zero.seq : Nat), .int .u32 (Ms.zero.epoch : Nat), .int .u32 (Ms.zero.tail : Nat), .int .u64 (Ms.zero.lsn : Nat), .int .u32 (Ms.zero.last : Nat), .int .i64 Ms.zero.pages, .int .i64 Ms.zero.undo, .int .i64 Ms.zero.log, .int .u32 (Ms.zero.maxTs : Nat)] [AV.int .u64 0, .int .u32 0, .int .u32 0, .int .u64 0, .int .u32 0, .int .i64 0, .int .i64 0, .int .i64 0, .int .u32 0] = some true := hcz
  have hcs : ∀ m : Ms, cellsEq [AV.int .u64 m.seq, .int .u32 m.epoch, .int .u32 m.tail, .int .u64 m.lsn, .int .u32 m.last, .int .i64 m.pages, .int .i64 m.undo, .int .i64 m.log, .int .u32 m.maxTs] [AV.int .u64 m.seq, .int .u32 m.epoch, .int .u32 m.tail, .int .u64 m.lsn, .int .u32 m.last, .int .i64 m.pages, .int .i64 m.undo, .int .i64 m.log, .int .u32 m.maxTs] = some true := fun m => by
    rw [cellsEq_ms, Ms.eqb_iff.2 rfl]
  have ret : ∀ (t : Env) (H : Heap) (k : Nat), look t 6 = some (.bool true) → Final Try.prog Try.f6 (.bool true) [] .ret ⟨128, t, H, k⟩ := fun t H k h =>
    Final.one (.inr rfl) (r := .tmp 6) rfl ⟨h, fun vs h => by cases h⟩ (fun vs h => by cases h) (fun vs h => by cases h) (.same _ trivial)
  have aab : ∀ (b : List UInt8), ∀ x, x ∈ [arrAV b] → ∀ vs, x ≠ .tuple vs := fun b x hx => (on_arr1 x hx).2
  simp -dsimp -implicitDefEqProofs only [↓j0, ↓j1, ↓j7, ↓j12, ↓j15, j17, j18, j20, ↓j25, ↓j29, ↓j30, j32, ↓j39, ↓j42, ↓j53, ↓j145, ↓j146, AV.layable, argEnv, j170, j171, j172, reduceCtorEq, ↓reduceIte, Nat.reduceAdd, Nat.reduceEqDiff, j196]
  refine CallTo.gen (args := [.int .i64 ((3 : Nat) : Int)]) [] (diskG (DS.new 3) 100 101 102 103 104) 105 rfl fok17 (by simp -dsimp -implicitDefEqProofs only [↓j30, j33, j173, j174]; rfl) (fun x hx => (args_i x hx).2) (new_at 3 (by omega) (by omega)) (fun n b h => by simp [Heap.get] at h) ⟨by show 100 ≤ 105; omega, new_put⟩ ?_
  simp -dsimp -implicitDefEqProofs only [↓j0, ↓j1, ↓j2, ↓j7, ↓j12, ↓j15, j17, j18, j20, ↓j25, ↓j27, ↓j29, ↓j30, j35, ↓j38, ↓j39, ↓j43, ↓j48, ↓j53, ↓j76, j129, ↓j145, ↓j146, ↓j148, ↓j151, ↓j153, AV.proj, AV.offOf, j163, j164, j171, j174, j175, ↓reduceIte, Nat.reduceEqDiff, j182, j188, j189, j211, ↓j235, j240, j309, j310, j319, ha, get_dg]
  refine CallTo.disk 106 (args := [.int .i64 0, arrAV a]) rfl fok20 (by simp -dsimp -implicitDefEqProofs only [↓j25, ↓j29, ↓j30, j33, j173, j174, ↓reduceIte, Nat.reduceEqDiff]) (fun y hy => (args_pbx y hy).2) hw1 subX (by omega) (.inl rfl) (.inl hf1) (.inr (.inr (by omega))) ?_
  simp -dsimp -implicitDefEqProofs only [↓j1, ↓j2, j17, j18, j20, ↓j25, ↓j27, ↓j29, ↓j30, j32, j33, ↓j38, ↓j40, ↓j43, ↓j48, ↓j53, ↓j76, j83, ↓j89, j129, ↓j145, ↓j146, ↓j148, ↓j151, ↓j153, j158, AV.proj, AV.offOf, j163, j164, j171, j175, ↓reduceIte, Nat.reduceEqDiff, j182, j185, j188, j189, j195, j240, j309, j310, hb, y0, dels_cons_dg, dels_dgX, dels_empty, get_dg]
  refine CallTo.disk 107 (args := [.int .i64 1, arrAV b]) rfl fok20 (by simp -dsimp -implicitDefEqProofs only [↓j25, ↓j29, ↓j30, j33, j173, j174, ↓reduceIte, Nat.reduceEqDiff]) (fun y hy => (args_pbx y hy).2) hw2 subX (by omega) (.inl rfl) (.inl hf2) (.inr (.inr (by omega))) ?_
  simp -dsimp -implicitDefEqProofs only [↓j0, ↓j1, ↓j2, ↓j7, ↓j9, ↓j12, ↓j13, ↓j15, j17, j18, j20, ↓j25, ↓j29, ↓j30, j32, j33, ↓j38, ↓j40, ↓j48, ↓j50, ↓j53, ↓j74, j83, ↓j89, j125, j126, j127, j128, ↓j145, ↓j146, ↓j148, ↓j149, ↓j151, j158, partsAV, AV.size, AV.sizeL, AV.layable, j163, j164, j167, j169, j170, j171, j175, j179, j180, reduceCtorEq, ↓reduceIte, Nat.reduceAdd, Nat.reduceMul, Nat.reduceEqDiff, Nat.reduceLeDiff, j182, j183, j185, j188, j189, j195, j213, j214, j215, j217, ↓j225, Nat.reducePow, List.replicate, j234, j251, j435, j459, y0, wf, dels_cons_dg, dels_dgX, dels_empty]
  refine plan_two hk2 hfo hf2 rfl (by simp -dsimp -implicitDefEqProofs only [↓j25, ↓j29, ↓j30, j33, j173, j174, ↓reduceIte, Nat.reduceEqDiff]) ?_
  rw [hd3]
  simp -dsimp -implicitDefEqProofs only [↓j0, ↓j1, ↓j7, ↓j12, ↓j15, j17, j18, j20, j21, j22, j23, ↓j25, ↓j29, ↓j38, ↓j53, ↓j145, j171, ↓reduceIte, Nat.reduceEqDiff, j182, j188, j189, dels_cons_dg, dels_dgX, dels_empty, del_dg]
  by_cases h12 : (f : Int) = 1 ∨ (f : Int) = 2
  · rw [if_pos h12] at hld
    have hld : ACall Try.prog 16 [.ptr 100 0 []] (diskG d3 100 101 102 108 106) (.tuple [Ms.zero.av, .int .i64 0, .int .i64 3]) (diskG d4 100 101 102 108 106) := hld
    have two : (((f : Int) == 1) = true ∧ ((f : Int) == 1) = true) ∨ (((f : Int) == 1) = false ∧ ((f : Int) == 2) = true) := by
      rcases h12 with h | h
      · have : ((f : Int) == 1) = true := by rw [h]; rfl
        exact .inl ⟨this, this⟩
      · exact .inr ⟨by rw [h]; rfl, by rw [h]; rfl⟩
    refine CallTo.disk1 (args := []) rfl fok16 (by simp -dsimp -implicitDefEqProofs only [↓j25, ↓j29, j173, j174, ↓reduceIte]) (fun y hy => by simp at hy) hld subX (by rw [hls.1]; exact fun h => h) (by rw [hls.2]; exact fun h => h) ?_
    rcases two with ⟨t1, t2⟩ | ⟨t1, t2⟩
    all_goals
      simp -dsimp -implicitDefEqProofs only [↓j0, ↓j1, ↓j2, ↓j7, ↓j12, ↓j13, ↓j15, j17, j18, j19, j20, j21, j22, j23, ↓j25, ↓j27, ↓j29, ↓j30, j32, j33, ↓j38, ↓j39, ↓j40, ↓j41, ↓j43, ↓j44, ↓j48, ↓j53, ↓j54, ↓j57, ↓j76, ↓j78, j81, j83, j85, ↓j89, ↓j91, ↓j124, j125, j127, j129, ↓j145, ↓j146, ↓j147, ↓j148, ↓j149, ↓j150, ↓j151, ↓j153, j157, partsAV, AV.proj, AV.offOf, AV.upd, AV.size, AV.sizeL, AV.layable, AV.flat, AV.flatL, j163, j164, j170, j171, j172, j173, j174, j175, reduceCtorEq, ↓reduceIte, Nat.reduceAdd, Nat.reduceEqDiff, j182, j185, j188, j189, j195, j197, j211, kindOf, j214, j218, j219, j282, j283, j302, j303, j412, j432, t1, t2, y3, y6, hcz, dels_cons_dg, dels_dgX, dels_empty, del_dg]
      refine CallTo.pure (args := []) rfl fok15 rfl nil0 awake_spec ?_
      simp -dsimp -implicitDefEqProofs only [↓j0, ↓j1, ↓j10, j17, j18, j20, ↓j25, ↓j29, ↓j30, j32, ↓j39, ↓j40, j83, ↓j145, j171, ↓reduceIte, Nat.reduceEqDiff]
      exact ret _ _ _ rfl
  have t1 : ((f : Int) == 1) = false := by rw [beq_eq_false_iff_ne]; exact fun h => h12 (.inl h)
  have t2 : ((f : Int) == 2) = false := by rw [beq_eq_false_iff_ne]; exact fun h => h12 (.inr h)
  rw [if_neg h12] at hld
  cases hA : unpackM a with
  | none =>
    rw [hA] at hua hld
    cases hB : unpackM b with
    | none =>
      rw [hB] at hub hld
      have hld : ACall Try.prog 16 [.ptr 100 0 []] (diskG d3 100 101 102 108 106) (.tuple [Ms.zero.av, .int .i64 0, .int .i64 2]) (diskG d4 100 101 102 108 106) := hld
      have hua : ACall Try.prog 11 [arrAV a] [] (.tuple [Ms.zero.av, .bool false]) [] := hua
      have hub : ACall Try.prog 11 [arrAV b] [] (.tuple [Ms.zero.av, .bool false]) [] := hub
      refine CallTo.disk1 (args := []) rfl fok16 (by simp -dsimp -implicitDefEqProofs only [↓j25, ↓j29, j173, j174, ↓reduceIte]) (fun y hy => by simp at hy) hld subX (by rw [hls.1]; exact fun h => h) (by rw [hls.2]; exact fun h => h) ?_
      simp -dsimp -implicitDefEqProofs only [↓j0, ↓j1, ↓j2, ↓j7, ↓j9, ↓j12, ↓j13, ↓j15, j17, j18, j19, j20, j21, j22, j23, ↓j25, ↓j27, ↓j29, ↓j30, j32, j33, ↓j38, ↓j39, ↓j40, ↓j41, ↓j43, ↓j44, ↓j48, ↓j53, ↓j57, ↓j76, ↓j78, j83, j85, ↓j89, j129, ↓j145, ↓j146, ↓j148, ↓j149, ↓j151, ↓j153, j157, AV.proj, AV.offOf, AV.upd, AV.size, AV.sizeL, AV.layable, j163, j164, j170, j171, j175, reduceCtorEq, ↓reduceIte, Nat.reduceAdd, Nat.reduceEqDiff, j182, j185, j188, j189, j195, j197, j240, j282, j309, j310, j412, ha, t1, t2, dels_cons_dg, dels_dgX, dels_empty, get_dg, del_dg]
      refine CallTo.pure (args := [arrAV a]) rfl fok11 (by simp -dsimp -implicitDefEqProofs only [↓j25, ↓j29, j173, j174, ↓reduceIte]) (aab a) hua ?_
      simp -dsimp -implicitDefEqProofs only [↓j0, ↓j1, ↓j7, ↓j12, ↓j15, j17, j18, j19, j20, j21, j22, j23, ↓j25, ↓j27, ↓j29, ↓j38, ↓j39, ↓j41, ↓j43, ↓j44, ↓j53, ↓j57, ↓j76, ↓j78, j85, j129, ↓j145, ↓j146, ↓j153, AV.proj, AV.offOf, AV.upd, AV.size, AV.sizeL, AV.layable, j163, j164, j170, j171, ↓reduceIte, Nat.reduceAdd, Nat.reduceEqDiff, j182, j188, j189, j197, j240, j282, j309, j310, j412, hb, get_dg, del_dg]
      refine CallTo.pure (args := [arrAV b]) rfl fok11 (by simp -dsimp -implicitDefEqProofs only [↓j25, ↓j29, j173, j174, ↓reduceIte]) (aab b) hub ?_
      simp -dsimp -implicitDefEqProofs only [↓j0, ↓j1, ↓j2, ↓j7, ↓j9, ↓j12, ↓j13, ↓j14, ↓j15, j17, j18, j19, j20, j21, j22, j23, ↓j25, ↓j27, ↓j29, ↓j30, j32, j33, ↓j38, ↓j39, ↓j40, ↓j41, ↓j43, ↓j44, ↓j48, ↓j53, ↓j54, ↓j57, ↓j76, ↓j78, j82, j83, j85, ↓j89, ↓j91, ↓j124, j125, j127, j129, ↓j145, ↓j146, ↓j147, ↓j148, ↓j149, ↓j150, ↓j152, ↓j153, j157, partsAV, AV.proj, AV.offOf, AV.upd, AV.size, AV.sizeL, AV.layable, AV.flat, AV.flatL, j163, j164, j170, j171, j172, j173, j174, j175, ↓reduceIte, Nat.reduceAdd, Nat.reduceEqDiff, j182, j185, j188, j189, j195, j197, j211, kindOf, j214, j218, j219, j282, j283, j302, j303, j412, j432, y3, y7, hcz, del_dg]
      refine CallTo.pure (args := []) rfl fok15 rfl nil0 awake_spec ?_
      simp -dsimp -implicitDefEqProofs only [↓j0, ↓j1, ↓j10, j17, j18, j20, ↓j25, ↓j29, ↓j30, j32, ↓j39, ↓j40, j83, ↓j145, j171, ↓reduceIte, Nat.reduceEqDiff]
      exact ret _ _ _ rfl
    | some B =>
      rw [hB] at hub hld
      have hld : ACall Try.prog 16 [.ptr 100 0 []] (diskG d3 100 101 102 108 106) (.tuple [B.av, .int .i64 1, .int .i64 0]) (diskG d4 100 101 102 108 106) := hld
      have hua : ACall Try.prog 11 [arrAV a] [] (.tuple [Ms.zero.av, .bool false]) [] := hua
      have hub : ACall Try.prog 11 [arrAV b] [] (.tuple [B.av, .bool true]) [] := hub
      have hcB := hcs B
      refine CallTo.disk1 (args := []) rfl fok16 (by simp -dsimp -implicitDefEqProofs only [↓j25, ↓j29, j173, j174, ↓reduceIte]) (fun y hy => by simp at hy) hld subX (by rw [hls.1]; exact fun h => h) (by rw [hls.2]; exact fun h => h) ?_
      simp -dsimp -implicitDefEqProofs only [↓j0, ↓j1, ↓j2, ↓j7, ↓j9, ↓j12, ↓j13, ↓j15, j17, j18, j19, j20, j21, j22, j23, ↓j25, ↓j27, ↓j29, ↓j30, j32, j33, ↓j38, ↓j39, ↓j40, ↓j41, ↓j43, ↓j44, ↓j48, ↓j53, ↓j57, ↓j76, ↓j78, j83, j85, ↓j89, j129, ↓j145, ↓j146, ↓j148, ↓j149, ↓j151, ↓j153, j157, AV.proj, AV.offOf, AV.upd, AV.size, AV.sizeL, AV.layable, j163, j164, j170, j171, j175, reduceCtorEq, ↓reduceIte, Nat.reduceAdd, Nat.reduceEqDiff, j182, j185, j188, j189, j195, j197, j240, j282, j309, j310, j412, ha, t1, t2, dels_cons_dg, dels_dgX, dels_empty, get_dg, del_dg]
      refine CallTo.pure (args := [arrAV a]) rfl fok11 (by simp -dsimp -implicitDefEqProofs only [↓j25, ↓j29, j173, j174, ↓reduceIte]) (aab a) hua ?_
      simp -dsimp -implicitDefEqProofs only [↓j0, ↓j1, ↓j7, ↓j12, ↓j15, j17, j18, j19, j20, j21, j22, j23, ↓j25, ↓j27, ↓j29, ↓j38, ↓j39, ↓j41, ↓j43, ↓j44, ↓j53, ↓j57, ↓j76, ↓j78, j85, j129, ↓j145, ↓j146, ↓j153, AV.proj, AV.offOf, AV.upd, AV.size, AV.sizeL, AV.layable, j163, j164, j170, j171, ↓reduceIte, Nat.reduceAdd, Nat.reduceEqDiff, j182, j188, j189, j197, j240, j282, j309, j310, j412, hb, get_dg, del_dg]
      refine CallTo.pure (args := [arrAV b]) rfl fok11 (by simp -dsimp -implicitDefEqProofs only [↓j25, ↓j29, j173, j174, ↓reduceIte]) (aab b) hub ?_
      simp -dsimp -implicitDefEqProofs only [↓j0, ↓j1, ↓j2, ↓j7, ↓j12, ↓j13, ↓j14, ↓j15, j17, j18, j19, j20, j21, j22, j23, ↓j25, ↓j27, ↓j29, ↓j30, j32, j33, ↓j38, ↓j39, ↓j40, ↓j41, ↓j43, ↓j44, ↓j48, ↓j53, ↓j57, ↓j76, ↓j78, j82, j83, j85, ↓j89, ↓j91, j129, ↓j145, ↓j146, ↓j147, ↓j148, ↓j149, ↓j150, ↓j152, ↓j153, j157, AV.proj, AV.offOf, AV.upd, AV.size, AV.sizeL, AV.layable, AV.flat, AV.flatL, j163, j164, j170, j171, j172, j173, j174, j175, ↓reduceIte, Nat.reduceAdd, Nat.reduceEqDiff, j182, j185, j188, j189, j195, j197, j211, kindOf, j282, j283, j302, j303, j412, y3, y5, hcB, del_dg]
      refine CallTo.pure (args := []) rfl fok15 rfl nil0 awake_spec ?_
      simp -dsimp -implicitDefEqProofs only [↓j0, ↓j1, ↓j10, j17, j18, j20, ↓j25, ↓j29, ↓j30, j32, ↓j39, ↓j40, j83, ↓j145, j171, ↓reduceIte, Nat.reduceEqDiff]
      exact ret _ _ _ rfl
  | some A =>
    rw [hA] at hua hld
    have hcA := hcs A
    cases hB : unpackM b with
    | none =>
      rw [hB] at hub hld
      have hld : ACall Try.prog 16 [.ptr 100 0 []] (diskG d3 100 101 102 108 106) (.tuple [A.av, .int .i64 0, .int .i64 0]) (diskG d4 100 101 102 108 106) := hld
      have hua : ACall Try.prog 11 [arrAV a] [] (.tuple [A.av, .bool true]) [] := hua
      have hub : ACall Try.prog 11 [arrAV b] [] (.tuple [Ms.zero.av, .bool false]) [] := hub
      refine CallTo.disk1 (args := []) rfl fok16 (by simp -dsimp -implicitDefEqProofs only [↓j25, ↓j29, j173, j174, ↓reduceIte]) (fun y hy => by simp at hy) hld subX (by rw [hls.1]; exact fun h => h) (by rw [hls.2]; exact fun h => h) ?_
      simp -dsimp -implicitDefEqProofs only [↓j0, ↓j1, ↓j2, ↓j7, ↓j9, ↓j12, ↓j13, ↓j15, j17, j18, j19, j20, j21, j22, j23, ↓j25, ↓j27, ↓j29, ↓j30, j32, j33, ↓j38, ↓j39, ↓j40, ↓j41, ↓j43, ↓j44, ↓j48, ↓j53, ↓j57, ↓j76, ↓j78, j83, j85, ↓j89, j129, ↓j145, ↓j146, ↓j148, ↓j149, ↓j151, ↓j153, j157, AV.proj, AV.offOf, AV.upd, AV.size, AV.sizeL, AV.layable, j163, j164, j170, j171, j175, reduceCtorEq, ↓reduceIte, Nat.reduceAdd, Nat.reduceEqDiff, j182, j185, j188, j189, j195, j197, j240, j282, j309, j310, j412, ha, t1, t2, dels_cons_dg, dels_dgX, dels_empty, get_dg, del_dg]
      refine CallTo.pure (args := [arrAV a]) rfl fok11 (by simp -dsimp -implicitDefEqProofs only [↓j25, ↓j29, j173, j174, ↓reduceIte]) (aab a) hua ?_
      simp -dsimp -implicitDefEqProofs only [↓j0, ↓j1, ↓j7, ↓j12, ↓j15, j17, j18, j19, j20, j21, j22, j23, ↓j25, ↓j27, ↓j29, ↓j38, ↓j39, ↓j41, ↓j43, ↓j44, ↓j53, ↓j57, ↓j76, ↓j78, j85, j129, ↓j145, ↓j146, ↓j153, AV.proj, AV.offOf, AV.upd, AV.size, AV.sizeL, AV.layable, j163, j164, j170, j171, ↓reduceIte, Nat.reduceAdd, Nat.reduceEqDiff, j182, j188, j189, j197, j240, j282, j309, j310, j412, hb, get_dg, del_dg]
      refine CallTo.pure (args := [arrAV b]) rfl fok11 (by simp -dsimp -implicitDefEqProofs only [↓j25, ↓j29, j173, j174, ↓reduceIte]) (aab b) hub ?_
      simp -dsimp -implicitDefEqProofs only [↓j0, ↓j1, ↓j2, ↓j7, ↓j12, ↓j13, ↓j14, ↓j15, j17, j18, j19, j20, j21, j22, j23, ↓j25, ↓j27, ↓j29, ↓j30, j32, j33, ↓j38, ↓j39, ↓j40, ↓j41, ↓j43, ↓j44, ↓j48, ↓j53, ↓j55, ↓j57, ↓j76, ↓j78, j81, j83, j84, j85, ↓j89, ↓j91, j129, ↓j145, ↓j146, ↓j147, ↓j149, ↓j150, ↓j151, ↓j153, j157, AV.proj, AV.offOf, AV.upd, AV.size, AV.sizeL, AV.layable, AV.flat, AV.flatL, j163, j164, j170, j171, j172, j173, j174, j175, ↓reduceIte, Nat.reduceAdd, Nat.reduceEqDiff, j182, j185, j188, j189, j194, j195, j197, j211, kindOf, j282, j283, j302, j303, j412, y3, hcA, del_dg]
      refine CallTo.pure (args := []) rfl fok15 rfl nil0 awake_spec ?_
      simp -dsimp -implicitDefEqProofs only [↓j0, ↓j1, ↓j10, j17, j18, j20, ↓j25, ↓j29, ↓j30, j32, ↓j39, ↓j40, j83, ↓j145, j171, ↓reduceIte, Nat.reduceEqDiff]
      exact ret _ _ _ rfl
    | some B =>
      rw [hB] at hub hld
      have hcB := hcs B
      have hua : ACall Try.prog 11 [arrAV a] [] (.tuple [A.av, .bool true]) [] := hua
      have hub : ACall Try.prog 11 [arrAV b] [] (.tuple [B.av, .bool true]) [] := hub
      by_cases hlt : A.seq < B.seq
      · have q1 : decide ((B.seq : Int) ≤ (A.seq : Int)) = false := decide_eq_false (by omega)
        have hpk : pickM (some A) (some B) = (B, 1, 0) := if_pos hlt
        rw [hpk] at hld
        have hld : ACall Try.prog 16 [.ptr 100 0 []] (diskG d3 100 101 102 108 106) (.tuple [B.av, .int .i64 1, .int .i64 0]) (diskG d4 100 101 102 108 106) := hld
        refine CallTo.disk1 (args := []) rfl fok16 (by simp -dsimp -implicitDefEqProofs only [↓j25, ↓j29, j173, j174, ↓reduceIte]) (fun y hy => by simp at hy) hld subX (by rw [hls.1]; exact fun h => h) (by rw [hls.2]; exact fun h => h) ?_
        simp -dsimp -implicitDefEqProofs only [↓j0, ↓j1, ↓j2, ↓j7, ↓j9, ↓j12, ↓j13, ↓j15, j17, j18, j19, j20, j21, j22, j23, ↓j25, ↓j27, ↓j29, ↓j30, j32, j33, ↓j38, ↓j39, ↓j40, ↓j41, ↓j43, ↓j44, ↓j48, ↓j53, ↓j57, ↓j76, ↓j78, j83, j85, ↓j89, j129, ↓j145, ↓j146, ↓j148, ↓j149, ↓j151, ↓j153, j157, AV.proj, AV.offOf, AV.upd, AV.size, AV.sizeL, AV.layable, j163, j164, j170, j171, j175, reduceCtorEq, ↓reduceIte, Nat.reduceAdd, Nat.reduceEqDiff, j182, j185, j188, j189, j195, j197, j240, j282, j309, j310, j412, ha, t1, t2, dels_cons_dg, dels_dgX, dels_empty, get_dg, del_dg]
        refine CallTo.pure (args := [arrAV a]) rfl fok11 (by simp -dsimp -implicitDefEqProofs only [↓j25, ↓j29, j173, j174, ↓reduceIte]) (aab a) hua ?_
        simp -dsimp -implicitDefEqProofs only [↓j0, ↓j1, ↓j7, ↓j12, ↓j15, j17, j18, j19, j20, j21, j22, j23, ↓j25, ↓j27, ↓j29, ↓j38, ↓j39, ↓j41, ↓j43, ↓j44, ↓j53, ↓j57, ↓j76, ↓j78, j85, j129, ↓j145, ↓j146, ↓j153, AV.proj, AV.offOf, AV.upd, AV.size, AV.sizeL, AV.layable, j163, j164, j170, j171, ↓reduceIte, Nat.reduceAdd, Nat.reduceEqDiff, j182, j188, j189, j197, j240, j282, j309, j310, j412, hb, get_dg, del_dg]
        refine CallTo.pure (args := [arrAV b]) rfl fok11 (by simp -dsimp -implicitDefEqProofs only [↓j25, ↓j29, j173, j174, ↓reduceIte]) (aab b) hub ?_
        simp -dsimp -implicitDefEqProofs only [↓j0, ↓j1, ↓j2, ↓j7, ↓j12, ↓j13, ↓j14, ↓j15, j17, j18, j19, j20, j21, j22, j23, ↓j25, ↓j27, ↓j29, ↓j30, j32, j33, ↓j38, ↓j39, ↓j40, ↓j41, ↓j43, ↓j44, ↓j45, ↓j48, ↓j53, ↓j55, ↓j57, ↓j76, ↓j78, ↓j79, j83, j84, j85, ↓j89, ↓j91, j129, j130, ↓j145, ↓j146, ↓j147, ↓j148, ↓j149, ↓j150, ↓j151, ↓j153, j157, j162, AV.proj, AV.offOf, AV.upd, AV.size, AV.sizeL, AV.layable, AV.flat, AV.flatL, j163, j164, j167, j170, j171, j172, j173, j174, j175, ↓reduceIte, Nat.reduceAdd, Nat.reduceEqDiff, j182, j185, j188, j189, j193, j195, j197, j211, kindOf, j261, j282, j283, j285, j302, j303, j412, q1, y3, y5, hcB, del_dg]
        refine CallTo.pure (args := []) rfl fok15 rfl nil0 awake_spec ?_
        simp -dsimp -implicitDefEqProofs only [↓j0, ↓j1, ↓j10, j17, j18, j20, ↓j25, ↓j29, ↓j30, j32, ↓j39, ↓j40, j83, ↓j145, j171, ↓reduceIte, Nat.reduceEqDiff]
        exact ret _ _ _ rfl
      · have q1 : decide ((B.seq : Int) ≤ (A.seq : Int)) = true := decide_eq_true (by omega)
        have hpk : pickM (some A) (some B) = (A, 0, 0) := if_neg hlt
        rw [hpk] at hld
        have hld : ACall Try.prog 16 [.ptr 100 0 []] (diskG d3 100 101 102 108 106) (.tuple [A.av, .int .i64 0, .int .i64 0]) (diskG d4 100 101 102 108 106) := hld
        refine CallTo.disk1 (args := []) rfl fok16 (by simp -dsimp -implicitDefEqProofs only [↓j25, ↓j29, j173, j174, ↓reduceIte]) (fun y hy => by simp at hy) hld subX (by rw [hls.1]; exact fun h => h) (by rw [hls.2]; exact fun h => h) ?_
        simp -dsimp -implicitDefEqProofs only [↓j0, ↓j1, ↓j2, ↓j7, ↓j9, ↓j12, ↓j13, ↓j15, j17, j18, j19, j20, j21, j22, j23, ↓j25, ↓j27, ↓j29, ↓j30, j32, j33, ↓j38, ↓j39, ↓j40, ↓j41, ↓j43, ↓j44, ↓j48, ↓j53, ↓j57, ↓j76, ↓j78, j83, j85, ↓j89, j129, ↓j145, ↓j146, ↓j148, ↓j149, ↓j151, ↓j153, j157, AV.proj, AV.offOf, AV.upd, AV.size, AV.sizeL, AV.layable, j163, j164, j170, j171, j175, reduceCtorEq, ↓reduceIte, Nat.reduceAdd, Nat.reduceEqDiff, j182, j185, j188, j189, j195, j197, j240, j282, j309, j310, j412, ha, t1, t2, dels_cons_dg, dels_dgX, dels_empty, get_dg, del_dg]
        refine CallTo.pure (args := [arrAV a]) rfl fok11 (by simp -dsimp -implicitDefEqProofs only [↓j25, ↓j29, j173, j174, ↓reduceIte]) (aab a) hua ?_
        simp -dsimp -implicitDefEqProofs only [↓j0, ↓j1, ↓j7, ↓j12, ↓j15, j17, j18, j19, j20, j21, j22, j23, ↓j25, ↓j27, ↓j29, ↓j38, ↓j39, ↓j41, ↓j43, ↓j44, ↓j53, ↓j57, ↓j76, ↓j78, j85, j129, ↓j145, ↓j146, ↓j153, AV.proj, AV.offOf, AV.upd, AV.size, AV.sizeL, AV.layable, j163, j164, j170, j171, ↓reduceIte, Nat.reduceAdd, Nat.reduceEqDiff, j182, j188, j189, j197, j240, j282, j309, j310, j412, hb, get_dg, del_dg]
        refine CallTo.pure (args := [arrAV b]) rfl fok11 (by simp -dsimp -implicitDefEqProofs only [↓j25, ↓j29, j173, j174, ↓reduceIte]) (aab b) hub ?_
        simp -dsimp -implicitDefEqProofs only [↓j0, ↓j1, ↓j2, ↓j7, ↓j12, ↓j13, ↓j14, ↓j15, j17, j18, j19, j20, j21, j22, j23, ↓j25, ↓j27, ↓j29, ↓j30, j32, j33, ↓j38, ↓j39, ↓j40, ↓j41, ↓j43, ↓j44, ↓j45, ↓j48, ↓j53, ↓j55, ↓j57, ↓j76, ↓j78, ↓j79, j83, j84, j85, ↓j89, ↓j91, j129, j130, ↓j145, ↓j146, ↓j147, ↓j148, ↓j149, ↓j150, ↓j151, ↓j153, j157, j162, AV.proj, AV.offOf, AV.upd, AV.size, AV.sizeL, AV.layable, AV.flat, AV.flatL, j163, j164, j167, j170, j171, j172, j173, j174, j175, ↓reduceIte, Nat.reduceAdd, Nat.reduceEqDiff, j182, j185, j188, j189, j193, j195, j197, j211, kindOf, j261, j282, j283, j285, j302, j303, j412, q1, y3, hcA, del_dg]
        refine CallTo.pure (args := []) rfl fok15 rfl nil0 awake_spec ?_
        simp -dsimp -implicitDefEqProofs only [↓j0, ↓j1, ↓j10, j17, j18, j20, ↓j25, ↓j29, ↓j30, j32, ↓j39, ↓j40, j83, ↓j145, j171, ↓reduceIte, Nat.reduceEqDiff]
        exact ret _ _ _ rfl
end Go.Proofs.Ythfaldoagmkllaa
