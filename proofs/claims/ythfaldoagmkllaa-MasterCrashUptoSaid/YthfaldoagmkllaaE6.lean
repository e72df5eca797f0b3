/- Masters are stored and loaded. -/
import Derived.Test.YthfaldoagmkllaaE5
import Derived.Test.YthfaldoagmkllaaD12
set_option linter.unusedVariables false
set_option linter.unusedSimpArgs false
namespace Go.Proofs.Ythfaldoagmkllaa
open Go Go.RowKit

theorem diskG_nil {d : DS} {a b s q m m' : Nat} (h : d.pend = []) : diskG d a b s q m = diskG d a b s q m' := by
  unfold diskG
  rw [h]
  rfl
def DS.storeP (d : DS) (slot : Int) (m : Ms) : Nat × DS :=
  if mayM m = true ∧ 0 ≤ slot ∧ slot ≤ 1 then
    (if (d.writeP slot (packM m)).1 ≠ 0 then d.writeP slot (packM m) else (d.writeP slot (packM m)).2.syncP)
  else (1, d)
theorem args_sm {slot : Int} {m : Ms} : ∀ x, x ∈ [AV.int .i64 slot, m.av] → AV.on (fun _ => False) x ∧ ∀ vs, x ≠ .tuple vs := fun x hx => by
  simp only [List.mem_cons, List.not_mem_nil, or_false] at hx
  rcases hx with rfl | rfl
  · exact ⟨trivial, fun vs h => by cases h⟩
  · exact ⟨on_ms _ _, fun vs h => by cases h⟩
theorem opP_n (d : DS) : d.opP.2.ops = d.ops + 1 := (opP_same d).2.2.2.2.2.2
theorem writeP_ops (d : DS) (b : Int) (x : List UInt8) : (d.writeP b x).2.ops ≤ d.ops + 1 := by
  have h := opP_n d
  unfold DS.writeP
  split
  · show d.ops ≤ _; omega
  · split
    · show d.ops ≤ _; omega
    · split
      · show d.opP.2.ops ≤ _; omega
      · show d.opP.2.ops ≤ _; omega
theorem writeP_ok {d : DS} (hd : d.Ok) (ho : d.ops < 1000000) {b : Int} {x : List UInt8} (hx : x.length = 256) (hp : d.pend.length + 4 ≤ 1000000) : (d.writeP b x).2.Ok := by
  have h := opP_same d
  unfold DS.writeP
  split
  · exact hd
  · split
    · exact hd
    · rename_i hb
      split
      · exact opP_ok hd ho
      · exact wr_ok (opP_ok hd ho) (by rw [h.1]; omega) hx 4 (by omega) (by rw [h.2.2.2.1]; omega)
theorem writeP_pend {d : DS} {b : Int} {x : List UInt8} : (d.writeP b x).2.pend = d.pend ∨ ((d.writeP b x).1 = 0 ∧ (d.writeP b x).2.pend.length = d.pend.length + 4) := by
  have h := opP_same d
  unfold DS.writeP
  split
  · exact .inl rfl
  · split
    · exact .inl rfl
    · split
      · exact .inl h.2.2.2.1
      · refine .inr ⟨rfl, ?_⟩
        show (wrPN d.opP.2.pend b.toNat x 4).length = _
        rw [wrPN_len, h.2.2.2.1]
theorem writeP_zero {d : DS} {b : Int} {x : List UInt8} (h0 : (d.writeP b x).1 = 0) : (d.writeP b x).2.pend.length = d.pend.length + 4 := by
  have h := opP_same d
  revert h0
  unfold DS.writeP
  split
  · exact fun h => by cases h
  · split
    · exact fun h => by cases h
    · split
      · rename_i h1; exact fun h => absurd h h1
      · intro _
        show (wrPN d.opP.2.pend b.toNat x 4).length = _
        rw [wrPN_len, h.2.2.2.1]
theorem syncP_pend2 (d : DS) : d.syncP.2.pend = d.pend ∨ d.syncP.2.pend = [] := by
  have h2 := opP_same d
  unfold DS.syncP
  split
  · exact .inl rfl
  · split
    · exact .inl h2.2.2.2.1
    · exact .inr rfl
theorem store_spec (d : DS) (hd : d.Ok) (ho : d.ops + 1 < 1000000) (hp : d.pend.length + 4 ≤ 1000000) (slot : Int) (m : Ms) (hm : m.Ok) :
    ACall Try.prog 18 [.ptr 0 0 [], .int .i64 slot, m.av] (diskH0 d) (.int .i64 ((d.storeP slot m).1 : Nat)) (diskH (d.storeP slot m).2 2 3 (if (d.storeP slot m).2.pend = d.pend then 4 else 12)) := by
  obtain ⟨P, hP⟩ : ∃ P, d.storeP slot m = P := ⟨_, rfl⟩
  rw [hP]
  obtain ⟨c, e⟩ := P
  refine ACall.runH (Z := Z) (N := 34) mixed hZ Try.func18 rfl rfl (by kernel_rfl) (by simp) (disk_args args_sm) (disk_on fun _ h => h) 10 (fun n h => by have := disk_lt n h; omega) ?_
  have fin : ∀ (c' : Nat) (e' : DS) (mm : Nat) (t : Env) (H : Heap) (k : Nat), (c', e') = d.storeP slot m → Nm 2 3 mm → (mm = (if e'.pend = d.pend then 4 else 12) ∨ e'.pend = []) → look t 6 = some (.int .i64 (c' : Nat)) → (∀ n b, Heap.get (diskG e' 0 1 2 3 mm) n = some b → Heap.get H n = some b) →
      Final Try.prog Try.f18 (.int .i64 (c : Nat)) (diskH e 2 3 (if e.pend = d.pend then 4 else 12)) .ret ⟨34, t, H, k⟩ := by
    intro c' e' mm t H k hx hn hmm h6 hH
    rw [hP] at hx
    cases hx
    have hmm2 : diskG e 0 1 2 3 mm = diskG e 0 1 2 3 (if e.pend = d.pend then 4 else 12) := by
      rcases hmm with rfl | h
      · rfl
      · exact diskG_nil h
    rw [hmm2] at hH
    have hn2 : Nm 2 3 (if e.pend = d.pend then 4 else 12) := by
      split <;> exact ⟨by omega, by omega, by omega, by omega, by omega, by omega⟩
    exact Final.oneH (.inr rfl) (r := .tmp 6) rfl ⟨h6, fun vs h => by cases h⟩ (fun vs h => by cases h) (fun vs h => by cases h) (.same _ trivial)
      (disk_keep (hH _ _ rfl) (hH _ _ rfl) (hH _ _ (get_seen hn2)) (fun f hf => hH _ _ (get_fail hn2 hf)) (fun hp => hH _ _ (get_pend hn2 hp)))
  have hz := zb_len 256
  have hdg : ∀ (e : DS) (s' q' m' : Nat) (c : ABlk) (X : Heap), Nm s' q' m' → s' ≠ 11 ∧ q' ≠ 11 ∧ m' ≠ 11 → ∀ n b, Heap.get (diskG e 0 1 s' q' m') n = some b → Heap.get ((11, c) :: (diskG e 0 1 s' q' m' ++ X)) n = some b := fun e s' q' m' c X _ h11 => subC ⟨by omega, by omega, Ne.symm h11.1, Ne.symm h11.2.1, Ne.symm h11.2.2⟩ subX
  have hps := pack_spec m hm
  have hql := packM_len m
  have hw := write_at (six0 12 (by omega)) d hd (by omega) hp slot (packM m) hql
  have hwf := writeP_fails d slot (packM m)
  have hwo := writeP_ops d slot (packM m)
  have hwk := writeP_ok hd (by omega) (b := slot) hql hp
  have hwp := writeP_pend (d := d) (b := slot) (x := packM m)
  have hwz := writeP_zero (d := d) (b := slot) (x := packM m)
  have y1 : ((1 : Int) != 0) = true := rfl
  have y0 : ((0 : Int) != 0) = false := rfl
  have hSP : d.storeP slot m = if mayM m = true ∧ 0 ≤ slot ∧ slot ≤ 1 then (if (d.writeP slot (packM m)).1 ≠ 0 then d.writeP slot (packM m) else (d.writeP slot (packM m)).2.syncP) else (1, d) := rfl
  obtain ⟨p, hpk⟩ : ∃ p, packM m = p := ⟨_, rfl⟩
  rw [hpk] at hps hql hw hwf hwo hwk hwp hwz hSP
  obtain ⟨r, hr0⟩ : ∃ r, d.writeP slot p = r := ⟨_, rfl⟩
  rw [hr0] at hw hwf hwo hwk hwp hwz hSP
  obtain ⟨wc, we⟩ := r
  rw [show diskH0 d = diskG d 0 1 2 3 4 from rfl]
  simp -dsimp -implicitDefEqProofs only [↓j0, ↓j1, ↓j7, ↓j12, ↓j15, j17, j18, j20, ↓j25, ↓j27, ↓j29, ↓j30, j33, ↓j39, ↓j42, ↓j43, ↓j53, ↓j76, j129, ↓j145, ↓j146, ↓j153, AV.proj, AV.offOf, AV.size, AV.sizeL, AV.layable, argEnv, j170, j171, reduceCtorEq, ↓reduceIte, Nat.reduceAdd, Nat.reduceEqDiff, j182, j196, j197, j282, j283]
  refine CallTo.pure (args := [m.av]) rfl fok8 (by simp -dsimp -implicitDefEqProofs only [↓j25, ↓j29, j173, j174, ↓reduceIte]) (fun x hx => (args_ms x hx).2) hps ?_
  have bad : ¬ (mayM m = true ∧ 0 ≤ slot ∧ slot ≤ 1) → (1, d) = d.storeP slot m := fun h => by rw [hSP, if_neg h]
  have dg0 : ∀ (X Y : Heap) (b0 b1 : ABlk), ∀ n b, Heap.get (diskG d 0 1 2 3 4) n = some b → Heap.get ((11, b0) :: (10, b1) :: diskG d 0 1 2 3 4) n = some b := fun X Y b0 b1 => subC (by omega) (subC (by omega) sub0)
  have m4 : (4 : Nat) = (if d.pend = d.pend then 4 else 12) := by rw [if_pos rfl]
  cases hy : mayM m
  · simp -dsimp -implicitDefEqProofs only [↓j0, ↓j1, ↓j2, ↓j7, ↓j10, ↓j12, ↓j13, ↓j15, j17, j18, j19, j20, j21, j23, ↓j25, ↓j27, ↓j29, ↓j30, j32, j33, ↓j38, ↓j39, ↓j40, ↓j41, ↓j44, ↓j48, ↓j57, ↓j78, j81, j85, ↓j89, ↓j145, ↓j146, ↓j147, ↓j149, ↓j151, ↓j153, j158, AV.proj, AV.offOf, AV.upd, AV.size, AV.layable, j163, j164, j170, j171, j175, reduceCtorEq, ↓reduceIte, Nat.reduceAdd, Nat.reduceEqDiff, j182, j185, j188, j189, j195, j240, j309, j414, hz, hql, y1, del_dg0]
    trace_state
    exact fin 1 d 4 _ _ _ (bad (fun h => by rw [hy] at h; cases h.1)) nm0 (.inl m4) rfl (dg0 [] [] _ _)
  by_cases hs0 : slot < 0
  · have e1 : decide (slot < 0) = true := decide_eq_true hs0
    simp -dsimp -implicitDefEqProofs only [↓j0, ↓j1, ↓j2, ↓j7, ↓j10, ↓j12, ↓j13, ↓j15, j17, j18, j19, j20, j21, j23, ↓j25, ↓j27, ↓j29, ↓j30, j32, j33, ↓j38, ↓j39, ↓j40, ↓j41, ↓j44, ↓j48, ↓j57, ↓j78, j81, j83, j85, ↓j89, ↓j145, ↓j146, ↓j147, ↓j148, ↓j149, ↓j151, ↓j153, j158, j159, AV.proj, AV.offOf, AV.upd, AV.size, AV.layable, j163, j164, j170, j171, j175, reduceCtorEq, ↓reduceIte, Nat.reduceAdd, Nat.reduceEqDiff, j182, j185, j188, j189, j195, j240, j309, j414, hz, hql, y0, e1, del_dg0]
    exact fin 1 d 4 _ _ _ (bad (fun h => by omega)) nm0 (.inl m4) rfl (dg0 [] [] _ _)
  have e1 : decide (slot < 0) = false := decide_eq_false hs0
  by_cases hs1 : 1 < slot
  · have e2 : decide (1 < slot) = true := decide_eq_true hs1
    simp -dsimp -implicitDefEqProofs only [↓j0, ↓j1, ↓j2, ↓j7, ↓j10, ↓j12, ↓j13, ↓j15, j17, j18, j19, j20, j21, j23, ↓j25, ↓j27, ↓j29, ↓j30, j32, j33, ↓j38, ↓j39, ↓j40, ↓j41, ↓j44, ↓j48, ↓j57, ↓j78, j83, j85, ↓j89, ↓j145, ↓j146, ↓j147, ↓j148, ↓j149, ↓j151, ↓j153, j158, j159, j161, AV.proj, AV.offOf, AV.upd, AV.size, AV.layable, j163, j164, j170, j171, j175, reduceCtorEq, ↓reduceIte, Nat.reduceAdd, Nat.reduceEqDiff, j182, j185, j188, j189, j195, j240, j309, j414, hz, hql, y0, e1, e2, del_dg0]
    exact fin 1 d 4 _ _ _ (bad (fun h => by omega)) nm0 (.inl m4) rfl (dg0 [] [] _ _)
  have e2 : decide (1 < slot) = false := decide_eq_false hs1
  have hSP : d.storeP slot m = if wc ≠ 0 then (wc, we) else we.syncP := by rw [hSP, if_pos ⟨hy, by omega, by omega⟩]
  obtain ⟨mm, hmm⟩ : ∃ mm, (if we.pend = d.pend then 4 else 12) = mm := ⟨_, rfl⟩
  have hm1 : mm = 4 ∧ we.pend = d.pend ∨ mm = 12 := by
    by_cases h : we.pend = d.pend
    · left; rw [← hmm, if_pos h]; exact ⟨rfl, h⟩
    · right; rw [← hmm, if_neg h]
  have hw : ACall Try.prog 20 [.ptr 0 0 [], .int .i64 slot, arrAV p] (diskG d 0 1 2 3 4) (.int .i64 (wc : Nat)) (diskG we 0 1 2 3 mm) := by rw [← hmm]; exact hw
  have hnm : Nm 2 3 mm := ⟨by omega, by omega, by omega, by omega, by omega, by omega⟩
  simp -dsimp -implicitDefEqProofs only [↓j0, ↓j1, ↓j2, ↓j7, ↓j9, ↓j12, ↓j13, ↓j15, j17, j18, j19, j20, j21, j23, ↓j25, ↓j27, ↓j29, ↓j30, j32, j33, ↓j38, ↓j39, ↓j40, ↓j41, ↓j43, ↓j44, ↓j48, ↓j53, ↓j57, ↓j76, ↓j78, j83, j85, ↓j89, j129, ↓j145, ↓j146, ↓j148, ↓j149, ↓j151, ↓j153, j158, j159, j161, AV.proj, AV.offOf, AV.upd, AV.size, AV.layable, j163, j164, j170, j171, j175, reduceCtorEq, ↓reduceIte, Nat.reduceAdd, Nat.reduceEqDiff, j182, j185, j188, j189, j195, j240, j309, j310, j414, hz, hql, y0, e1, e2, del_dg0]
  refine CallTo.disk 13 rfl fok20 (by simp -dsimp -implicitDefEqProofs only [↓j25, ↓j29, j173, j174, ↓reduceIte, Nat.reduceEqDiff]) (fun y hy => (args_pbx y hy).2) hw (subC (by omega) (subC (by omega) sub0)) (by omega) (.inl rfl) ?_ ?_ ?_
  · by_cases h : we.fails = none
    · exact .inl h
    · exact .inr (.inl ⟨rfl, fun h2 => h (hwf.trans h2)⟩)
  · by_cases h : we.pend = []
    · exact .inl h
    · rcases hm1 with ⟨h1, h2⟩ | h1
      · exact .inr (.inl ⟨h1, fun h3 => h (h2.trans h3)⟩)
      · exact .inr (.inr (by omega))
  have g11 : ∀ (X : Heap), Heap.get (diskG we 0 1 2 3 mm ++ X) 11 = Heap.get X 11 := fun X => get_dg (by omega)
  have l11 : ∀ (X : Heap), Heap.del (diskG we 0 1 2 3 mm ++ X) 11 = diskG we 0 1 2 3 mm ++ Heap.del X 11 := fun X => del_dg (by omega)
  simp -dsimp -implicitDefEqProofs only [↓j0, ↓j1, ↓j7, ↓j12, ↓j13, ↓j15, j17, j18, j20, ↓j25, ↓j29, ↓j30, j33, ↓j38, ↓j39, ↓j48, ↓j89, ↓j145, ↓j146, ↓j149, j158, j171, reduceCtorEq, ↓reduceIte, Nat.reduceEqDiff, j182, j185, j188, j189, dels_cons_dg, dels_dg0]
  by_cases hc0 : wc = 0
  · have f0 : (((wc : Nat) : Int) != 0) = false := by rw [hc0]; rfl
    have hSP : d.storeP slot m = we.syncP := by rw [hSP, if_neg (by omega)]
    have hsy := sync_at (a := 0) (b := 1) (s := 2) (q := 3) (m := mm) (x := 14) ⟨by simp; omega⟩ we hwk (by show we.ops < _; have h : we.ops ≤ d.ops + 1 := hwo; omega)
    have hsf := syncP_fails we
    have hsp := syncP_pend we
    have hs2 := syncP_pend2 we
    obtain ⟨r, hr1⟩ : ∃ r, we.syncP = r := ⟨_, rfl⟩
    rw [hr1] at hsy hsf hsp hs2 hSP
    obtain ⟨sc, se⟩ := r
    have hwl : we.pend.length = d.pend.length + 4 := hwz hc0
    simp -dsimp -implicitDefEqProofs only [↓j1, ↓j7, ↓j9, ↓j12, ↓j15, j17, j18, j20, ↓j25, ↓j29, ↓j38, ↓j53, ↓j145, ↓j148, j171, reduceCtorEq, ↓reduceIte, f0]
    refine CallTo.disk1 rfl fok36 (by simp -dsimp -implicitDefEqProofs only [↓j25, ↓j29, j173, j174, ↓reduceIte]) (fun y hy => by simp at hy) hsy subX (by rw [hsf]; exact fun h => h) hsp ?_
    simp -dsimp -implicitDefEqProofs only [↓j0, ↓j1, ↓j10, j17, j18, j20, ↓j25, ↓j29, ↓j39, ↓j145, j171, ↓reduceIte, dels_dgX]
    refine fin sc se mm _ _ _ hSP.symm hnm ?_ rfl ?_
    · rcases hs2 with h | h
      · left
        have h : se.pend = we.pend := h
        rw [if_neg (fun h2 => by rw [h] at h2; rw [h2] at hwl; omega), ← hmm, if_neg (fun h2 => by rw [h2] at hwl; omega)]
      · exact .inr h
    · trace_state
      exact subX
  · have f0 : (((wc : Nat) : Int) != 0) = true := by rw [bne_iff_ne]; omega
    have hSP : d.storeP slot m = (wc, we) := by rw [hSP, if_pos hc0]
    simp -dsimp -implicitDefEqProofs only [↓j0, ↓j1, ↓j7, ↓j10, ↓j12, ↓j15, j17, j18, j20, ↓j25, ↓j29, ↓j38, ↓j39, ↓j145, ↓j147, j171, ↓reduceIte, Nat.reduceEqDiff, f0]
    exact fin wc we mm _ _ _ hSP.symm hnm (.inl hmm.symm) rfl subX
end Go.Proofs.Ythfaldoagmkllaa
