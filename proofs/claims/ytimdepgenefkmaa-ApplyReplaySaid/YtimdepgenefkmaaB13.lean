import Derived.Test.YtimdepgenefkmaaB12
set_option maxRecDepth 8000
set_option linter.unusedVariables false
set_option linter.unusedSimpArgs false
namespace Go.Proofs.Ytimdepgenefkmaa.Slot
open Go Go.RowKit

theorem kept_own (lsn : Int) (xs : List Old) (hb : xs.length * 32 ≤ 140737488355328) : ACall Try.prog 50 [undoAV lsn xs] [] (ownAV 5 lsn xs) [(5, .cells (.agg (xs.map Old.av)))] := by
  refine ACall.run (Z := Z) (N := 10) mixed hZ Try.func50 rfl rfl (by kernel_rfl) (by simp) args1 2 ?_
  simp -dsimp -implicitDefEqProofs only [↓j0, ↓j1, ↓j4, ↓j7, ↓j8, ↓j12, ↓j15, j17, j18, j20, j24, ↓j25, ↓j27, ↓j29, ↓j41, ↓j42, ↓j43, ↓j45, ↓j51, ↓j74, ↓j76, ↓j79, j125, j127, j130, j133, ↓j145, ↓j146, ↓j153, partsAV, AV.proj, AV.offOf, AV.size, AV.sizeL, AV.layable, argEnv, j163, j164, j166, j167, j170, j171, j172, j173, j174, ↓reduceIte, Nat.reduceAdd, Nat.reduceEqDiff, j182, j196, j197, j214, j218, j219, j226, Nat.reducePow, List.replicate, j234, j279, j388, j394, j397, j433, j450]
  refine DoAppend_of rfl rfl at69 ?_
  have hu := unif_olds xs
  have hl : xs.length ≤ 9223372036854775807 := by omega
  have hu0 : Unif 6 [] := fun x hx => by simp at hx
  simp -dsimp -implicitDefEqProofs only [↓j3, ↓j4, j17, j18, j19, j20, j21, j22, j23, j24, ↓j25, ↓j27, ↓j29, ↓j44, ↓j54, ↓j78, ↓j101, ↓j102, ↓j104, ↓j124, j125, j126, j127, j128, ↓j145, ↓j146, ↓j153, partsAV, AV.proj, AV.offOf, AV.upd, AV.size, AV.sizeL, AV.layable, j163, j164, j166, j167, j168, j169, j170, j171, j172, j173, j174, j179, j180, ↓reduceIte, Nat.reduceAdd, Nat.reduceEqDiff, j182, j183, j188, j189, j196, j197, j213, j214, j215, j216, j217, j222, j223, j228, j229, j231, j234, j391, j395, j398, j453, hu, hu0, take_olds, hb, hl]
  refine ⟨by kernel_rfl, ?_⟩
  simp -dsimp -implicitDefEqProofs only [↓j10]
  exact Final.oneNew (.inr rfl) (r := .cell 2 71) rfl ⟨3, 0, [], _, rfl, by simp -dsimp -implicitDefEqProofs only [↓j27, ↓reduceIte], rfl, rfl, by simp -dsimp -implicitDefEqProofs only [j129, AV.size, AV.sizeL, Nat.reduceAdd, j182, j197, j391, j392]⟩ (fun vs h => by cases h) (by simp -dsimp -implicitDefEqProofs only [↓j27, ↓reduceIte, Nat.reduceEqDiff]) ⟨trivial, rfl, trivial⟩ (on_olds _ xs)
theorem rmay_own (q L : Nat) (lsn : Int) (ys : List Old) (es : List AV) (hL : ys.length = L) (he : es = ys.map Old.av) (hl : L ≤ 9223372036854775807) : ACall Try.prog 49 [.agg [.int .u64 lsn, .sl q 0 [] 0 L L 6]] [(q, .cells (.agg es))] (.bool (may ys)) [(q, .cells (.agg es))] := by
  subst hL he
  exact (rmay_spec lsn ys hl).borrow rfl ⟨frz_row (by simp [Heap.get]), trivial⟩
theorem put_sub {l : Heap} {m k : Nat} : ∀ n x, Heap.get l n = some x → n ∉ l.map (·.1) → m ≤ n ∧ n < k := fun n x h h2 => absurd (get_map h) h2
theorem args_own {q L : Nat} {lsn : Int} : ∀ x, x ∈ [AV.agg [.int .u64 lsn, .sl q 0 [] 0 L L 6]] → ∀ vs, x ≠ .tuple vs := fun x hx vs h => by
  simp only [List.mem_singleton] at hx; subst hx; cases h
theorem fok50 : fnOk Try.prog 50 = true := by kernel_rfl
def firstDead (xs : List Old) : Nat := (deadAt xs).getD xs.length
def addR (lsn : Int) (xs : List Old) (o : Old) : Int × List Old × Int × Int :=
  if may xs = false ∨ o.live = false ∨ 66 < o.delta.size then (0, [], 0, 1) else
  let ys := if firstDead xs = xs.length then xs ++ [o] else xs.set (firstDead xs) o
  if may ys = false then (0, [], 0, 5) else (lsn, ys, ((firstDead xs : Nat) : Int), 0)
abbrev addRAV (r : Int × List Old × Int × Int) : AV := .tuple [undoAV r.1 r.2.1, .int .i64 r.2.2.1, .int .i64 r.2.2.2]
theorem deadAt_lt : ∀ {xs : List Old} {i : Nat}, deadAt xs = some i → i < xs.length := fun {xs i} h => by
  obtain ⟨d, h1, _⟩ := deadAt_get h
  rcases Nat.lt_or_ge i xs.length with h2 | h2
  · exact h2
  · rw [List.getElem?_eq_none h2] at h1; cases h1
def adT (xs : List Old) (o : Old) (i : Nat) : Env := [(8, .int .i64 i), (7, .ptr 6 0 []), (2, .ptr 0 0 []), (3, .ptr 1 0 []), (4, .ptr 2 0 []), (5, .int .i64 0), (6, .int .i64 0)]
def adH (lsn : Int) (xs : List Old) (o : Old) : Heap := [(0, .cells (undoAV lsn xs)), (1, .cells o.av), (2, .cells zeroU), (6, .cells (ownAV 5 lsn xs)), (5, .cells (.agg (xs.map Old.av)))]
def adSt (lsn : Int) (xs : List Old) (o : Old) (i : Nat) : St := ⟨63, adT xs o i, adH lsn xs o, 7⟩
set_option maxRecDepth 4000 in
theorem radd_spec (lsn : Int) (xs : List Old) (o : Old) (hl : xs.length ≤ 9223372036854775807) : ACall Try.prog 26 [undoAV lsn xs, o.av] [] (addRAV (addR lsn xs o)) [] := by
  refine ACall.run (Z := Z) (N := 63) mixed hZ Try.func26 rfl rfl (by kernel_rfl) (by simp) argsO 0 ?_
  have fin0 : ∀ (e : Int) (t : Env) (H : Heap) (m : Nat), look t 4 = some (.ptr 2 0 []) → look t 5 = some (.int .i64 0) → look t 6 = some (.int .i64 e) → Heap.get H 2 = some (.cells zeroU) → (0, [], 0, e) = addR lsn xs o →
      Final Try.prog Try.f26 (addRAV (addR lsn xs o)) [] .ret ⟨63, t, H, m⟩ := by
    intro e t H m h1 h2 h3 h4 h5
    rw [← h5]
    exact Final.many (.inr rfl) (rs := [.cell 4 71, .tmp 5, .tmp 6]) (us := [zeroU, .int .i64 0, .int .i64 e]) rfl ⟨⟨2, 0, [], _, h1, h4, rfl, rfl, by simp -dsimp -implicitDefEqProofs only [j129, AV.size, AV.sizeL, Nat.reduceAdd, j182, j197, j391, j392]⟩, ⟨h2, fun vs h => by cases h⟩, ⟨h3, fun vs h => by cases h⟩, trivial⟩ (by simp) ⟨frz0, .same _ trivial, .same _ trivial, trivial⟩
  have fin1 : ∀ (q L : Nat) (ys : List Old) (es : List AV) (p : Int) (t : Env) (H : Heap) (m : Nat), ys.length = L → es = ys.map Old.av → look t 4 = some (.ptr 2 0 []) → look t 5 = some (.int .i64 p) → look t 6 = some (.int .i64 0) → Heap.get H 2 = some (.cells (.agg [.int .u64 lsn, .sl q 0 [] 0 L L 6])) → Heap.get H q = some (.cells (.agg es)) → (lsn, ys, p, 0) = addR lsn xs o →
      Final Try.prog Try.f26 (addRAV (addR lsn xs o)) [] .ret ⟨63, t, H, m⟩ := by
    intro q L ys es p t H m hL hes h1 h2 h3 h4 h4' h5
    subst hL hes
    rw [← h5]
    exact Final.many (.inr rfl) (rs := [.cell 4 71, .tmp 5, .tmp 6]) (us := [.agg [.int .u64 lsn, .sl q 0 [] 0 ys.length ys.length 6], .int .i64 p, .int .i64 0]) rfl ⟨⟨2, 0, [], _, h1, h4, rfl, rfl, by simp -dsimp -implicitDefEqProofs only [j129, AV.size, AV.sizeL, Nat.reduceAdd, j182, j197, j391, j392]⟩, ⟨h2, fun vs h => by cases h⟩, ⟨h3, fun vs h => by cases h⟩, trivial⟩ (by simp) ⟨frz_row h4', .same _ trivial, .same _ trivial, trivial⟩
  simp -dsimp -implicitDefEqProofs only [↓j0, ↓j1, ↓j7, ↓j12, ↓j15, j17, j18, j20, ↓j25, ↓j27, ↓j29, ↓j30, j33, ↓j39, ↓j41, ↓j42, ↓j43, ↓j53, ↓j76, j129, ↓j145, ↓j146, ↓j153, AV.proj, AV.offOf, AV.size, AV.sizeL, AV.layable, argEnv, j170, j171, j172, reduceCtorEq, ↓reduceIte, Nat.reduceAdd, Nat.reduceEqDiff, j182, j196, j197, j391, j392, j433]
  refine CallTo.pure (args := [undoAV lsn xs]) rfl fok49 (by simp -dsimp -implicitDefEqProofs only [↓j25, ↓j29, j173, j174, ↓reduceIte]) (fun x hx => (args1 x hx).2) (rmay_spec lsn xs hl) ?_
  cases hm : may xs
  · simp -dsimp -implicitDefEqProofs only [↓j0, ↓j1, ↓j2, ↓j7, ↓j10, ↓j12, ↓j13, ↓j15, j17, j18, j19, j20, j21, j22, j23, ↓j25, ↓j27, ↓j29, ↓j30, j32, j33, ↓j38, ↓j39, ↓j40, ↓j44, ↓j54, ↓j55, ↓j78, j81, j84, ↓j124, j125, j127, ↓j145, ↓j146, ↓j147, ↓j149, ↓j151, ↓j153, partsAV, AV.proj, AV.offOf, AV.upd, AV.size, AV.sizeL, AV.layable, j163, j164, j170, j171, j175, reduceCtorEq, ↓reduceIte, Nat.reduceAdd, Nat.reduceEqDiff, j182, j194, j197, j214, j218, j219, j391, j453]
    refine fin0 1 _ _ _ ?_ ?_ ?_ ?_ ?_
    · rfl
    · rfl
    · rfl
    · rfl
    · exact (by rw [addR, if_pos (.inl hm)])
  have hlen := may_len hm
  cases hv : o.live
  · simp -dsimp -implicitDefEqProofs only [↓j0, ↓j1, ↓j2, ↓j7, ↓j10, ↓j12, ↓j13, ↓j15, j17, j18, j19, j20, j21, j22, j23, ↓j25, ↓j27, ↓j29, ↓j30, j32, j33, ↓j38, ↓j39, ↓j40, ↓j43, ↓j44, ↓j45, ↓j54, ↓j55, ↓j76, ↓j78, ↓j79, j81, j83, j84, ↓j124, j125, j127, j131, ↓j145, ↓j146, ↓j147, ↓j148, ↓j149, ↓j151, ↓j153, partsAV, AV.proj, AV.offOf, AV.upd, AV.size, AV.sizeL, AV.layable, j163, j164, j167, j170, j171, j175, reduceCtorEq, ↓reduceIte, Nat.reduceAdd, Nat.reduceEqDiff, j182, j193, j194, j195, j197, j214, j218, j219, j253, j297, j391, j453, hv]
    refine fin0 1 _ _ _ ?_ ?_ ?_ ?_ ?_
    · rfl
    · rfl
    · rfl
    · rfl
    · exact (by rw [addR, if_pos (.inr (.inl hv))])
  rcases Nat.lt_or_ge 66 o.delta.size with h66 | h66
  · have e66 : decide (66 < (o.delta.size : Int)) = true := decide_eq_true (by omega)
    simp -dsimp -implicitDefEqProofs only [↓j0, ↓j1, ↓j2, ↓j7, ↓j10, ↓j12, ↓j13, ↓j15, j17, j18, j19, j20, j21, j22, j23, ↓j25, ↓j27, ↓j29, ↓j30, j32, j33, ↓j38, ↓j39, ↓j40, ↓j43, ↓j44, ↓j45, ↓j48, ↓j54, ↓j55, ↓j58, ↓j59, ↓j76, ↓j78, ↓j79, j83, j84, ↓j89, ↓j124, j125, j127, j131, j132, j141, ↓j145, ↓j146, ↓j147, ↓j148, ↓j149, ↓j151, ↓j153, j161, partsAV, AV.proj, AV.offOf, AV.upd, AV.size, AV.sizeL, AV.layable, j163, j164, j166, j167, j170, j171, j175, reduceCtorEq, ↓reduceIte, Nat.reduceAdd, Nat.reduceEqDiff, j182, j185, j193, j195, j196, j197, j214, j218, j219, j253, j258, j259, j297, j309, j391, j453, hv, e66]
    refine fin0 1 _ _ _ ?_ ?_ ?_ ?_ ?_
    · rfl
    · rfl
    · rfl
    · rfl
    · exact (by rw [addR, if_pos (.inr (.inr h66))])
  have e66 : decide (66 < (o.delta.size : Int)) = false := decide_eq_false (by omega)
  have hnot : ¬ (may xs = false ∨ o.live = false ∨ 66 < o.delta.size) := by simp only [hm, hv, Bool.true_eq_false, false_or]; omega
  have hp : addR lsn xs o = (if may (if firstDead xs = xs.length then xs ++ [o] else xs.set (firstDead xs) o) = false then (0, [], 0, 5) else (lsn, (if firstDead xs = xs.length then xs ++ [o] else xs.set (firstDead xs) o), ((firstDead xs : Nat) : Int), 0)) := by
    rw [addR, if_neg hnot]
  simp -dsimp -implicitDefEqProofs only [↓j0, ↓j1, ↓j2, ↓j7, ↓j9, ↓j12, ↓j13, ↓j15, j17, j18, j20, ↓j25, ↓j27, ↓j29, ↓j30, j32, j33, ↓j38, ↓j40, ↓j43, ↓j45, ↓j48, ↓j53, ↓j55, ↓j58, ↓j59, ↓j76, ↓j79, j83, j84, ↓j89, j129, j131, j132, j141, ↓j145, ↓j146, ↓j148, ↓j149, ↓j151, ↓j153, j161, AV.proj, AV.offOf, AV.size, AV.sizeL, j163, j164, j166, j167, j171, j175, reduceCtorEq, ↓reduceIte, Nat.reduceAdd, Nat.reduceEqDiff, j182, j185, j193, j195, j196, j197, j253, j258, j259, j297, j309, j391, j392, hv, e66]
  refine CallTo.newAt 5 (args := [undoAV lsn xs]) rfl fok50 (by simp -dsimp -implicitDefEqProofs only [↓j25, ↓j29, j173, j174, ↓reduceIte]) (fun x hx => (args1 x hx).2) (show (3 : Nat) ≤ 5 by decide) (kept_own lsn xs (by omega)) ?_
  simp -dsimp -implicitDefEqProofs only [↓j0, ↓j1, ↓j7, ↓j12, ↓j14, ↓j15, ↓j16, j17, j18, j19, j20, j21, j22, j23, ↓j25, ↓j27, ↓j29, ↓j30, j33, ↓j39, ↓j41, ↓j44, ↓j78, ↓j145, ↓j146, ↓j153, AV.proj, AV.offOf, AV.upd, AV.size, AV.sizeL, AV.layable, j170, j171, reduceCtorEq, ↓reduceIte, Nat.reduceAdd, Nat.reduceEqDiff, j182, j197, j391, j433]
  refine AWp.loopR (Z := Z) mixed hZ (by kernel_rfl) (fun k s => ∃ i, i + k = xs.length ∧ (xs.take i).all (·.live) = true ∧ s = adSt lsn xs o i) (n0 := xs.length) (s0 := adSt lsn xs o 0) ?_ ⟨0, by omega, by simp, rfl⟩ ?_ rfl
  · exact Wk.sub (by simp -dsimp -implicitDefEqProofs only [↓j25, ↓j27, j179, reduceCtorEq, ↓reduceIte, Nat.reduceEqDiff, j182, j183, j184, j202, j203, j204, j205, j209, j223, adT, adH] <;> simp)
  rintro k s ⟨i, hi, hall, rfl⟩
  refine ⟨rfl, ?_⟩
  have hu : Unif 6 [o.av] := unif_olds [o]
  have hu2 := unif_olds xs
  rcases Nat.lt_or_ge i xs.length with hlt | hge
  · have hd : decide ((i : Int) < (xs.length : Int)) = true := decide_eq_true (by omega)
    have hlt2 : (i : Int) < (xs.length : Int) := by omega
    obtain ⟨x, hx⟩ := list_get (xs := xs) (i := i) (by omega)
    have hsz2 : AV.sizeL ((xs.map Old.av).take i) = i * 6 := (unif_olds xs).sizeL_take (by simp; omega)
    have hw : IntKind.i64.wrap ((i : Int) + 1) = ((i + 1 : Nat) : Int) := by rw [wrap_i64 (by omega) (by omega)]; omega
    cases hxl : x.live
    · have hda := deadAt_some hall hx hxl
      have hfd : firstDead xs = i := by rw [firstDead, hda]; rfl
      have hne : ¬ (i = xs.length) := by omega
      rw [hfd, if_neg hne] at hp
      have hei : ((i : Int) == (xs.length : Int)) = false := by rw [beq_eq_false_iff_ne]; omega
      have hset : (xs.map Old.av).set i o.av = (xs.set i o).map Old.av := by rw [List.map_set]
      have hset' : (xs.map Old.av).set i (AV.agg [AV.bool true, AV.int .u16 o.page, AV.int .u32 o.ts, AV.agg [AV.int .u16 o.rpage, AV.int .u8 o.rslot], AV.str o.delta]) = (xs.set i o).map Old.av := by rw [← hset, ← hv]
      obtain ⟨ys, hys⟩ : ∃ ys, xs.set i o = ys := ⟨_, rfl⟩
      have hyl : ys.length = xs.length := by rw [← hys, List.length_set]
      rw [hys] at hset hset' hp
      simp -dsimp -implicitDefEqProofs only [↓j0, ↓j1, ↓j2, ↓j7, ↓j11, ↓j12, ↓j13, ↓j15, j17, j18, j19, j20, j21, j22, j23, ↓j25, ↓j27, ↓j29, ↓j30, j32, ↓j38, ↓j40, ↓j43, ↓j44, ↓j45, ↓j46, ↓j48, ↓j53, ↓j58, ↓j61, ↓j76, ↓j78, ↓j79, j83, ↓j89, ↓j93, j129, j131, j135, j143, ↓j145, ↓j146, ↓j147, ↓j148, ↓j149, ↓j150, ↓j153, j157, j159, AV.proj, AV.offOf, AV.upd, AV.size, AV.sizeL, AV.layable, j163, j164, j166, j167, j170, j171, j175, j177, reduceCtorEq, ↓reduceIte, Nat.reduceAdd, Nat.reduceEqDiff, j182, j185, j191, j196, j197, j206, j207, j208, j253, j294, j295, j297, j388, j389, j391, j392, j397, j478, adSt, adT, adH, hlt2, hx, hsz2, hxl, hei, hset]
      refine CallTo.gen (args := [ownAV 5 lsn xs]) [(5, .cells (.agg (ys.map Old.av)))] [(5, .cells (.agg (ys.map Old.av)))] 7 rfl fok49 (by simp -dsimp -implicitDefEqProofs only [↓j25, ↓j29, j173, j174, ↓reduceIte]) args_own (rmay_own 5 xs.length lsn ys _ hyl rfl (by omega)) (SubH.of (by simp -dsimp -implicitDefEqProofs only [↓j27, ↓reduceIte, j182, j204, j205])) ⟨by simp, put_sub⟩ ?_
      cases hmy : may ys
      · rw [hmy, if_pos rfl] at hp
        simp -dsimp -implicitDefEqProofs only [↓j0, ↓j1, ↓j7, ↓j10, ↓j12, ↓j13, ↓j15, j17, j18, j19, j20, j21, j22, j23, ↓j25, ↓j27, ↓j29, ↓j30, j33, ↓j39, ↓j44, ↓j54, ↓j55, ↓j78, j84, ↓j124, j125, j127, ↓j145, ↓j146, ↓j147, ↓j149, ↓j153, partsAV, AV.proj, AV.offOf, AV.upd, AV.size, AV.sizeL, AV.layable, j170, j171, j173, j174, reduceCtorEq, ↓reduceIte, Nat.reduceAdd, Nat.reduceEqDiff, j182, j194, j197, j214, j218, j219, j391, j453]
        refine fin0 5 _ _ _ ?_ ?_ ?_ ?_ ?_
        · rfl
        · rfl
        · rfl
        · rfl
        · exact hp.symm
      · rw [hmy, if_neg (by simp)] at hp
        simp -dsimp -implicitDefEqProofs only [↓j0, ↓j1, ↓j7, ↓j9, ↓j10, ↓j12, ↓j13, ↓j15, j17, j18, j19, j20, j21, j22, j23, ↓j25, ↓j27, ↓j29, ↓j30, j33, ↓j38, ↓j39, ↓j43, ↓j44, ↓j55, ↓j76, ↓j78, j84, j129, ↓j145, ↓j146, ↓j148, ↓j149, ↓j153, AV.proj, AV.offOf, AV.upd, AV.size, AV.sizeL, AV.layable, j170, j171, j173, j174, reduceCtorEq, ↓reduceIte, Nat.reduceAdd, Nat.reduceEqDiff, j182, j193, j197, j391, j392]
        refine fin1 5 xs.length ys (ys.map Old.av) i _ _ _ hyl ?_ ?_ ?_ ?_ ?_ ?_ ?_
        · rfl
        · rfl
        · rfl
        · rfl
        · rfl
        · rfl
        · exact hp.symm
    · simp -dsimp -implicitDefEqProofs only [↓j0, ↓j1, ↓j2, ↓j7, ↓j9, ↓j12, ↓j13, ↓j14, ↓j15, j17, j18, j20, ↓j25, ↓j27, ↓j29, ↓j30, j32, j33, ↓j38, ↓j39, ↓j40, ↓j43, ↓j45, ↓j46, ↓j48, ↓j58, ↓j61, ↓j76, ↓j79, j83, ↓j89, ↓j93, j131, j135, j143, ↓j145, ↓j146, ↓j147, ↓j149, ↓j150, ↓j153, j154, j159, AV.proj, AV.offOf, AV.size, AV.sizeL, j163, j164, j166, j167, j170, j171, j175, j177, reduceCtorEq, ↓reduceIte, Nat.reduceEqDiff, j182, j185, j191, j196, j197, j206, j207, j208, j253, j297, j388, j389, j397, j478, adSt, adT, adH, hlt2, hx, hsz2, hxl]
      exact ⟨k - 1, adSt lsn xs o (i + 1), by omega, ⟨i + 1, by omega, by rw [take_succ hx, List.all_append, hall]; simp [hxl], rfl⟩, Wk.sub (by simp -dsimp -implicitDefEqProofs only [adT, adH, ↓j25, ↓j27, reduceCtorEq, ↓reduceIte, Nat.reduceEqDiff, j182, j202, j203, j204, j205, j223, hw] <;> simp)⟩
  · have hi2 : i = xs.length := by omega
    subst hi2
    rw [List.take_of_length_le (Nat.le_refl _)] at hall
    have hfd : firstDead xs = xs.length := by rw [firstDead, deadAt_none hall]; rfl
    rw [hfd, if_pos rfl] at hp
    have hd : decide ((xs.length : Int) < (xs.length : Int)) = false := decide_eq_false (by omega)
    have hei : ((xs.length : Int) == (xs.length : Int)) = true := by simp
    simp -dsimp -implicitDefEqProofs only [↓j0, ↓j1, ↓j2, ↓j7, ↓j11, ↓j12, ↓j13, ↓j15, j17, j18, j20, ↓j25, ↓j27, ↓j29, ↓j30, j32, ↓j38, ↓j40, ↓j43, ↓j45, ↓j48, ↓j51, ↓j58, ↓j61, ↓j74, ↓j76, ↓j79, j82, ↓j89, j125, j126, j127, j128, j129, j135, j143, ↓j145, ↓j146, ↓j147, ↓j148, ↓j149, ↓j150, ↓j153, j157, j159, partsAV, AV.proj, AV.offOf, AV.size, AV.sizeL, AV.layable, j163, j164, j166, j167, j169, j170, j171, j175, j179, j180, reduceCtorEq, ↓reduceIte, Nat.reduceAdd, Nat.reduceMul, Nat.reduceEqDiff, Nat.reduceLeDiff, j182, j183, j185, j196, j197, j213, j214, j215, j217, Nat.reducePow, List.replicate, j234, j294, j295, j388, j397, j450, j478, adSt, adT, adH, hd, hei]
    refine DoAppend_of rfl rfl at69 ?_
    simp -dsimp -implicitDefEqProofs only [↓j27, ↓j101, ↓j102, ↓j106, j107, ↓j145, ↓j146, ↓j153, AV.proj, AV.offOf, j166, reduceCtorEq, ↓reduceIte, Nat.reduceEqDiff, Nat.reduceLeDiff, j182, j184, j188, j189, j196, j197, j213, j214, j215, j222, j223, j227, j228, j230, j231, j234, hu, hu2]
    refine ⟨⟨by omega, by omega⟩, ?_⟩
    simp -dsimp -implicitDefEqProofs only [↓j0, ↓j1, ↓j7, ↓j12, ↓j15, j17, j18, j19, j20, j21, j22, j23, ↓j25, ↓j27, ↓j29, ↓j43, ↓j44, ↓j45, ↓j53, ↓j76, ↓j78, ↓j79, j129, ↓j145, ↓j146, ↓j153, AV.proj, AV.offOf, AV.upd, AV.size, AV.sizeL, AV.layable, j163, j164, j166, j167, j168, j169, j170, j171, reduceCtorEq, ↓reduceIte, Nat.reduceAdd, Nat.reduceEqDiff, j182, j196, j197, j227, j228, j230, j231, j387, j391, j392, j397, take_olds]
    obtain ⟨ys, hys⟩ : ∃ ys, xs ++ [o] = ys := ⟨_, rfl⟩
    have hyl : ys.length = xs.length + 1 := by rw [← hys]; simp
    have hes : xs.map Old.av ++ [o.av] = ys.map Old.av := by rw [← hys]; simp
    rw [hys] at hp
    refine CallTo.gen (args := [.agg [.int .u64 lsn, .sl 8 0 [] 0 (xs.length + 1) (xs.length + 1) 6]]) [(8, .cells (.agg (xs.map Old.av ++ [o.av])))] [(8, .cells (.agg (xs.map Old.av ++ [o.av])))] 9 rfl fok49 (by simp -dsimp -implicitDefEqProofs only [↓j25, ↓j29, j173, j174, ↓reduceIte]) args_own (rmay_own 8 (xs.length + 1) lsn ys _ hyl hes (by omega)) (SubH.of (by simp -dsimp -implicitDefEqProofs only [↓j27, ↓reduceIte, Nat.reduceEqDiff, j182, j204, j205])) ⟨by simp, put_sub⟩ ?_
    cases hmy : may ys
    · rw [hmy, if_pos rfl] at hp
      simp -dsimp -implicitDefEqProofs only [↓j0, ↓j1, ↓j7, ↓j10, ↓j12, ↓j13, ↓j15, j17, j18, j19, j20, j21, j22, j23, ↓j25, ↓j27, ↓j29, ↓j30, j33, ↓j39, ↓j44, ↓j54, ↓j55, ↓j78, j84, ↓j124, j125, j127, ↓j145, ↓j146, ↓j147, ↓j149, ↓j153, partsAV, AV.proj, AV.offOf, AV.upd, AV.size, AV.sizeL, AV.layable, j170, j171, j173, j174, reduceCtorEq, ↓reduceIte, Nat.reduceAdd, Nat.reduceEqDiff, j182, j194, j197, j214, j218, j219, j391, j453]
      refine fin0 5 _ _ _ ?_ ?_ ?_ ?_ ?_
      · rfl
      · rfl
      · rfl
      · rfl
      · exact hp.symm
    · rw [hmy, if_neg (by simp)] at hp
      simp -dsimp -implicitDefEqProofs only [↓j0, ↓j1, ↓j7, ↓j9, ↓j10, ↓j12, ↓j13, ↓j15, j17, j18, j19, j20, j21, j22, j23, ↓j25, ↓j27, ↓j29, ↓j30, j33, ↓j38, ↓j39, ↓j43, ↓j44, ↓j55, ↓j76, ↓j78, j84, j129, ↓j145, ↓j146, ↓j148, ↓j149, ↓j153, AV.proj, AV.offOf, AV.upd, AV.size, AV.sizeL, AV.layable, j170, j171, j173, j174, reduceCtorEq, ↓reduceIte, Nat.reduceAdd, Nat.reduceEqDiff, j182, j193, j197, j391, j392]
      refine fin1 8 (xs.length + 1) ys (xs.map Old.av ++ [o.av]) xs.length _ _ _ hyl ?_ ?_ ?_ ?_ ?_ ?_ ?_
      · exact hes
      · rfl
      · rfl
      · rfl
      · rfl
      · rfl
      · exact hp.symm
end Go.Proofs.Ytimdepgenefkmaa.Slot
