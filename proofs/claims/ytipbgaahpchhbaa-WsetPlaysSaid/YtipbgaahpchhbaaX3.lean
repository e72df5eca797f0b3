/- The document's set: Write. -/
import Derived.Test.YtipbgaahpchhbaaX2
set_option maxRecDepth 8000
set_option linter.unusedVariables false
set_option linter.unusedSimpArgs false
namespace Go.Proofs.Ytipbgaahpchhbaa
open Go Go.RowKit

/-- The pages that were written, in the order of their first writing. -/
def distL (acc : List Nat) (l : List Wo) : List Nat := l.foldl (fun a w => if w.page ∈ a then a else a ++ [w.page]) acc
def dist (l : List Wo) : List Nat := distL [] l
theorem dist_snoc (l : List Wo) (w : Wo) : dist (l ++ [w]) = if w.page ∈ dist l then dist l else dist l ++ [w.page] := by
  rw [dist, distL, List.foldl_append]; rfl
theorem mem_distL {p : Nat} : ∀ {l : List Wo} {acc : List Nat}, p ∈ distL acc l ↔ p ∈ acc ∨ hasP l p = true
  | [], acc => by simp [distL, hasP]
  | w :: r, acc => by
    have ih := mem_distL (p := p) (l := r) (acc := if w.page ∈ acc then acc else acc ++ [w.page])
    show p ∈ distL (if w.page ∈ acc then acc else acc ++ [w.page]) r ↔ _
    rw [ih]
    have hc : hasP (w :: r) p = true ↔ w.page = p ∨ hasP r p = true := by simp [hasP]
    rw [hc]
    split
    · rename_i h
      constructor
      · rintro (h1 | h1)
        · exact .inl h1
        · exact .inr (.inr h1)
      · rintro (h1 | h1 | h1)
        · exact .inl h1
        · exact .inl (h1 ▸ h)
        · exact .inr h1
    · rw [List.mem_append, List.mem_singleton]
      constructor
      · rintro ((h1 | h1) | h1)
        · exact .inl h1
        · exact .inr (.inl h1.symm)
        · exact .inr (.inr h1)
      · rintro (h1 | h1 | h1)
        · exact .inl (.inl h1)
        · exact .inl (.inr h1.symm)
        · exact .inr h1
theorem mem_dist {l : List Wo} {p : Nat} : p ∈ dist l ↔ hasP l p = true := by rw [dist, mem_distL]; simp
theorem dist_step {l : List Wo} {i : Nat} {w : Wo} (h : l[i]? = some w) : dist (l.take (i + 1)) = if hasP (l.take i) w.page = true then dist (l.take i) else dist (l.take i) ++ [w.page] := by
  rw [take_succ h, dist_snoc]
  by_cases hc : hasP (l.take i) w.page = true
  · rw [if_pos hc, if_pos (mem_dist.2 hc)]
  · rw [if_neg hc, if_neg (fun h => hc (mem_dist.1 h))]
theorem has_step {l : List Wo} {k p : Nat} {w : Wo} (h : l[k]? = some w) : hasP (l.take (k + 1)) p = (hasP (l.take k) p || (w.page == p)) := by
  rw [take_succ h]; simp [hasP]
theorem dist_le : ∀ (l : List Wo) (acc : List Nat), (distL acc l).length ≤ acc.length + l.length
  | [], acc => Nat.le_refl _
  | w :: r, acc => by
    have ih := dist_le r (if w.page ∈ acc then acc else acc ++ [w.page])
    have h : (if w.page ∈ acc then acc else acc ++ [w.page]).length ≤ acc.length + 1 := by
      split
      · omega
      · simp
    show (distL (if w.page ∈ acc then acc else acc ++ [w.page]) r).length ≤ _
    rw [List.length_cons]; omega
def rwriteP (l : List Wo) (w : Wo) : Nat × List Wo :=
  if w.off < 0 ∨ 64 < w.off ∨ 64 - w.off < (w.s.length : Int) then (1, l) else
  if hasP l w.page = false ∧ 4 ≤ (dist l).length then (10, l) else (0, l ++ [w])
def rwriteN (l : List Wo) (w : Wo) : Nat := if (rwriteP l w).1 = 0 then 102 else 4
abbrev woC' (o : Wo) : ABlk := .cells o.av
def woT (l : List Wo) (i c : Nat) : Env := [(36, .int .i64 i), (35, .int .i64 l.length), (5, .int .i64 c), (3, .ptr 100 0 []), (0, .ptr 99 0 []), (4, .int .i64 0)]
def woSt (l : List Wo) (w : Wo) (i : Nat) : St := ⟨80, woT l i (dist (l.take i)).length, (100, woC' w) :: slH l 4, 101⟩
def wiSt (l : List Wo) (w : Wo) (i c p k : Nat) : St := ⟨80, (8, .int .i64 k) :: (7, .bool (!hasP (l.take k) p)) :: (6, .int .i64 i) :: woT l i c, (100, woC' w) :: slH l 4, 101⟩
theorem put_any {H : Heap} {a b : Nat} : ∀ n x, Heap.get H n = some x → n ∉ H.map (·.1) → a ≤ n ∧ n < b := fun n x h h2 => absurd (get_map h) h2
theorem arg_wo1 {w : Wo} : ∀ x, x ∈ [w.av] → AV.on (fun _ => False) x ∧ ∀ vs, x ≠ .tuple vs := fun x hx => by
  simp only [List.mem_singleton] at hx; subst hx; exact ⟨⟨trivial, on_bytes _ _, trivial, trivial, trivial⟩, fun vs h => by cases h⟩
set_option maxHeartbeats 6400000 in
theorem rwrite_spec (l : List Wo) (hl : ∀ o, o ∈ l → o.Ok) (hn : l.length < 1000) (w : Wo) (hwo : w.Ok) : ACall Try.prog 12 [.ptr 99 0 [], w.av] (rsH l 4) (.int .i64 (rwriteP l w).1) (rsH (rwriteP l w).2 (rwriteN l w)) := by
  refine ACall.runH (Z := Z) (N := 80) mixed hZ Try.func12 rfl rfl (by kernel_rfl) (by simp) (rs_args arg_wo1) rs_on' 100 (rs_lt (by omega)) ?_
  have hob := hwo.base
  have hof := hwo.off
  have hos := hwo.s
  have hhs := has_spec l hl (by omega) w.page
  have fW : rwriteP l w = if w.off < 0 ∨ 64 < w.off ∨ 64 - w.off < (w.s.length : Int) then (1, l) else if hasP l w.page = false ∧ 4 ≤ (dist l).length then (10, l) else (0, l ++ [w]) := rfl
  have fN : rwriteN l w = if (rwriteP l w).1 = 0 then 102 else 4 := rfl
  have ret : ∀ (k : Nat) (l' : List Wo) (m : Nat) (t : Env) (H : Heap) (nx : Nat), (k, l') = rwriteP l w → m = rwriteN l w → look t 4 = some (.int .i64 k) → Heap.get H 99 = some (rsC l' m) → (0 < l'.length → Heap.get H m = some (.cells (.agg (l'.map Wo.av)))) → Final Try.prog Try.f12 (.int .i64 (rwriteP l w).1) (rsH (rwriteP l w).2 (rwriteN l w)) .ret ⟨80, t, H, nx⟩ := fun k l' m t H nx hk hm h1 h2 h3 => by
    rw [← hk, ← hm]
    exact Final.oneH (.inr rfl) (r := .tmp 4) rfl ⟨h1, fun vs h => by cases h⟩ (fun vs h => by cases h) (fun vs h => by cases h) (.same _ trivial) (rs_keep h2 h3)
  cases hl0 : l with
  | nil =>
    subst hl0
    have hhs : ACall Try.prog 19 [.ptr 99 0 [], .int .u16 w.page] [(99, .cells (.agg [.nilsl]))] (.bool false) [(99, .cells (.agg [.nilsl]))] := hhs
    rw [rsH_nil]
    by_cases c1 : w.off < 0
    · have e1 : decide (w.off < 0) = true := decide_eq_true c1
      rw [if_pos (.inl c1)] at fW
      rw [fW, if_neg (by simp)] at fN
      simp -dsimp -implicitDefEqProofs only [↓j0, ↓j1, ↓j2, ↓j7, ↓j10, ↓j12, ↓j13, ↓j15, j17, j18, j20, ↓j25, ↓j27, ↓j29, ↓j30, j32, j33, ↓j38, ↓j39, ↓j40, ↓j42, ↓j43, ↓j45, ↓j48, ↓j76, ↓j79, j81, ↓j89, j130, ↓j145, ↓j146, ↓j147, ↓j149, ↓j151, ↓j153, j159, AV.proj, AV.offOf, AV.size, AV.sizeL, AV.layable, argEnv, j163, j164, j166, j167, j170, j171, j175, reduceCtorEq, ↓reduceIte, Nat.reduceAdd, Nat.reduceEqDiff, j182, j185, j196, j197, j240, j250, j330, hob, e1]
      exact ret 1 [] 4 _ _ _ fW.symm fN.symm rfl rfl (fun h => by simp at h)
    have e1 : decide (w.off < 0) = false := decide_eq_false c1
    by_cases c2 : 64 < w.off
    · have e2 : decide (64 < w.off) = true := decide_eq_true c2
      rw [if_pos (.inr (.inl c2))] at fW
      rw [fW, if_neg (by simp)] at fN
      simp -dsimp -implicitDefEqProofs only [↓j0, ↓j1, ↓j2, ↓j7, ↓j10, ↓j12, ↓j13, ↓j15, j17, j18, j20, ↓j25, ↓j27, ↓j29, ↓j30, j32, j33, ↓j38, ↓j39, ↓j40, ↓j42, ↓j43, ↓j45, ↓j48, ↓j76, ↓j79, j81, j83, ↓j89, j130, ↓j145, ↓j146, ↓j147, ↓j148, ↓j149, ↓j151, ↓j153, j159, j161, AV.proj, AV.offOf, AV.size, AV.sizeL, AV.layable, argEnv, j163, j164, j166, j167, j170, j171, j175, reduceCtorEq, ↓reduceIte, Nat.reduceAdd, Nat.reduceEqDiff, j182, j185, j195, j196, j197, j240, j250, j330, hob, e1, e2]
      exact ret 1 [] 4 _ _ _ fW.symm fN.symm rfl rfl (fun h => by simp at h)
    have e2 : decide (64 < w.off) = false := decide_eq_false c2
    have w1 : IntKind.i64.wrap (64 - w.off) = 64 - w.off := wrap_i64 (by omega) (by omega)
    by_cases c3 : 64 - w.off < (w.s.length : Int)
    · have e3 : decide (64 - w.off < (w.s.length : Int)) = true := decide_eq_true c3
      rw [if_pos (.inr (.inr c3))] at fW
      rw [fW, if_neg (by simp)] at fN
      simp -dsimp -implicitDefEqProofs only [↓j0, ↓j1, ↓j2, ↓j7, ↓j10, ↓j12, ↓j13, ↓j15, j17, j18, j20, ↓j25, ↓j27, ↓j29, ↓j30, j32, j33, ↓j38, ↓j39, ↓j40, ↓j42, ↓j43, ↓j45, ↓j48, ↓j58, ↓j59, ↓j76, ↓j79, j83, ↓j89, j130, j132, j141, ↓j145, ↓j146, ↓j147, ↓j148, ↓j149, ↓j151, ↓j153, j155, j159, j161, AV.proj, AV.offOf, AV.size, AV.sizeL, AV.layable, argEnv, j163, j164, j166, j167, j170, j171, j175, reduceCtorEq, ↓reduceIte, Nat.reduceAdd, Nat.reduceEqDiff, j182, j185, j195, j196, j197, j240, j250, j258, j259, j330, j333, hob, e1, e2, str_bytes, w1, e3]
      exact ret 1 [] 4 _ _ _ fW.symm fN.symm rfl rfl (fun h => by simp at h)
    have e3 : decide (64 - w.off < (w.s.length : Int)) = false := decide_eq_false c3
    rw [if_neg (by omega)] at fW
    simp -dsimp -implicitDefEqProofs only [↓j0, ↓j1, ↓j2, ↓j7, ↓j9, ↓j12, ↓j13, ↓j15, j17, j18, j20, ↓j25, ↓j27, ↓j29, ↓j30, j32, j33, ↓j38, ↓j39, ↓j40, ↓j42, ↓j43, ↓j45, ↓j48, ↓j53, ↓j58, ↓j59, ↓j76, ↓j79, j83, ↓j89, j130, j132, j141, ↓j145, ↓j146, ↓j148, ↓j149, ↓j151, ↓j153, j155, j159, j161, AV.proj, AV.offOf, AV.size, AV.sizeL, AV.layable, argEnv, j163, j164, j166, j167, j170, j171, j175, reduceCtorEq, ↓reduceIte, Nat.reduceAdd, Nat.reduceEqDiff, j182, j185, j195, j196, j197, j240, j250, j258, j259, j267, j324, j330, j333, hob, e1, e2, e3, str_bytes, w1]
    refine CallTo.gen (args := [.ptr 99 0 [], .int .u16 w.page]) ([(99, .cells (.agg [.nilsl]))]) ([(99, .cells (.agg [.nilsl]))]) 101 rfl fok19 (by simp -dsimp -implicitDefEqProofs only [↓j25, ↓j29, j173, j174, ↓reduceIte, Nat.reduceEqDiff]) (notup2 (fun vs h => by cases h) fun vs h => by cases h) hhs (SubH.of (by simp -dsimp -implicitDefEqProofs only [↓j27, ↓reduceIte, Nat.reduceEqDiff, j182, j204, j205])) ⟨by simp, put_any⟩ ?_
    have fW : rwriteP [] w = (0, [w]) := by rw [fW, if_neg (fun h => absurd h.2 (by decide))]; rfl
    rw [fW, if_pos rfl] at fN
    simp -dsimp -implicitDefEqProofs only [↓j0, ↓j1, ↓j7, ↓j12, ↓j13, ↓j14, ↓j15, ↓j16, j17, j18, j20, j21, j22, j23, ↓j25, ↓j27, ↓j29, ↓j30, j33, ↓j38, ↓j39, ↓j43, ↓j45, ↓j55, ↓j56, ↓j58, ↓j60, ↓j76, ↓j79, j84, j134, j144, ↓j145, ↓j146, ↓j147, ↓j149, ↓j153, AV.proj, AV.offOf, AV.sizeL, j163, j167, j170, j171, j173, j174, reduceCtorEq, ↓reduceIte, Nat.reduceEqDiff, j182, j194, j197, j313, j319, j432]
    refine AWp.loopR (Z := Z) mixed hZ (by kernel_rfl) (fun n s => s = ⟨80, [(36, .int .i64 0), (35, .int .i64 0), (5, .int .i64 0), (3, .ptr 100 0 []), (0, .ptr 99 0 []), (4, .int .i64 0)], [(100, woC' w), (99, .cells (.agg [.nilsl]))], 101⟩) (n0 := 0) (s0 := ⟨80, [(36, .int .i64 0), (35, .int .i64 0), (5, .int .i64 0), (3, .ptr 100 0 []), (0, .ptr 99 0 []), (4, .int .i64 0)], [(100, woC' w), (99, .cells (.agg [.nilsl]))], 101⟩) ?_ rfl ?_ rfl
    · exact Wk.sub (by simp -dsimp -implicitDefEqProofs only [↓j25, ↓j27, j179, reduceCtorEq, ↓reduceIte, Nat.reduceEqDiff, j182, j183, j184, j202, j203, j204, j205, j209, j223] <;> simp)
    rintro n s rfl
    refine ⟨rfl, ?_⟩
    have e1 : decide ((0 : Int) < 0) = false := rfl
    have e4 : decide ((4 : Int) ≤ 0) = false := rfl
    have u1 : Unif 67 [w.av] := unif_wos [w] (fun o ho => by simp only [List.mem_singleton] at ho; subst ho; exact hwo)
    have tk : List.take 1 (List.drop 0 [w.av]) = [w.av] := rfl
    simp -dsimp -implicitDefEqProofs only [↓j0, ↓j1, ↓j4, ↓j7, ↓j8, ↓j9, ↓j11, ↓j12, ↓j13, ↓j15, j17, j18, j20, j24, ↓j25, ↓j27, ↓j29, ↓j30, j33, ↓j38, ↓j43, ↓j45, ↓j48, ↓j51, ↓j56, ↓j74, ↓j76, ↓j79, ↓j89, j125, j126, j127, j128, j129, j134, ↓j145, ↓j146, ↓j148, ↓j149, ↓j153, j159, j162, partsAV, AV.proj, AV.offOf, AV.size, AV.sizeL, AV.layable, j163, j167, j169, j170, j171, j172, j173, j174, j179, j180, reduceCtorEq, ↓reduceIte, Nat.reduceAdd, Nat.reduceMul, Nat.reduceEqDiff, Nat.reduceLeDiff, Int.reduceLT, Int.reduceLE, j182, j183, j185, j192, j197, j213, j214, j215, j217, Nat.reducePow, List.replicate, j234, j240, j243, j313, j319, j321, j322, j405, hob]
    refine DoAppend_of rfl rfl at40 ?_
    simp -dsimp -implicitDefEqProofs only [↓j3, ↓j4, j17, j18, j19, j20, j21, j22, j23, j24, ↓j25, ↓j27, ↓j29, ↓j44, ↓j45, ↓j56, ↓j78, ↓j79, ↓j100, ↓j106, j107, ↓j145, ↓j146, ↓j148, ↓j153, AV.proj, AV.offOf, AV.upd, AV.size, AV.sizeL, AV.layable, j163, j166, j167, j169, j170, j171, j172, j173, j174, ↓reduceIte, Nat.reduceAdd, Nat.reduceMul, Nat.reduceEqDiff, Nat.reduceLeDiff, j182, j196, j197, j223, j227, j228, j230, j231, Nat.reduceBEq, j234, j312, j319, u1]
    refine ⟨by kernel_rfl, ?_⟩
    simp -dsimp -implicitDefEqProofs only [↓j0, ↓j1, ↓j7, ↓j10, ↓j12, ↓j15, j17, j18, j20, ↓j30, j33, ↓j39, ↓j145, j171]
    exact ret 0 [w] 102 _ _ _ fW.symm fN.symm rfl rfl fun _ => rfl
  | cons t0 r0 =>
    rw [← hl0]
    have hp : 0 < l.length := by rw [hl0]; simp
    clear hl0
    rw [rs_sl hp] at hhs ⊢
    by_cases c1 : w.off < 0
    · have e1 : decide (w.off < 0) = true := decide_eq_true c1
      rw [if_pos (.inl c1)] at fW
      rw [fW, if_neg (by simp)] at fN
      simp -dsimp -implicitDefEqProofs only [↓j0, ↓j1, ↓j2, ↓j7, ↓j10, ↓j12, ↓j13, ↓j15, j17, j18, j20, ↓j25, ↓j27, ↓j29, ↓j30, j32, j33, ↓j38, ↓j39, ↓j40, ↓j42, ↓j43, ↓j45, ↓j48, ↓j76, ↓j79, j81, ↓j89, j130, ↓j145, ↓j146, ↓j147, ↓j149, ↓j151, ↓j153, j159, AV.proj, AV.offOf, AV.size, AV.sizeL, AV.layable, argEnv, j163, j164, j166, j167, j170, j171, j175, reduceCtorEq, ↓reduceIte, Nat.reduceAdd, Nat.reduceEqDiff, j182, j185, j196, j197, j240, j250, j330, hob, slH, e1]
      exact ret 1 l 4 _ _ _ fW.symm fN.symm rfl (by rw [rsC, (wlV_ne hp 4).1]; rfl) (fun _ => rfl)
    have e1 : decide (w.off < 0) = false := decide_eq_false c1
    by_cases c2 : 64 < w.off
    · have e2 : decide (64 < w.off) = true := decide_eq_true c2
      rw [if_pos (.inr (.inl c2))] at fW
      rw [fW, if_neg (by simp)] at fN
      simp -dsimp -implicitDefEqProofs only [↓j0, ↓j1, ↓j2, ↓j7, ↓j10, ↓j12, ↓j13, ↓j15, j17, j18, j20, ↓j25, ↓j27, ↓j29, ↓j30, j32, j33, ↓j38, ↓j39, ↓j40, ↓j42, ↓j43, ↓j45, ↓j48, ↓j76, ↓j79, j81, j83, ↓j89, j130, ↓j145, ↓j146, ↓j147, ↓j148, ↓j149, ↓j151, ↓j153, j159, j161, AV.proj, AV.offOf, AV.size, AV.sizeL, AV.layable, argEnv, j163, j164, j166, j167, j170, j171, j175, reduceCtorEq, ↓reduceIte, Nat.reduceAdd, Nat.reduceEqDiff, j182, j185, j195, j196, j197, j240, j250, j330, hob, slH, e1, e2]
      exact ret 1 l 4 _ _ _ fW.symm fN.symm rfl (by rw [rsC, (wlV_ne hp 4).1]; rfl) (fun _ => rfl)
    have e2 : decide (64 < w.off) = false := decide_eq_false c2
    have w1 : IntKind.i64.wrap (64 - w.off) = 64 - w.off := wrap_i64 (by omega) (by omega)
    by_cases c3 : 64 - w.off < (w.s.length : Int)
    · have e3 : decide (64 - w.off < (w.s.length : Int)) = true := decide_eq_true c3
      rw [if_pos (.inr (.inr c3))] at fW
      rw [fW, if_neg (by simp)] at fN
      simp -dsimp -implicitDefEqProofs only [↓j0, ↓j1, ↓j2, ↓j7, ↓j10, ↓j12, ↓j13, ↓j15, j17, j18, j20, ↓j25, ↓j27, ↓j29, ↓j30, j32, j33, ↓j38, ↓j39, ↓j40, ↓j42, ↓j43, ↓j45, ↓j48, ↓j58, ↓j59, ↓j76, ↓j79, j83, ↓j89, j130, j132, j141, ↓j145, ↓j146, ↓j147, ↓j148, ↓j149, ↓j151, ↓j153, j155, j159, j161, AV.proj, AV.offOf, AV.size, AV.sizeL, AV.layable, argEnv, j163, j164, j166, j167, j170, j171, j175, reduceCtorEq, ↓reduceIte, Nat.reduceAdd, Nat.reduceEqDiff, j182, j185, j195, j196, j197, j240, j250, j258, j259, j330, j333, hob, slH, e1, e2, str_bytes, w1, e3]
      exact ret 1 l 4 _ _ _ fW.symm fN.symm rfl (by rw [rsC, (wlV_ne hp 4).1]; rfl) (fun _ => rfl)
    have e3 : decide (64 - w.off < (w.s.length : Int)) = false := decide_eq_false c3
    rw [if_neg (by omega)] at fW
    simp -dsimp -implicitDefEqProofs only [↓j0, ↓j1, ↓j2, ↓j7, ↓j9, ↓j12, ↓j13, ↓j15, j17, j18, j20, ↓j25, ↓j27, ↓j29, ↓j30, j32, j33, ↓j38, ↓j39, ↓j40, ↓j42, ↓j43, ↓j45, ↓j48, ↓j53, ↓j58, ↓j59, ↓j76, ↓j79, j83, ↓j89, j130, j132, j141, ↓j145, ↓j146, ↓j148, ↓j149, ↓j151, ↓j153, j155, j159, j161, AV.proj, AV.offOf, AV.size, AV.sizeL, AV.layable, argEnv, j163, j164, j166, j167, j170, j171, j175, reduceCtorEq, ↓reduceIte, Nat.reduceAdd, Nat.reduceEqDiff, j182, j185, j195, j196, j197, j240, j250, j258, j259, j267, j324, j330, j333, hob, slH, e1, e2, e3, str_bytes, w1]
    refine CallTo.gen (args := [.ptr 99 0 [], .int .u16 w.page]) (slH l 4) (slH l 4) 101 rfl fok19 (by simp -dsimp -implicitDefEqProofs only [↓j25, ↓j29, j173, j174, ↓reduceIte, Nat.reduceEqDiff]) (notup2 (fun vs h => by cases h) fun vs h => by cases h) hhs (SubH.of (by simp -dsimp -implicitDefEqProofs only [↓j27, ↓reduceIte, Nat.reduceEqDiff, j182, j204, j205, slH])) ⟨by simp, put_any⟩ ?_
    cases hb : hasP l w.page
    · skip
      rw [hb] at hhs
      have hdl := dist_le l []
      have hdl : (dist l).length ≤ l.length := by simpa [dist] using hdl
      simp -dsimp -implicitDefEqProofs only [↓j0, ↓j1, ↓j7, ↓j12, ↓j13, ↓j14, ↓j15, ↓j16, j17, j18, j20, j21, j22, j23, ↓j25, ↓j27, ↓j29, ↓j30, j33, ↓j38, ↓j39, ↓j43, ↓j45, ↓j55, ↓j56, ↓j58, ↓j61, ↓j76, ↓j79, j84, j135, j143, ↓j145, ↓j146, ↓j147, ↓j149, ↓j153, AV.proj, AV.offOf, AV.sizeL, j163, j167, j170, j171, j173, j174, reduceCtorEq, ↓reduceIte, Nat.reduceEqDiff, j182, j194, j197, j313, j319, j432, slH]
      refine AWp.loopR (Z := Z) mixed hZ (by kernel_rfl) (fun n s => ∃ i, i + n = l.length ∧ s = woSt l w i) (n0 := l.length) (s0 := woSt l w 0) ?_ ⟨0, by omega, rfl⟩ ?_ rfl
      · exact Wk.sub (by simp -dsimp -implicitDefEqProofs only [↓j25, ↓j27, j167, j179, reduceCtorEq, ↓reduceIte, Nat.reduceEqDiff, j182, j183, j184, j202, j203, j204, j205, j209, j223, woT, slH] <;> simp [dist, distL])
      rintro n s ⟨i, hi, rfl⟩
      refine ⟨rfl, ?_⟩
      have hdi := dist_le (l.take i) []
      have hdi : (dist (l.take i)).length ≤ i := by
        have h : (dist (l.take i)).length ≤ (l.take i).length := by simpa [dist] using hdi
        rw [List.length_take] at h; omega
      rcases Nat.lt_or_ge i l.length with hlt | hge
      · have g1 : decide ((i : Int) < (l.length : Int)) = true := decide_eq_true (by omega)
        obtain ⟨t, ht⟩ := list_get (xs := l) (i := i) hlt
        have hsz := (unif_wos l hl).sizeL_take (k := i) (by simp; omega)
        have hlt2 : (i : Int) < (l.length : Int) := by omega
        have hw : IntKind.i64.wrap ((i : Int) + 1) = ((i + 1 : Nat) : Int) := by rw [wrap_i64 (by omega) (by omega)]; omega
        have hds := dist_step ht
        obtain ⟨c, hc⟩ : ∃ c, (dist (l.take i)).length = c := ⟨_, rfl⟩
        have hcle : c ≤ i := by omega
        have hwc : IntKind.i64.wrap ((c : Int) + 1) = ((c + 1 : Nat) : Int) := by rw [wrap_i64 (by omega) (by omega)]; omega
        simp -dsimp -implicitDefEqProofs only [↓j0, ↓j1, ↓j7, ↓j9, ↓j12, ↓j13, ↓j14, ↓j15, ↓j16, j17, j18, j20, ↓j25, ↓j29, ↓j30, j32, j33, ↓j38, ↓j39, ↓j48, ↓j89, ↓j145, ↓j146, ↓j147, ↓j149, j159, j171, ↓reduceIte, Nat.reduceEqDiff, j185, woSt, woT, slH, hc, g1]
        refine AWp.loopR (Z := Z) mixed hZ (by kernel_rfl) (fun n s => ∃ k, k + n = i ∧ s = wiSt l w i c t.page k) (n0 := i) (s0 := wiSt l w i c t.page 0) ?_ ⟨0, by omega, rfl⟩ ?_ rfl
        · exact Wk.sub (by simp -dsimp -implicitDefEqProofs only [↓j25, ↓j27, j167, j179, reduceCtorEq, ↓reduceIte, Nat.reduceEqDiff, j182, j183, j184, j202, j203, j204, j205, j209, j210, j223, woT, slH] <;> simp [hasP])
        rintro m s ⟨k, hk, rfl⟩
        refine ⟨rfl, ?_⟩
        rcases Nat.lt_or_ge k i with hkt | hkg
        · have g2 : decide ((k : Int) < (i : Int)) = true := decide_eq_true (by omega)
          obtain ⟨u, hu⟩ := list_get (xs := l) (i := k) (by omega)
          have hszk := (unif_wos l hl).sizeL_take (k := k) (by simp; omega)
          have hkl2 : (k : Int) < (l.length : Int) := by omega
          have hw2 : IntKind.i64.wrap ((k : Int) + 1) = ((k + 1 : Nat) : Int) := by rw [wrap_i64 (by omega) (by omega)]; omega
          have hst := has_step (p := t.page) hu
          cases hbk : hasP (l.take k) t.page
          · rw [hbk, Bool.false_or] at hst
            have nf : (!false) = true := rfl
            by_cases hup : u.page = t.page
            · have g3 : ((u.page : Int) != (t.page : Int)) = false := by simp; omega
              have hst : hasP (l.take (k + 1)) t.page = true := by rw [hst, beq_iff_eq]; exact hup
              have nt : (!true) = false := rfl
              simp -dsimp -implicitDefEqProofs only [↓j0, ↓j1, ↓j3, ↓j4, ↓j5, ↓j7, ↓j8, ↓j9, ↓j12, ↓j13, ↓j14, ↓j15, j17, j18, j20, j24, ↓j25, ↓j27, ↓j29, ↓j30, j32, ↓j38, ↓j39, ↓j40, ↓j43, ↓j45, ↓j46, ↓j48, ↓j56, ↓j76, ↓j79, j83, ↓j89, ↓j93, j130, j135, ↓j145, ↓j146, ↓j147, ↓j149, ↓j150, ↓j153, j158, j159, AV.proj, AV.offOf, AV.sizeL, j163, j164, j167, j170, j171, j172, j174, j175, j177, reduceCtorEq, ↓reduceIte, Nat.reduceEqDiff, j182, j185, j196, j197, j206, j207, j208, j267, j313, j314, j319, j324, wiSt, woT, slH, g2, hbk, nf, hu, ht, hsz, hszk, hlt2, hkl2, g3]
              refine ⟨by kernel_rfl, ?_⟩
              simp -dsimp -implicitDefEqProofs only [↓j0, ↓j1, ↓j7, ↓j15, j17, j18, j20, ↓j25, ↓j29, ↓j30, j33, ↓j38, ↓j39, ↓j48, ↓j89, ↓j145, ↓j146, j154, j171, ↓reduceIte, Nat.reduceEqDiff, j185]
              exact ⟨m - 1, wiSt l w i c t.page (k + 1), by omega, ⟨k + 1, by omega, rfl⟩, Wk.sub (by simp -dsimp -implicitDefEqProofs only [↓j25, ↓j27, reduceCtorEq, ↓reduceIte, Nat.reduceEqDiff, j182, j202, j203, j204, j205, j223, woT, slH, hst, nt, hw2] <;> simp)⟩
            · have g3 : ((u.page : Int) != (t.page : Int)) = true := by simp; omega
              have hst : hasP (l.take (k + 1)) t.page = false := by rw [hst, beq_eq_false_iff_ne]; exact hup
              simp -dsimp -implicitDefEqProofs only [↓j0, ↓j1, ↓j3, ↓j4, ↓j5, ↓j7, ↓j8, ↓j9, ↓j12, ↓j13, ↓j14, ↓j15, j17, j18, j20, j24, ↓j25, ↓j27, ↓j29, ↓j30, j32, ↓j38, ↓j39, ↓j40, ↓j43, ↓j45, ↓j46, ↓j48, ↓j56, ↓j76, ↓j79, j83, ↓j89, ↓j93, j130, j135, ↓j145, ↓j146, ↓j147, ↓j149, ↓j150, ↓j153, j158, j159, AV.proj, AV.offOf, AV.sizeL, j163, j164, j167, j170, j171, j172, j174, j175, j177, reduceCtorEq, ↓reduceIte, Nat.reduceEqDiff, j182, j185, j196, j197, j206, j207, j208, j267, j313, j314, j319, j324, wiSt, woT, slH, g2, hbk, nf, hu, ht, hsz, hszk, hlt2, hkl2, g3]
              refine ⟨by kernel_rfl, ?_⟩
              simp -dsimp -implicitDefEqProofs only [↓j0, ↓j1, ↓j7, ↓j15, j17, j18, j20, ↓j25, ↓j29, ↓j30, j33, ↓j38, ↓j39, ↓j48, ↓j89, ↓j145, ↓j146, j154, j171, ↓reduceIte, Nat.reduceEqDiff, j185]
              exact ⟨m - 1, wiSt l w i c t.page (k + 1), by omega, ⟨k + 1, by omega, rfl⟩, Wk.sub (by simp -dsimp -implicitDefEqProofs only [↓j25, ↓j27, reduceCtorEq, ↓reduceIte, Nat.reduceEqDiff, j182, j202, j203, j204, j205, j223, woT, slH, hst, nf, hw2] <;> simp)⟩
          · have nt : (!true) = false := rfl
            rw [hbk, Bool.true_or] at hst
            simp -dsimp -implicitDefEqProofs only [↓j0, ↓j1, ↓j3, ↓j4, ↓j5, ↓j7, ↓j8, ↓j9, ↓j12, ↓j13, ↓j14, ↓j15, j17, j18, j20, j24, ↓j25, ↓j29, ↓j30, j32, ↓j38, ↓j39, ↓j40, ↓j48, j82, ↓j89, ↓j145, ↓j146, ↓j147, ↓j148, ↓j149, ↓j150, j159, j163, j164, j170, j171, j172, j174, j175, ↓reduceIte, Nat.reduceEqDiff, j185, wiSt, woT, slH, g2, hbk, nt]
            refine ⟨by kernel_rfl, ?_⟩
            simp -dsimp -implicitDefEqProofs only [↓j0, ↓j1, ↓j7, ↓j15, j17, j18, j20, ↓j25, ↓j29, ↓j30, j33, ↓j38, ↓j39, ↓j48, ↓j89, ↓j145, ↓j146, j154, j171, ↓reduceIte, Nat.reduceEqDiff, j185]
            exact ⟨m - 1, wiSt l w i c t.page (k + 1), by omega, ⟨k + 1, by omega, rfl⟩, Wk.sub (by simp -dsimp -implicitDefEqProofs only [↓j25, ↓j27, reduceCtorEq, ↓reduceIte, Nat.reduceEqDiff, j182, j202, j203, j204, j205, j223, woT, slH, hst, nt, hw2] <;> simp)⟩
        · have hki : k = i := by omega
          subst hki
          have g2 : decide ((k : Int) < (k : Int)) = false := decide_eq_false (by omega)
          cases hbk : hasP (l.take k) t.page
          · rw [hbk, if_neg Bool.false_ne_true] at hds
            have nf : (!false) = true := rfl
            have hd2 : (dist (l.take (k + 1))).length = c + 1 := by rw [hds, List.length_append, hc]; rfl
            simp -dsimp -implicitDefEqProofs only [↓j0, ↓j1, ↓j7, ↓j11, ↓j12, ↓j13, ↓j15, j17, j18, j20, ↓j25, ↓j29, ↓j30, j33, ↓j38, ↓j39, ↓j48, ↓j89, ↓j145, ↓j146, ↓j147, ↓j148, ↓j149, j154, j159, j171, ↓reduceIte, Nat.reduceEqDiff, j185, wiSt, woT, slH, g2, hbk, nf]
            exact ⟨n - 1, woSt l w (k + 1), by omega, ⟨k + 1, by omega, by simp only [woSt, woT, slH, hd2]⟩, Wk.sub (by simp -dsimp -implicitDefEqProofs only [↓j25, ↓j27, reduceCtorEq, ↓reduceIte, Nat.reduceEqDiff, j182, j202, j203, j204, j205, j223, woT, slH, hd2, hw, hwc] <;> simp)⟩
          · rw [hbk, if_pos rfl] at hds
            have nt : (!true) = false := rfl
            have hd2 : (dist (l.take (k + 1))).length = c := by rw [hds, hc]
            simp -dsimp -implicitDefEqProofs only [↓j0, ↓j1, ↓j7, ↓j9, ↓j11, ↓j12, ↓j13, ↓j15, j17, j18, j20, ↓j25, ↓j29, ↓j30, j33, ↓j38, ↓j48, ↓j89, ↓j145, ↓j146, ↓j148, ↓j149, j154, j159, j171, ↓reduceIte, Nat.reduceEqDiff, j185, wiSt, woT, slH, g2, hbk, nt]
            exact ⟨n - 1, woSt l w (k + 1), by omega, ⟨k + 1, by omega, by simp only [woSt, woT, slH, hd2]⟩, Wk.sub (by simp -dsimp -implicitDefEqProofs only [↓j25, ↓j27, reduceCtorEq, ↓reduceIte, Nat.reduceEqDiff, j182, j202, j203, j204, j205, j223, woT, slH, hd2, hw] <;> simp)⟩
      have hi2 : i = l.length := by omega
      subst hi2
      have g1 : decide ((l.length : Int) < (l.length : Int)) = false := decide_eq_false (by omega)
      have htk : l.take l.length = l := List.take_of_length_le (Nat.le_refl _)
      by_cases h4 : 4 ≤ (dist l).length
      · have g4 : decide ((4 : Int) ≤ (((dist l).length : Nat) : Int)) = true := decide_eq_true (by omega)
        rw [if_pos ⟨hb, h4⟩] at fW
        rw [fW, if_neg (by simp)] at fN
        simp -dsimp -implicitDefEqProofs only [↓j0, ↓j1, ↓j7, ↓j10, ↓j11, ↓j12, ↓j13, ↓j15, j17, j18, j20, ↓j25, ↓j29, ↓j30, j33, ↓j38, ↓j39, ↓j48, ↓j89, ↓j145, ↓j146, ↓j147, ↓j148, ↓j149, j159, j162, j171, ↓reduceIte, Nat.reduceEqDiff, j185, woSt, woT, slH, g1, htk, g4]
        exact ret 10 l 4 _ _ _ fW.symm fN.symm rfl (by rw [rsC, (wlV_ne hp 4).1]; rfl) fun _ => rfl
      have g4 : decide ((4 : Int) ≤ (((dist l).length : Nat) : Int)) = false := decide_eq_false (by omega)
      rw [if_neg (fun h => h4 h.2)] at fW
      rw [fW, if_pos rfl] at fN
      have u1 : Unif 67 [w.av] := unif_wos [w] (fun o ho => by simp only [List.mem_singleton] at ho; subst ho; exact hwo)
      have tk : List.take 1 (List.drop 0 [w.av]) = [w.av] := rfl
      have ul := unif_wos l hl
      have lt1 : List.take l.length (List.map Wo.av l) = List.map Wo.av l := List.take_of_length_le (by simp)
      have lt2 : List.map Wo.av l ++ [w.av] = List.map Wo.av (l ++ [w]) := by rw [List.map_append]; rfl
      obtain ⟨l2, hl2⟩ : ∃ l2, l ++ [w] = l2 := ⟨_, rfl⟩
      have hl2l : l.length + 1 = l2.length := by rw [← hl2]; simp
      rw [hl2] at lt2 fW
      simp -dsimp -implicitDefEqProofs only [↓j0, ↓j1, ↓j4, ↓j7, ↓j8, ↓j9, ↓j11, ↓j12, ↓j13, ↓j15, j17, j18, j20, j24, ↓j25, ↓j27, ↓j29, ↓j30, j33, ↓j38, ↓j43, ↓j45, ↓j48, ↓j51, ↓j56, ↓j74, ↓j76, ↓j79, ↓j89, j125, j126, j127, j128, j129, j135, ↓j145, ↓j146, ↓j148, ↓j149, ↓j153, j159, j162, partsAV, AV.proj, AV.offOf, AV.size, AV.sizeL, AV.layable, j163, j167, j169, j170, j171, j172, j173, j174, j179, j180, reduceCtorEq, ↓reduceIte, Nat.reduceAdd, Nat.reduceMul, Nat.reduceEqDiff, Nat.reduceLeDiff, j182, j183, j185, j197, j213, j214, j215, j217, Nat.reducePow, List.replicate, j234, j240, j243, j313, j319, j321, j322, j405, hob, slH, woSt, woT, g1, htk, g4]
      refine DoAppend_of rfl rfl at40 ?_
      simp -dsimp -implicitDefEqProofs only [↓j27, ↓j101, ↓j102, ↓j106, j107, ↓j145, ↓j146, ↓j153, AV.proj, AV.offOf, j166, ↓reduceIte, Nat.reduceEqDiff, Nat.reduceLeDiff, j182, j184, j188, j189, j196, j197, j213, j214, j215, j222, j223, j227, j228, j230, j231, j234, u1, ul]
      refine ⟨by omega, ?_⟩
      simp -dsimp -implicitDefEqProofs only [↓j3, ↓j4, j17, j18, j19, j20, j21, j22, j23, j24, ↓j25, ↓j27, ↓j29, ↓j44, ↓j45, ↓j56, ↓j78, ↓j79, ↓j145, ↓j146, ↓j153, AV.proj, AV.offOf, AV.upd, AV.size, AV.sizeL, AV.layable, j163, j166, j167, j169, j170, j171, j172, j173, j174, ↓reduceIte, Nat.reduceAdd, Nat.reduceEqDiff, j182, j196, j197, j227, j228, j230, j231, j312, j319, lt1, lt2, hl2l]
      refine ⟨by kernel_rfl, ?_⟩
      simp -dsimp -implicitDefEqProofs only [↓j0, ↓j1, ↓j7, ↓j10, ↓j12, ↓j15, j17, j18, j20, ↓j30, j33, ↓j39, ↓j145, j171]
      refine ret 0 l2 102 _ _ _ fW.symm fN.symm rfl ?_ fun _ => rfl
      rw [rsC, (wlV_ne (by omega) 102).1]; rfl
    · skip
      rw [hb] at hhs
      rw [if_neg (fun h => by rw [hb] at h; exact absurd h.1 (by simp))] at fW
      rw [fW, if_pos rfl] at fN
      have u1 : Unif 67 [w.av] := unif_wos [w] (fun o ho => by simp only [List.mem_singleton] at ho; subst ho; exact hwo)
      have tk : List.take 1 (List.drop 0 [w.av]) = [w.av] := rfl
      have ul := unif_wos l hl
      have lt1 : List.take l.length (List.map Wo.av l) = List.map Wo.av l := List.take_of_length_le (by simp)
      have lt2 : List.map Wo.av l ++ [w.av] = List.map Wo.av (l ++ [w]) := by rw [List.map_append]; rfl
      obtain ⟨l2, hl2⟩ : ∃ l2, l ++ [w] = l2 := ⟨_, rfl⟩
      have hl2l : l.length + 1 = l2.length := by rw [← hl2]; simp
      rw [hl2] at lt2 fW
      simp -dsimp -implicitDefEqProofs only [↓j0, ↓j1, ↓j4, ↓j8, ↓j9, ↓j12, ↓j13, ↓j15, j17, j18, j20, j21, j22, j23, j24, ↓j25, ↓j27, ↓j29, ↓j38, ↓j43, ↓j45, ↓j51, ↓j55, ↓j56, ↓j74, ↓j76, ↓j79, j84, j125, j126, j127, j128, j129, j135, ↓j145, ↓j146, ↓j148, ↓j149, ↓j153, partsAV, AV.proj, AV.offOf, AV.size, AV.sizeL, AV.layable, j163, j167, j169, j170, j171, j172, j173, j174, j179, j180, reduceCtorEq, ↓reduceIte, Nat.reduceAdd, Nat.reduceMul, Nat.reduceEqDiff, Nat.reduceLeDiff, j182, j183, j193, j197, j213, j214, j215, j217, Nat.reducePow, List.replicate, j234, j240, j243, j313, j319, j321, j322, j405, hob, slH]
      refine DoAppend_of rfl rfl at40 ?_
      simp -dsimp -implicitDefEqProofs only [↓j27, ↓j101, ↓j102, ↓j106, j107, ↓j145, ↓j146, ↓j153, AV.proj, AV.offOf, j166, ↓reduceIte, Nat.reduceEqDiff, Nat.reduceLeDiff, j182, j184, j188, j189, j196, j197, j213, j214, j215, j222, j223, j227, j228, j230, j231, j234, u1, ul]
      refine ⟨by omega, ?_⟩
      simp -dsimp -implicitDefEqProofs only [↓j3, ↓j4, j17, j18, j19, j20, j21, j22, j23, j24, ↓j25, ↓j27, ↓j29, ↓j44, ↓j45, ↓j56, ↓j78, ↓j79, ↓j145, ↓j146, ↓j153, AV.proj, AV.offOf, AV.upd, AV.size, AV.sizeL, AV.layable, j163, j166, j167, j169, j170, j171, j172, j173, j174, ↓reduceIte, Nat.reduceAdd, Nat.reduceEqDiff, j182, j196, j197, j227, j228, j230, j231, j312, j319, lt1, lt2, hl2l]
      refine ⟨by kernel_rfl, ?_⟩
      simp -dsimp -implicitDefEqProofs only [↓j0, ↓j1, ↓j7, ↓j10, ↓j12, ↓j15, j17, j18, j20, ↓j30, j33, ↓j39, ↓j145, j171]
      refine ret 0 l2 102 _ _ _ fW.symm fN.symm rfl ?_ fun _ => rfl
      rw [rsC, (wlV_ne (by omega) 102).1]; rfl
end Go.Proofs.Ytipbgaahpchhbaa
