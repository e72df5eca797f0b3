/- Where a slot goes. -/
import Derived.Test.YtlagoaggllhggaaA3
set_option linter.unusedVariables false
set_option linter.unusedSimpArgs false
namespace Go.Proofs.Ytlagoaggllhggaa
open Go Go.RowKit

def deadAt : List Old → Option Nat
  | [] => none
  | o :: r => if o.live then (deadAt r).map (· + 1) else some 0
theorem deadAt_some : ∀ {xs : List Old} {i : Nat} {o : Old}, (xs.take i).all (·.live) = true → xs[i]? = some o → o.live = false → deadAt xs = some i
  | [], i, o, _, h, _ => by simp at h
  | x :: xs, 0, o, _, h, hl => by
    simp at h; subst h; simp [deadAt, hl]
  | x :: xs, i + 1, o, ha, h, hl => by
    simp only [List.take_succ_cons, List.all_cons, Bool.and_eq_true] at ha
    have := deadAt_some (xs := xs) (i := i) ha.2 (by simpa using h) hl
    simp [deadAt, ha.1, this]
theorem deadAt_none : ∀ {xs : List Old}, xs.all (·.live) = true → deadAt xs = none
  | [], _ => rfl
  | x :: xs, h => by
    simp only [List.all_cons, Bool.and_eq_true] at h
    simp [deadAt, h.1, deadAt_none h.2]
def place (xs : List Old) (n : Int) : Int :=
  if n < 0 ∨ 66 < n ∨ may xs = false then -1 else
  match deadAt xs with
  | some i => if 224 < (sizeOf' xs : Int) + 10 + n then -1 else i
  | none => if xs.length = 15 ∨ 224 < (sizeOf' xs : Int) + 11 + n then -1 else xs.length

theorem args2 {lsn n : Int} {xs : List Old} {k : IntKind} : ∀ x, x ∈ [undoAV lsn xs, .int k n] → AV.on (fun _ => False) x ∧ ∀ vs, x ≠ .tuple vs := fun x hx => by
  simp only [List.mem_cons, List.not_mem_nil, or_false] at hx
  rcases hx with rfl | rfl
  · exact ⟨on_undo _ _ _, fun vs h => by cases h⟩
  · exact ⟨trivial, fun vs h => by cases h⟩
theorem fok25 : fnOk Try.prog 25 = true := by kernel_rfl
theorem may_len {xs : List Old} (h : may xs = true) : xs.length ≤ 15 ∧ sizeOf' xs ≤ 224 := by
  simp only [may, Bool.and_eq_true, decide_eq_true_eq] at h
  exact ⟨h.1.1.1, h.2⟩

def placeSt (lsn : Int) (xs : List Old) (n : Int) (i : Nat) : St := ⟨52, [(21, .int .i64 i), (20, .int .i64 xs.length), (19, rowAV xs), (2, .ptr 0 0 []), (1, .int .i64 n), (4, .int .i64 0)], [(0, .cells (undoAV lsn xs))], i + 1⟩

theorem place_spec (lsn : Int) (xs : List Old) (n : Int) (hl : xs.length ≤ 9223372036854775807) : ACall Try.prog 24 [undoAV lsn xs, .int .i64 n] [] (.int .i64 (place xs n)) [] := by
  refine ACall.run (Z := Z) (N := 52) mixed hZ Try.func24 rfl rfl (by kernel_rfl) (by simp) args2 0 ?_
  have ret : ∀ (b : Int) (t : Env) (H : Heap) (m : Nat), look t 4 = some (.int .i64 b) → b = place xs n → Final Try.prog Try.f24 (.int .i64 (place xs n)) [] .ret ⟨52, t, H, m⟩ := by
    intro b t H m h hb
    subst hb
    exact Final.one (.inr rfl) (r := .tmp 4) rfl ⟨h, fun vs h => by cases h⟩ (fun vs h => by cases h) (fun vs h => by cases h) (.same _ trivial)
  simp -dsimp -implicitDefEqProofs only [↓j0, ↓j1, ↓j2, ↓j7, ↓j12, ↓j15, j17, j18, j20, ↓j25, ↓j29, ↓j30, j33, ↓j38, ↓j39, ↓j42, ↓j48, ↓j89, ↓j145, ↓j146, ↓j151, j159, AV.layable, argEnv, j163, j164, j171, j172, j175, reduceCtorEq, ↓reduceIte, Nat.reduceEqDiff, j185, j196, Int.reduceNeg]
  refine ⟨fun h1 => ?_, fun h1 => ?_⟩
  · simp -dsimp -implicitDefEqProofs only [↓j0, ↓j1, ↓j2, ↓j7, ↓j10, ↓j12, ↓j13, ↓j15, j17, j18, j20, ↓j25, ↓j29, ↓j30, j32, j33, ↓j38, ↓j39, ↓j40, j81, ↓j145, ↓j147, ↓j149, ↓j151, j163, j164, j171, j175, ↓reduceIte, Nat.reduceEqDiff, Int.reduceNeg, h1]
    refine ret (-1) _ _ _ ?_ ?_
    · rfl
    · have := of_decide_eq_true h1
      rw [place, if_pos (by simp [this])]
  have h1' := of_decide_eq_false h1
  simp -dsimp -implicitDefEqProofs only [↓j1, ↓j2, j17, j18, j20, ↓j25, ↓j29, ↓j30, j32, j33, ↓j38, ↓j40, ↓j48, j83, ↓j89, ↓j145, ↓j146, ↓j148, ↓j151, j161, j163, j164, j171, j175, reduceCtorEq, ↓reduceIte, Nat.reduceEqDiff, j185, j195, h1]
  refine ⟨fun h2 => ?_, fun h2 => ?_⟩
  · simp -dsimp -implicitDefEqProofs only [↓j0, ↓j1, ↓j2, ↓j7, ↓j10, ↓j12, ↓j13, ↓j15, j17, j18, j20, ↓j25, ↓j29, ↓j30, j32, j33, ↓j39, ↓j40, j81, ↓j145, ↓j147, ↓j149, ↓j151, j163, j164, j171, j175, ↓reduceIte, Nat.reduceEqDiff, Int.reduceNeg, h2]
    refine ret (-1) _ _ _ ?_ ?_
    · rfl
    · have := of_decide_eq_true h2
      rw [place, if_pos (by simp [this])]
  have h2' := of_decide_eq_false h2
  simp -dsimp -implicitDefEqProofs only [↓j2, j17, j18, j20, ↓j25, ↓j27, ↓j29, ↓j43, ↓j53, ↓j76, j129, ↓j145, ↓j146, ↓j148, ↓j151, ↓j153, AV.proj, AV.offOf, AV.size, AV.sizeL, j163, j164, j171, j175, ↓reduceIte, Nat.reduceAdd, Nat.reduceEqDiff, j182, j197, j289, j290, h2]
  refine CallTo.pure (args := [undoAV lsn xs]) rfl fok25 (by simp -dsimp -implicitDefEqProofs only [↓j25, ↓j29, j173, j174, ↓reduceIte]) (fun x hx => (args1 x hx).2) (may_spec lsn xs hl) ?_
  cases hm : may xs
  · simp -dsimp -implicitDefEqProofs only [↓j0, ↓j1, ↓j2, ↓j7, ↓j10, ↓j12, ↓j13, ↓j15, j17, j18, j20, ↓j25, ↓j29, ↓j30, j32, j33, ↓j39, ↓j40, ↓j55, j83, j84, ↓j145, ↓j147, ↓j148, ↓j149, ↓j151, j163, j164, j171, j175, ↓reduceIte, Nat.reduceEqDiff, j194, j195, Int.reduceNeg]
    refine ret (-1) _ _ _ ?_ ?_
    · rfl
    · rw [place, if_pos (by simp [hm])]
  have hlen := may_len hm
  have hp : place xs n = match deadAt xs with
      | some i => if 224 < (sizeOf' xs : Int) + 10 + n then -1 else i
      | none => if xs.length = 15 ∨ 224 < (sizeOf' xs : Int) + 11 + n then -1 else xs.length := by
    rw [place, if_neg (by simp only [hm, Bool.true_eq_false, or_false]; omega)]
  have hsize := size_spec lsn xs (by omega)
  simp -dsimp -implicitDefEqProofs only [↓j0, ↓j1, ↓j2, ↓j7, ↓j9, ↓j12, ↓j13, ↓j14, ↓j15, ↓j16, j17, j18, j20, ↓j25, ↓j27, ↓j29, ↓j30, j32, j33, ↓j38, ↓j40, ↓j43, ↓j45, ↓j55, ↓j58, ↓j62, ↓j76, ↓j79, j83, j84, j133, j142, ↓j145, ↓j146, ↓j148, ↓j149, ↓j151, ↓j153, AV.proj, AV.offOf, AV.size, AV.sizeL, j163, j164, j166, j167, j171, j175, ↓reduceIte, Nat.reduceEqDiff, j182, j193, j195, j196, j197, Int.reduceNeg, j286, j295, j416]
  refine AWp.loopR (Z := Z) mixed hZ (by kernel_rfl) (fun k s => ∃ i, i + k = xs.length ∧ (xs.take i).all (·.live) = true ∧ s = placeSt lsn xs n i) (n0 := xs.length) (s0 := placeSt lsn xs n 0) ?_ ⟨0, by omega, by simp, rfl⟩ ?_ rfl
  · exact Wk.sub (by simp -dsimp -implicitDefEqProofs only [↓j25, ↓j27, j179, reduceCtorEq, ↓reduceIte, Nat.reduceEqDiff, j182, j183, j184, j196, j202, j203, j204, j205, j209, j223] <;> simp)
  · rintro k s ⟨i, hi, hall, rfl⟩
    refine ⟨rfl, ?_⟩
    simp -dsimp -implicitDefEqProofs only [placeSt, ↓j0, ↓j1, ↓j7, ↓j12, ↓j13, ↓j15, j17, j18, j20, ↓j25, ↓j29, ↓j48, ↓j89, ↓j145, ↓j146, ↓j149, j159, j171, ↓reduceIte, Nat.reduceEqDiff, j185, Int.reduceNeg]
    refine ⟨fun hlt => ?_, fun hge => ?_⟩
    · have hlt' : (i : Int) < (xs.length : Int) := of_decide_eq_true hlt
      obtain ⟨o, ho⟩ := list_get (xs := xs) (i := i) (by omega)
      have hsz := sizeL_olds xs i (by omega)
      have hw : IntKind.i64.wrap ((i : Int) + 1) = ((i + 1 : Nat) : Int) := by rw [wrap_i64 (by omega) (by omega)]; omega
      simp -dsimp -implicitDefEqProofs only [↓j0, ↓j1, ↓j7, ↓j9, ↓j12, ↓j13, ↓j14, ↓j15, j17, j18, j19, j20, j21, j22, j23, ↓j25, ↓j27, ↓j29, ↓j38, ↓j39, ↓j41, ↓j43, ↓j44, ↓j45, ↓j46, ↓j55, ↓j76, ↓j77, ↓j78, ↓j79, j84, ↓j92, j129, j131, ↓j145, ↓j146, ↓j149, ↓j153, AV.proj, AV.offOf, AV.upd, AV.size, AV.sizeL, AV.layable, j163, j167, j170, j171, j177, reduceCtorEq, ↓reduceIte, Nat.reduceAdd, Nat.reduceEqDiff, j182, j191, j197, Int.reduceNeg, j206, j207, j208, j224, j253, j287, j328, j329, j331, j380, ho, hlt', hsz]
      refine ⟨fun hd => ?_, fun hd => ?_⟩
      · have hd' : o.live = false := by simpa using hd
        rw [deadAt_some hall ho hd'] at hp
        simp -dsimp -implicitDefEqProofs only [↓j1, ↓j7, ↓j12, ↓j15, j17, j18, j20, ↓j25, ↓j27, ↓j29, ↓j43, ↓j53, ↓j76, j129, ↓j145, ↓j146, ↓j153, AV.proj, AV.offOf, AV.size, AV.sizeL, j171, reduceCtorEq, ↓reduceIte, Nat.reduceAdd, Nat.reduceEqDiff, j182, j194, j197, j289, j290, hd']
        refine CallTo.pure (args := [undoAV lsn xs]) rfl fok28 (by simp -dsimp -implicitDefEqProofs only [↓j25, ↓j29, j173, j174, ↓reduceIte]) (fun x hx => (args1 x hx).2) hsize ?_
        simp -dsimp -implicitDefEqProofs only [↓j0, ↓j1, ↓j13, j17, j18, j20, ↓j25, ↓j29, ↓j30, j33, ↓j38, ↓j48, ↓j89, ↓j145, ↓j146, ↓j149, j154, j161, j171, ↓reduceIte, Nat.reduceEqDiff, j185]
        have hw1 : IntKind.i64.wrap ((sizeOf' xs : Int) + 10) = (sizeOf' xs : Int) + 10 := wrap_i64 (by omega) (by omega)
        have hw2 : IntKind.i64.wrap ((sizeOf' xs : Int) + 10 + n) = (sizeOf' xs : Int) + 10 + n := wrap_i64 (by omega) (by omega)
        rw [hw1, hw2]
        refine ⟨fun hb => ?_, fun hb => ?_⟩
        · have hb' := of_decide_eq_true hb
          simp -dsimp -implicitDefEqProofs only [↓j0, ↓j1, ↓j7, ↓j10, ↓j12, ↓j15, j17, j18, j20, ↓j30, j33, ↓j39, ↓j145, j171, Int.reduceNeg, hb]
          refine ret (-1) _ _ _ ?_ ?_
          · rfl
          · rw [hp]; simp only; rw [if_pos hb']
        · have hb' := of_decide_eq_false hb
          simp -dsimp -implicitDefEqProofs only [↓j0, ↓j1, ↓j7, ↓j9, ↓j10, ↓j12, ↓j15, j17, j18, j20, ↓j25, ↓j29, ↓j38, ↓j39, ↓j145, j171, ↓reduceIte, Nat.reduceEqDiff, hb]
          refine ret i _ _ _ ?_ ?_
          · rfl
          · rw [hp]; simp only; rw [if_neg hb']
      · have hd' : o.live = true := by simpa using hd
        simp -dsimp -implicitDefEqProofs only [↓j0, ↓j1, ↓j7, ↓j9, ↓j15, j17, j18, j20, ↓j25, ↓j29, ↓j30, j33, ↓j38, ↓j48, ↓j89, ↓j145, ↓j146, j154, j171, ↓reduceIte, Nat.reduceEqDiff, j185, j193, hd']
        exact ⟨k - 1, placeSt lsn xs n (i + 1), by omega, ⟨i + 1, by omega, by rw [take_succ ho]; simp [hall, hd'], rfl⟩, Wk.sub (by simp -dsimp -implicitDefEqProofs only [↓j25, ↓j27, reduceCtorEq, ↓reduceIte, Nat.reduceAdd, Nat.reduceEqDiff, j182, j202, j203, j204, j205, j223, j224, hw] <;> simp)⟩
    · have hge' : ¬ (i : Int) < (xs.length : Int) := of_decide_eq_false hge
      have hx : xs.take i = xs := List.take_of_length_le (by omega)
      rw [hx] at hall
      rw [deadAt_none hall] at hp
      simp -dsimp -implicitDefEqProofs only [↓j1, ↓j2, ↓j7, ↓j11, ↓j12, ↓j15, j17, j18, j20, ↓j25, ↓j27, ↓j29, ↓j30, j33, ↓j38, ↓j43, ↓j45, ↓j48, ↓j58, ↓j62, ↓j76, ↓j79, ↓j89, j133, j142, ↓j145, ↓j146, ↓j151, ↓j153, j157, AV.proj, AV.offOf, AV.size, AV.sizeL, j163, j164, j166, j167, j171, j175, ↓reduceIte, Nat.reduceEqDiff, j182, j185, j196, j197, j286, j295, j416, hge]
      refine ⟨fun h15 => ?_, fun h15 => ?_⟩
      · simp -dsimp -implicitDefEqProofs only [↓j0, ↓j1, ↓j2, ↓j7, ↓j10, ↓j12, ↓j13, ↓j15, j17, j18, j20, ↓j25, ↓j29, ↓j30, j32, j33, ↓j39, ↓j40, j81, ↓j145, ↓j147, ↓j149, ↓j151, j163, j164, j171, j175, ↓reduceIte, Nat.reduceEqDiff, Int.reduceNeg, h15]
        have h15' : (xs.length : Int) = 15 := by simpa using h15
        refine ret (-1) _ _ _ ?_ ?_
        · rfl
        · rw [hp]; simp only; rw [if_pos (.inl (by omega))]
      · have h15' : ¬ (xs.length : Int) = 15 := by simpa using h15
        simp -dsimp -implicitDefEqProofs only [↓j2, j17, j18, j20, ↓j25, ↓j27, ↓j29, ↓j43, ↓j53, ↓j76, j129, ↓j145, ↓j146, ↓j148, ↓j151, ↓j153, AV.proj, AV.offOf, AV.size, AV.sizeL, j163, j164, j171, j175, ↓reduceIte, Nat.reduceAdd, Nat.reduceEqDiff, j182, j197, j289, j290, h15]
        refine CallTo.pure (args := [undoAV lsn xs]) rfl fok28 (by simp -dsimp -implicitDefEqProofs only [↓j25, ↓j29, j173, j174, ↓reduceIte]) (fun x hx => (args1 x hx).2) hsize ?_
        have hw1 : IntKind.i64.wrap ((sizeOf' xs : Int) + 11) = (sizeOf' xs : Int) + 11 := wrap_i64 (by omega) (by omega)
        have hw2 : IntKind.i64.wrap ((sizeOf' xs : Int) + 11 + n) = (sizeOf' xs : Int) + 11 + n := wrap_i64 (by omega) (by omega)
        simp -dsimp -implicitDefEqProofs only [↓j0, ↓j1, ↓j2, ↓j13, j17, j18, j20, ↓j25, ↓j29, ↓j30, j32, j33, ↓j38, ↓j40, ↓j48, j83, ↓j89, ↓j145, ↓j146, ↓j148, ↓j149, ↓j151, j154, j161, j163, j164, j171, j175, ↓reduceIte, Nat.reduceEqDiff, j185, j195, hw1, hw2]
        refine ⟨fun hb => ?_, fun hb => ?_⟩
        · have hb' := of_decide_eq_true hb
          simp -dsimp -implicitDefEqProofs only [↓j0, ↓j1, ↓j7, ↓j10, ↓j12, ↓j15, j17, j18, j20, ↓j30, j33, ↓j39, ↓j145, j171, Int.reduceNeg, hb]
          refine ret (-1) _ _ _ ?_ ?_
          · rfl
          · rw [hp]; simp only; rw [if_pos (.inr hb')]
        · have hb' := of_decide_eq_false hb
          simp -dsimp -implicitDefEqProofs only [↓j0, ↓j1, ↓j7, ↓j9, ↓j10, ↓j12, ↓j15, j17, j18, j20, ↓j25, ↓j27, ↓j29, ↓j39, ↓j43, ↓j45, ↓j58, ↓j62, ↓j76, ↓j79, j133, j142, ↓j145, ↓j146, ↓j153, AV.proj, AV.offOf, AV.size, AV.sizeL, j163, j164, j166, j167, j171, ↓reduceIte, Nat.reduceEqDiff, j182, j196, j197, j286, j295, j416, hb]
          refine ret xs.length _ _ _ ?_ ?_
          · rfl
          · rw [hp]; simp only; rw [if_neg (by omega)]
end Go.Proofs.Ytlagoaggllhggaa
