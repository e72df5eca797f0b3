/- May a page be so? -/
import Derived.Test.YtlagoaggllhggaaA1
set_option linter.unusedVariables false
set_option linter.unusedSimpArgs false
namespace Go.Proofs.Ytlagoaggllhggaa
open Go Go.RowKit

def Old.zero : Old := ⟨false, 0, 0, 0, 0, ⟨#[]⟩⟩
def Old.same (a b : Old) : Bool := (a.live == b.live) && ((a.page == b.page) && ((a.ts == b.ts) && ((a.rpage == b.rpage) && ((a.rslot == b.rslot) && (strEq a.delta b.delta && true)))))
theorem same_iff {a b : Old} : a.same b = true ↔ a = b := by
  cases a; cases b
  simp [Old.same, strEq_iff]
theorem same_self (a : Old) : a.same a = true := same_iff.2 rfl
theorem cellsEq_old (a b : Old) : cellsEq [.bool a.live, .int .u16 a.page, .int .u32 a.ts, .int .u16 a.rpage, .int .u8 a.rslot, .str a.delta] [.bool b.live, .int .u16 b.page, .int .u32 b.ts, .int .u16 b.rpage, .int .u8 b.rslot, .str b.delta] = some (a.same b) := by
  simp [cellsEq, scEq, Old.same]
theorem cellsEq_old0 (a : Old) : cellsEq [.bool a.live, .int .u16 a.page, .int .u32 a.ts, .int .u16 a.rpage, .int .u8 a.rslot, .str a.delta] [.bool false, .int .u16 0, .int .u32 0, .int .u16 0, .int .u8 0, .str ⟨#[]⟩] = some (a.same .zero) := cellsEq_old a .zero

def okOld (o : Old) : Bool := (o.live || o.same .zero) && decide (o.delta.size ≤ 66)
def lastOk (xs : List Old) : Bool := match xs[xs.length - 1]? with
  | some o => o.live
  | none => true
def may (xs : List Old) : Bool := decide (xs.length ≤ 15) && lastOk xs && xs.all okOld && decide (sizeOf' xs ≤ 224)

theorem fok28 : fnOk Try.prog 28 = true := by kernel_rfl
theorem cost_le {o : Old} (h : okOld o = true) : o.cost ≤ 76 := by
  simp only [okOld, Bool.and_eq_true, decide_eq_true_eq] at h
  simp only [Old.cost]; split <;> omega
theorem sizeOf_bound {xs : List Old} (h : xs.all okOld = true) : sizeOf' xs ≤ 16 + xs.length * 77 := by
  induction xs with
  | nil => simp [sizeOf']
  | cons o xs ih =>
    simp only [List.all_cons, Bool.and_eq_true] at h
    have := ih h.2
    have := cost_le h.1
    simp [sizeOf'] at *; omega

def maySt (lsn : Int) (xs : List Old) (i : Nat) : St := ⟨52, [(30, .int .i64 i), (29, .int .i64 xs.length), (28, rowAV xs), (1, .ptr 0 0 []), (2, .bool false)], [(0, .cells (undoAV lsn xs))], i + 1⟩

theorem may_spec (lsn : Int) (xs : List Old) (hl : xs.length ≤ 9223372036854775807) : ACall Try.prog 25 [undoAV lsn xs] [] (.bool (may xs)) [] := by
  refine ACall.run (Z := Z) (N := 52) mixed hZ Try.func25 rfl rfl (by kernel_rfl) (by simp) args1 0 ?_
  have ret : ∀ (b : Bool) (t : Env) (H : Heap) (m : Nat), look t 2 = some (.bool b) → b = may xs → Final Try.prog Try.f25 (.bool (may xs)) [] .ret ⟨52, t, H, m⟩ := by
    intro b t H m h hb
    subst hb
    exact Final.one (.inr rfl) (r := .tmp 2) rfl ⟨h, fun vs h => by cases h⟩ (fun vs h => by cases h) (fun vs h => by cases h) (.same _ trivial)
  simp -dsimp -implicitDefEqProofs only [↓j0, ↓j1, ↓j2, ↓j7, ↓j12, ↓j15, j17, j18, j20, ↓j25, ↓j27, ↓j29, ↓j30, j32, j33, ↓j38, ↓j39, ↓j42, ↓j43, ↓j45, ↓j48, ↓j58, ↓j62, ↓j76, ↓j79, ↓j89, j133, j142, ↓j145, ↓j146, ↓j151, ↓j153, j161, AV.proj, AV.offOf, AV.size, AV.sizeL, AV.layable, argEnv, j163, j164, j166, j167, j171, j172, j175, ↓reduceIte, Nat.reduceEqDiff, j182, j185, j196, j197, j286, j295, j416]
  refine ⟨fun h15 => ?_, fun h15 => ?_⟩
  · simp -dsimp -implicitDefEqProofs only [↓j0, ↓j1, ↓j2, ↓j7, ↓j10, ↓j12, ↓j13, ↓j15, j17, j18, j20, ↓j25, ↓j29, ↓j30, j32, ↓j39, ↓j40, j81, ↓j145, ↓j147, ↓j149, ↓j151, ↓j152, j163, j164, j171, j175, ↓reduceIte, Nat.reduceEqDiff, h15]
    refine ret false _ _ _ ?_ ?_
    · rfl
    · have := of_decide_eq_true h15
      have h2 : ¬ (xs.length ≤ 15) := by omega
      simp [may, h2]
  have h15' := of_decide_eq_false h15
  have hle : xs.length ≤ 15 := by omega
  have inv : ∀ (i : Nat) (o : Old), xs[i]? = some o → (okOld o = false → false = may xs) := by
    intro i o ho hk
    have : xs.all okOld = false := by
      rw [List.all_eq_false]
      exact ⟨o, List.mem_of_getElem? ho, by simp [hk]⟩
    simp [may, this]
  simp -dsimp -implicitDefEqProofs only [↓j2, j17, j18, j20, ↓j25, ↓j27, ↓j29, ↓j30, j33, ↓j38, ↓j43, ↓j45, ↓j48, ↓j58, ↓j62, ↓j76, ↓j79, ↓j89, j133, j142, ↓j145, ↓j146, ↓j148, ↓j150, ↓j151, ↓j153, j161, AV.proj, AV.offOf, AV.size, AV.sizeL, j163, j164, j166, j167, j171, j175, ↓reduceIte, Nat.reduceEqDiff, j182, j185, j196, j197, j286, j295, j416, h15]
  refine ⟨fun h0 => ?_, fun h0 => ?_⟩
  · have h0' := of_decide_eq_true h0
    obtain ⟨o, ho⟩ := list_get (xs := xs) (i := xs.length - 1) (by omega)
    have hw : IntKind.i64.wrap ((xs.length : Int) - 1) = ((xs.length - 1 : Nat) : Int) := by rw [wrap_i64 (by omega) (by omega)]; omega
    have hlt : ((xs.length - 1 : Nat) : Int) < (xs.length : Int) := by omega
    have hsz := sizeL_olds xs (xs.length - 1) (by omega)
    simp -dsimp -implicitDefEqProofs only [↓j0, ↓j1, ↓j2, ↓j13, j17, j18, j20, ↓j25, ↓j27, ↓j29, ↓j30, j32, j33, ↓j40, ↓j43, ↓j45, ↓j46, ↓j48, ↓j55, ↓j58, ↓j62, ↓j76, ↓j77, ↓j79, ↓j80, j83, j84, ↓j89, ↓j92, j131, j133, j142, ↓j145, ↓j146, ↓j147, ↓j148, ↓j149, ↓j150, ↓j151, ↓j153, j155, AV.proj, AV.offOf, AV.size, AV.sizeL, j163, j164, j166, j167, j170, j171, j175, j177, ↓reduceIte, Nat.reduceEqDiff, j182, j185, j195, j196, j197, j206, j207, j208, j253, j286, j287, j295, j331, j416, h0, hw, hlt, ho, hsz]
    have hlast : lastOk xs = o.live := by simp [lastOk, ho]
    cases hl0 : o.live
    · simp -dsimp -implicitDefEqProofs only [↓j0, ↓j1, ↓j7, ↓j10, ↓j12, ↓j15, j17, j18, j20, ↓j30, j32, ↓j39, ↓j145, ↓j147, j171, j194]
      refine ret false _ _ _ ?_ ?_
      · rfl
      · rw [hl0] at hlast; simp [may, hlast]
    · simp -dsimp -implicitDefEqProofs only [↓j0, ↓j1, ↓j7, ↓j9, ↓j12, ↓j14, ↓j15, ↓j16, j17, j18, j20, ↓j25, ↓j27, ↓j29, ↓j30, j33, ↓j38, ↓j43, ↓j45, ↓j58, ↓j62, ↓j76, ↓j79, j133, j142, ↓j145, ↓j146, ↓j148, ↓j153, AV.proj, AV.offOf, AV.size, AV.sizeL, j163, j164, j166, j167, j171, ↓reduceIte, Nat.reduceEqDiff, j182, j193, j196, j197, j286, j295, j416]
      rw [hl0] at hlast
      refine AWp.loopR (Z := Z) mixed hZ (by kernel_rfl) (fun n s => ∃ i, i + n = xs.length ∧ (xs.take i).all okOld = true ∧ s = maySt lsn xs i) (n0 := xs.length) (s0 := maySt lsn xs 0) ?_ ⟨0, by omega, by simp, rfl⟩ ?_ rfl
      · exact Wk.sub (by simp -dsimp -implicitDefEqProofs only [↓j25, ↓j27, j179, ↓reduceIte, Nat.reduceEqDiff, j182, j183, j184, j196, j202, j203, j204, j205, j209, j223] <;> simp)
      · rintro n s ⟨i, hi, hall, rfl⟩
        refine ⟨rfl, ?_⟩
        simp -dsimp -implicitDefEqProofs only [maySt, ↓j0, ↓j1, ↓j7, ↓j12, ↓j13, ↓j15, j17, j18, j20, ↓j25, ↓j29, ↓j48, ↓j89, ↓j145, ↓j146, ↓j149, j159, j171, ↓reduceIte, Nat.reduceEqDiff, j185]
        refine ⟨fun hlt => ?_, fun hge => ?_⟩
        · have hlt' : (i : Int) < (xs.length : Int) := of_decide_eq_true hlt
          obtain ⟨o, ho⟩ := list_get (xs := xs) (i := i) (by omega)
          have hsz := sizeL_olds xs i (by omega)
          have hw : IntKind.i64.wrap ((i : Int) + 1) = ((i + 1 : Nat) : Int) := by rw [wrap_i64 (by omega) (by omega)]; omega
          have bad := inv i o ho
          have good : okOld o = true → (xs.take (i + 1)).all okOld = true := fun h => by rw [take_succ ho]; simp [hall, h]
          have next : okOld o = true → ∀ s', Wk s' (maySt lsn xs (i + 1)) → ∃ m s'', m < n ∧ (∃ i, i + m = xs.length ∧ (xs.take i).all okOld = true ∧ s'' = maySt lsn xs i) ∧ Wk s' s'' :=
            fun hk s' hw => ⟨n - 1, maySt lsn xs (i + 1), by omega, ⟨i + 1, by omega, good hk, rfl⟩, hw⟩
          have hs0 : o.live = false → (okOld o = (o.same .zero && decide (o.delta.size ≤ 66))) := fun h => by simp [okOld, h]
          have hs1 : o.live = true → (okOld o = decide (o.delta.size ≤ 66)) := fun h => by simp [okOld, h]
          simp -dsimp -implicitDefEqProofs only [↓j0, ↓j1, ↓j2, ↓j7, ↓j9, ↓j12, ↓j14, ↓j15, j17, j18, j19, j20, j21, j22, j23, ↓j25, ↓j27, ↓j29, ↓j38, ↓j41, ↓j43, ↓j44, ↓j45, ↓j46, ↓j55, ↓j76, ↓j77, ↓j78, ↓j79, j84, ↓j92, j129, j131, ↓j145, ↓j146, ↓j150, ↓j153, AV.proj, AV.offOf, AV.upd, AV.size, AV.sizeL, AV.layable, j163, j164, j167, j170, j171, j175, j177, reduceCtorEq, ↓reduceIte, Nat.reduceAdd, Nat.reduceEqDiff, j182, j191, j197, j206, j207, j208, j224, j253, j287, j328, j329, j331, j380, ho, hlt', hsz]
          have hk := cellsEq_old0 o
          refine ⟨fun hl => ?_, fun hl => ?_⟩
          · have hl : o.live = false := by simpa using hl
            rw [hl] at hk
            simp -dsimp -implicitDefEqProofs only [↓j1, ↓j2, j17, j18, j20, ↓j25, ↓j27, ↓j29, ↓j30, j32, ↓j38, ↓j40, ↓j43, ↓j48, ↓j54, ↓j76, j83, ↓j91, ↓j124, j125, j127, j129, ↓j145, ↓j146, ↓j147, ↓j150, ↓j151, ↓j153, partsAV, AV.proj, AV.offOf, AV.size, AV.sizeL, AV.layable, AV.flat, AV.flatL, j163, j164, j170, j171, j172, j173, j174, j175, ↓reduceIte, Nat.reduceAdd, Nat.reduceEqDiff, j182, j194, j197, j212, kindOf, j214, j218, j219, j328, j329, j345, j346, j400, hl, hk]
            refine ⟨fun hz => ?_, fun hz => ?_⟩
            · have hz' : o.same .zero = false := by simpa using hz
              simp -dsimp -implicitDefEqProofs only [↓j0, ↓j1, ↓j2, ↓j7, ↓j10, ↓j12, ↓j13, ↓j15, j17, j18, j20, ↓j25, ↓j29, ↓j30, j32, ↓j39, ↓j40, j81, ↓j145, ↓j147, ↓j149, ↓j151, j163, j164, j171, j175, ↓reduceIte, Nat.reduceEqDiff, j194, hz']
              refine ret false _ _ _ ?_ ?_
              · rfl
              · exact bad (by simp [okOld, hl, hz'])
            have hz' : o.same .zero = true := by simpa using hz
            simp -dsimp -implicitDefEqProofs only [↓j0, ↓j1, ↓j2, ↓j13, j17, j18, j20, ↓j25, ↓j27, ↓j29, ↓j30, j32, j33, ↓j40, ↓j43, ↓j45, ↓j48, ↓j58, ↓j59, ↓j76, ↓j79, j83, ↓j89, j132, j141, ↓j145, ↓j146, ↓j148, ↓j149, ↓j151, ↓j153, j161, AV.proj, AV.offOf, AV.size, AV.sizeL, j163, j164, j166, j167, j171, j175, ↓reduceIte, Nat.reduceAdd, Nat.reduceEqDiff, j182, j185, j193, j195, j196, j197, j258, j259, j343, hz']
            refine ⟨fun hd => ?_, fun hd => ?_⟩
            · have hd' := of_decide_eq_true hd
              simp -dsimp -implicitDefEqProofs only [↓j0, ↓j1, ↓j7, ↓j10, ↓j12, ↓j15, j17, j18, j20, ↓j30, j32, ↓j39, ↓j145, j171, hd]
              refine ret false _ _ _ ?_ ?_
              · rfl
              · exact bad (by simp only [okOld, Bool.and_eq_false_iff, decide_eq_false_iff_not]; right; omega)
            · have hd' := of_decide_eq_false hd
              simp -dsimp -implicitDefEqProofs only [↓j0, ↓j1, ↓j7, ↓j9, ↓j15, j17, j18, j20, ↓j25, ↓j29, ↓j30, j33, ↓j38, ↓j48, ↓j89, ↓j145, ↓j146, j154, j171, ↓reduceIte, Nat.reduceEqDiff, j185, hd]
              exact next (by simp only [okOld, hl, hz', Bool.and_eq_true, decide_eq_true_eq]; exact ⟨by simp, by omega⟩) _ (Wk.sub (by simp -dsimp -implicitDefEqProofs only [↓j25, ↓j27, reduceCtorEq, ↓reduceIte, Nat.reduceAdd, Nat.reduceEqDiff, j182, j202, j203, j204, j205, j223, j224, hw] <;> simp))
          · have hl : o.live = true := by simpa using hl
            rw [hl] at hk
            simp -dsimp -implicitDefEqProofs only [↓j0, ↓j1, ↓j2, ↓j13, j17, j18, j20, ↓j25, ↓j27, ↓j29, ↓j30, j32, j33, ↓j38, ↓j40, ↓j43, ↓j45, ↓j48, ↓j58, ↓j59, ↓j76, ↓j79, j82, j83, ↓j89, j132, j141, ↓j145, ↓j146, ↓j148, ↓j149, ↓j150, ↓j151, ↓j153, j161, AV.proj, AV.offOf, AV.size, AV.sizeL, j163, j164, j166, j167, j171, j175, ↓reduceIte, Nat.reduceAdd, Nat.reduceEqDiff, j182, j185, j193, j195, j196, j197, j258, j259, j343, hl]
            refine ⟨fun hd => ?_, fun hd => ?_⟩
            · have hd' := of_decide_eq_true hd
              simp -dsimp -implicitDefEqProofs only [↓j0, ↓j1, ↓j7, ↓j10, ↓j12, ↓j15, j17, j18, j20, ↓j30, j32, ↓j39, ↓j145, j171, hd]
              refine ret false _ _ _ ?_ ?_
              · rfl
              · exact bad (by simp only [okOld, Bool.and_eq_false_iff, decide_eq_false_iff_not]; right; omega)
            · have hd' := of_decide_eq_false hd
              simp -dsimp -implicitDefEqProofs only [↓j0, ↓j1, ↓j7, ↓j9, ↓j15, j17, j18, j20, ↓j25, ↓j29, ↓j30, j33, ↓j38, ↓j48, ↓j89, ↓j145, ↓j146, j154, j171, ↓reduceIte, Nat.reduceEqDiff, j185, hd]
              exact next (by simp only [okOld, hl, Bool.and_eq_true, decide_eq_true_eq]; exact ⟨by simp, by omega⟩) _ (Wk.sub (by simp -dsimp -implicitDefEqProofs only [↓j25, ↓j27, reduceCtorEq, ↓reduceIte, Nat.reduceAdd, Nat.reduceEqDiff, j182, j202, j203, j204, j205, j223, j224, hw] <;> simp))
        · have hge' : ¬ (i : Int) < (xs.length : Int) := of_decide_eq_false hge
          have hx : xs.take i = xs := List.take_of_length_le (by omega)
          rw [hx] at hall
          simp -dsimp -implicitDefEqProofs only [↓j1, ↓j7, ↓j11, ↓j12, ↓j15, j17, j18, j20, ↓j25, ↓j27, ↓j29, ↓j43, ↓j53, ↓j76, j129, ↓j145, ↓j146, ↓j153, AV.proj, AV.offOf, AV.size, AV.sizeL, j171, ↓reduceIte, Nat.reduceAdd, Nat.reduceEqDiff, j182, j197, j289, j290, hge]
          refine CallTo.pure (args := [undoAV lsn xs]) rfl fok28 (by simp -dsimp -implicitDefEqProofs only [↓j25, ↓j29, j173, j174, ↓reduceIte]) (fun x hx => (args1 x hx).2) (size_spec lsn xs (by have := sizeOf_bound hall; omega)) ?_
          simp -dsimp -implicitDefEqProofs only [↓j0, ↓j1, ↓j10, j17, j18, j20, ↓j25, ↓j29, ↓j30, j33, ↓j39, ↓j48, ↓j89, ↓j145, ↓j146, j160, j171, ↓reduceIte, j185]
          refine ret (decide (sizeOf' xs ≤ 224)) _ _ _ ?_ ?_
          · simp -dsimp -implicitDefEqProofs only [↓j25, j179, ↓reduceIte, j210]
            exact decide_eq_decide.2 (by omega)
          · simp [may, hle, hlast, hall]
  · have h0' := of_decide_eq_false h0
    have hlast : lastOk xs = true := by
      have : xs = [] := List.eq_nil_of_length_eq_zero (by omega)
      subst this; rfl
    simp -dsimp -implicitDefEqProofs only [↓j0, ↓j1, ↓j2, ↓j7, ↓j9, ↓j12, ↓j13, ↓j14, ↓j15, ↓j16, j17, j18, j20, ↓j25, ↓j27, ↓j29, ↓j30, j32, j33, ↓j38, ↓j40, ↓j43, ↓j45, ↓j58, ↓j62, ↓j76, ↓j79, j82, j83, j133, j142, ↓j145, ↓j146, ↓j148, ↓j149, ↓j150, ↓j151, ↓j153, AV.proj, AV.offOf, AV.size, AV.sizeL, j163, j164, j166, j167, j171, j175, ↓reduceIte, Nat.reduceEqDiff, j182, j195, j196, j197, j286, j295, j416, h0]
    refine AWp.loopR (Z := Z) mixed hZ (by kernel_rfl) (fun n s => ∃ i, i + n = xs.length ∧ (xs.take i).all okOld = true ∧ s = maySt lsn xs i) (n0 := xs.length) (s0 := maySt lsn xs 0) ?_ ⟨0, by omega, by simp, rfl⟩ ?_ rfl
    · exact Wk.sub (by simp -dsimp -implicitDefEqProofs only [↓j25, ↓j27, j179, ↓reduceIte, Nat.reduceEqDiff, j182, j183, j184, j196, j202, j203, j204, j205, j209, j223] <;> simp)
    · rintro n s ⟨i, hi, hall, rfl⟩
      refine ⟨rfl, ?_⟩
      simp -dsimp -implicitDefEqProofs only [maySt, ↓j0, ↓j1, ↓j7, ↓j12, ↓j13, ↓j15, j17, j18, j20, ↓j25, ↓j29, ↓j48, ↓j89, ↓j145, ↓j146, ↓j149, j159, j171, ↓reduceIte, Nat.reduceEqDiff, j185]
      refine ⟨fun hlt => ?_, fun hge => ?_⟩
      · have hlt' : (i : Int) < (xs.length : Int) := of_decide_eq_true hlt
        obtain ⟨o, ho⟩ := list_get (xs := xs) (i := i) (by omega)
        have hsz := sizeL_olds xs i (by omega)
        have hw : IntKind.i64.wrap ((i : Int) + 1) = ((i + 1 : Nat) : Int) := by rw [wrap_i64 (by omega) (by omega)]; omega
        have bad := inv i o ho
        have good : okOld o = true → (xs.take (i + 1)).all okOld = true := fun h => by rw [take_succ ho]; simp [hall, h]
        have next : okOld o = true → ∀ s', Wk s' (maySt lsn xs (i + 1)) → ∃ m s'', m < n ∧ (∃ i, i + m = xs.length ∧ (xs.take i).all okOld = true ∧ s'' = maySt lsn xs i) ∧ Wk s' s'' :=
          fun hk s' hw => ⟨n - 1, maySt lsn xs (i + 1), by omega, ⟨i + 1, by omega, good hk, rfl⟩, hw⟩
        have hs0 : o.live = false → (okOld o = (o.same .zero && decide (o.delta.size ≤ 66))) := fun h => by simp [okOld, h]
        have hs1 : o.live = true → (okOld o = decide (o.delta.size ≤ 66)) := fun h => by simp [okOld, h]
        simp -dsimp -implicitDefEqProofs only [↓j0, ↓j1, ↓j2, ↓j7, ↓j9, ↓j12, ↓j14, ↓j15, j17, j18, j19, j20, j21, j22, j23, ↓j25, ↓j27, ↓j29, ↓j38, ↓j41, ↓j43, ↓j44, ↓j45, ↓j46, ↓j55, ↓j76, ↓j77, ↓j78, ↓j79, j84, ↓j92, j129, j131, ↓j145, ↓j146, ↓j150, ↓j153, AV.proj, AV.offOf, AV.upd, AV.size, AV.sizeL, AV.layable, j163, j164, j167, j170, j171, j175, j177, reduceCtorEq, ↓reduceIte, Nat.reduceAdd, Nat.reduceEqDiff, j182, j191, j197, j206, j207, j208, j224, j253, j287, j328, j329, j331, j380, ho, hlt', hsz]
        have hk := cellsEq_old0 o
        refine ⟨fun hl => ?_, fun hl => ?_⟩
        · have hl : o.live = false := by simpa using hl
          rw [hl] at hk
          simp -dsimp -implicitDefEqProofs only [↓j1, ↓j2, j17, j18, j20, ↓j25, ↓j27, ↓j29, ↓j30, j32, ↓j38, ↓j40, ↓j43, ↓j48, ↓j54, ↓j76, j83, ↓j91, ↓j124, j125, j127, j129, ↓j145, ↓j146, ↓j147, ↓j150, ↓j151, ↓j153, partsAV, AV.proj, AV.offOf, AV.size, AV.sizeL, AV.layable, AV.flat, AV.flatL, j163, j164, j170, j171, j172, j173, j174, j175, ↓reduceIte, Nat.reduceAdd, Nat.reduceEqDiff, j182, j194, j197, j212, kindOf, j214, j218, j219, j328, j329, j345, j346, j400, hl, hk]
          refine ⟨fun hz => ?_, fun hz => ?_⟩
          · have hz' : o.same .zero = false := by simpa using hz
            simp -dsimp -implicitDefEqProofs only [↓j0, ↓j1, ↓j2, ↓j7, ↓j10, ↓j12, ↓j13, ↓j15, j17, j18, j20, ↓j25, ↓j29, ↓j30, j32, ↓j39, ↓j40, j81, ↓j145, ↓j147, ↓j149, ↓j151, j163, j164, j171, j175, ↓reduceIte, Nat.reduceEqDiff, j194, hz']
            refine ret false _ _ _ ?_ ?_
            · rfl
            · exact bad (by simp [okOld, hl, hz'])
          have hz' : o.same .zero = true := by simpa using hz
          simp -dsimp -implicitDefEqProofs only [↓j0, ↓j1, ↓j2, ↓j13, j17, j18, j20, ↓j25, ↓j27, ↓j29, ↓j30, j32, j33, ↓j40, ↓j43, ↓j45, ↓j48, ↓j58, ↓j59, ↓j76, ↓j79, j83, ↓j89, j132, j141, ↓j145, ↓j146, ↓j148, ↓j149, ↓j151, ↓j153, j161, AV.proj, AV.offOf, AV.size, AV.sizeL, j163, j164, j166, j167, j171, j175, ↓reduceIte, Nat.reduceAdd, Nat.reduceEqDiff, j182, j185, j193, j195, j196, j197, j258, j259, j343, hz']
          refine ⟨fun hd => ?_, fun hd => ?_⟩
          · have hd' := of_decide_eq_true hd
            simp -dsimp -implicitDefEqProofs only [↓j0, ↓j1, ↓j7, ↓j10, ↓j12, ↓j15, j17, j18, j20, ↓j30, j32, ↓j39, ↓j145, j171, hd]
            refine ret false _ _ _ ?_ ?_
            · rfl
            · exact bad (by simp only [okOld, Bool.and_eq_false_iff, decide_eq_false_iff_not]; right; omega)
          · have hd' := of_decide_eq_false hd
            simp -dsimp -implicitDefEqProofs only [↓j0, ↓j1, ↓j7, ↓j9, ↓j15, j17, j18, j20, ↓j25, ↓j29, ↓j30, j33, ↓j38, ↓j48, ↓j89, ↓j145, ↓j146, j154, j171, ↓reduceIte, Nat.reduceEqDiff, j185, hd]
            exact next (by simp only [okOld, hl, hz', Bool.and_eq_true, decide_eq_true_eq]; exact ⟨by simp, by omega⟩) _ (Wk.sub (by simp -dsimp -implicitDefEqProofs only [↓j25, ↓j27, reduceCtorEq, ↓reduceIte, Nat.reduceAdd, Nat.reduceEqDiff, j182, j202, j203, j204, j205, j223, j224, hw] <;> simp))
        · have hl : o.live = true := by simpa using hl
          rw [hl] at hk
          simp -dsimp -implicitDefEqProofs only [↓j0, ↓j1, ↓j2, ↓j13, j17, j18, j20, ↓j25, ↓j27, ↓j29, ↓j30, j32, j33, ↓j38, ↓j40, ↓j43, ↓j45, ↓j48, ↓j58, ↓j59, ↓j76, ↓j79, j82, j83, ↓j89, j132, j141, ↓j145, ↓j146, ↓j148, ↓j149, ↓j150, ↓j151, ↓j153, j161, AV.proj, AV.offOf, AV.size, AV.sizeL, j163, j164, j166, j167, j171, j175, ↓reduceIte, Nat.reduceAdd, Nat.reduceEqDiff, j182, j185, j193, j195, j196, j197, j258, j259, j343, hl]
          refine ⟨fun hd => ?_, fun hd => ?_⟩
          · have hd' := of_decide_eq_true hd
            simp -dsimp -implicitDefEqProofs only [↓j0, ↓j1, ↓j7, ↓j10, ↓j12, ↓j15, j17, j18, j20, ↓j30, j32, ↓j39, ↓j145, j171, hd]
            refine ret false _ _ _ ?_ ?_
            · rfl
            · exact bad (by simp only [okOld, Bool.and_eq_false_iff, decide_eq_false_iff_not]; right; omega)
          · have hd' := of_decide_eq_false hd
            simp -dsimp -implicitDefEqProofs only [↓j0, ↓j1, ↓j7, ↓j9, ↓j15, j17, j18, j20, ↓j25, ↓j29, ↓j30, j33, ↓j38, ↓j48, ↓j89, ↓j145, ↓j146, j154, j171, ↓reduceIte, Nat.reduceEqDiff, j185, hd]
            exact next (by simp only [okOld, hl, Bool.and_eq_true, decide_eq_true_eq]; exact ⟨by simp, by omega⟩) _ (Wk.sub (by simp -dsimp -implicitDefEqProofs only [↓j25, ↓j27, reduceCtorEq, ↓reduceIte, Nat.reduceAdd, Nat.reduceEqDiff, j182, j202, j203, j204, j205, j223, j224, hw] <;> simp))
      · have hge' : ¬ (i : Int) < (xs.length : Int) := of_decide_eq_false hge
        have hx : xs.take i = xs := List.take_of_length_le (by omega)
        rw [hx] at hall
        simp -dsimp -implicitDefEqProofs only [↓j1, ↓j7, ↓j11, ↓j12, ↓j15, j17, j18, j20, ↓j25, ↓j27, ↓j29, ↓j43, ↓j53, ↓j76, j129, ↓j145, ↓j146, ↓j153, AV.proj, AV.offOf, AV.size, AV.sizeL, j171, ↓reduceIte, Nat.reduceAdd, Nat.reduceEqDiff, j182, j197, j289, j290, hge]
        refine CallTo.pure (args := [undoAV lsn xs]) rfl fok28 (by simp -dsimp -implicitDefEqProofs only [↓j25, ↓j29, j173, j174, ↓reduceIte]) (fun x hx => (args1 x hx).2) (size_spec lsn xs (by have := sizeOf_bound hall; omega)) ?_
        simp -dsimp -implicitDefEqProofs only [↓j0, ↓j1, ↓j10, j17, j18, j20, ↓j25, ↓j29, ↓j30, j33, ↓j39, ↓j48, ↓j89, ↓j145, ↓j146, j160, j171, ↓reduceIte, j185]
        refine ret (decide (sizeOf' xs ≤ 224)) _ _ _ ?_ ?_
        · simp -dsimp -implicitDefEqProofs only [↓j25, j179, ↓reduceIte, j210]
          exact decide_eq_decide.2 (by omega)
        · simp [may, hle, hlast, hall]
end Go.Proofs.Ytlagoaggllhggaa
