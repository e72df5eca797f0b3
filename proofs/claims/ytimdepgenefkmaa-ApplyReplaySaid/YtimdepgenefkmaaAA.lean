import Derived.Test.YtimdepgenefkmaaG2
set_option maxRecDepth 8000
set_option linter.unusedVariables false
set_option linter.unusedSimpArgs false
section
namespace Go.Proofs.Ytimdepgenefkmaa.Slot
open Go Go.RowKit

structure Old where
  live : Bool
  page : Int
  ts : Int
  rpage : Int
  rslot : Int
  delta : ByteArray

abbrev Old.av (o : Old) : AV := .agg [.bool o.live, .int .u16 o.page, .int .u32 o.ts, .agg [.int .u16 o.rpage, .int .u8 o.rslot], .str o.delta]
abbrev rowAV (xs : List Old) : AV := .vsl (xs.map Old.av) xs.length
abbrev undoAV (lsn : Int) (xs : List Old) : AV := .agg [.int .u64 lsn, rowAV xs]

def Old.cost (o : Old) : Nat := if o.live then 10 + o.delta.size else 0
def sizeOf' (xs : List Old) : Nat := 16 + (xs.map fun o => 1 + o.cost).sum

theorem unif_olds (xs : List Old) : Unif 6 (xs.map Old.av) := fun x hx => by
  obtain ⟨o, _, rfl⟩ := List.mem_map.1 hx; rfl
theorem sizeL_olds (xs : List Old) (i : Nat) (h : i ≤ xs.length) : AV.sizeL ((xs.map Old.av).take i) = i * 6 := (unif_olds xs).sizeL_take (by simpa using h)
theorem on_olds (S : Nat → Prop) (xs : List Old) : AV.onL S (xs.map Old.av) := by
  rw [AV.onL_iff]
  intro x hx
  obtain ⟨o, _, rfl⟩ := List.mem_map.1 hx
  simp [AV.on, AV.onL]
theorem on_undo (S : Nat → Prop) (lsn : Int) (xs : List Old) : AV.on S (undoAV lsn xs) := ⟨trivial, on_olds S xs, trivial⟩
theorem sizeOf_take {xs : List Old} {i : Nat} {o : Old} (h : xs[i]? = some o) : sizeOf' (xs.take (i + 1)) = sizeOf' (xs.take i) + 1 + o.cost := by
  rw [take_succ h]; simp [sizeOf']; omega
theorem sizeOf_le (xs : List Old) (i : Nat) : sizeOf' (xs.take i) ≤ sizeOf' xs := by
  conv => rhs; rw [← List.take_append_drop i xs]
  simp only [sizeOf', List.map_append, List.sum_append]; omega

theorem len_le_size (xs : List Old) : xs.length + 16 ≤ sizeOf' xs := by
  induction xs with
  | nil => simp [sizeOf']
  | cons o xs ih => simp [sizeOf'] at ih ⊢; omega

abbrev zeroU : AV := .agg [.int .u64 0, .nilsl]
theorem frz0 {K : Nat → Prop} {H : Heap} : Frz K H zeroU (undoAV 0 []) := by
  refine .agg _ _ rfl fun k hk => ?_
  match k, hk with
  | 0, _ => exact .same _ trivial
  | 1, _ => exact .nil
theorem args1 {lsn : Int} {xs : List Old} : ∀ x, x ∈ [undoAV lsn xs] → AV.on (fun _ => False) x ∧ ∀ vs, x ≠ .tuple vs := fun x hx => by
  simp only [List.mem_singleton] at hx
  subst hx
  exact ⟨on_undo _ _ _, fun vs h => by cases h⟩

def szSt (xs : List Old) (i acc : Nat) : St := ⟨25, [(9, .int .i64 i), (8, .int .i64 xs.length), (7, rowAV xs), (3, .int .i64 acc), (2, .int .i64 0)], [], 1 + i⟩

theorem size_spec (lsn : Int) (xs : List Old) (h : sizeOf' xs < 9000000000000000000) : ACall Try.prog 61 [undoAV lsn xs] [] (.int .i64 (sizeOf' xs)) [] := by
  refine ACall.run (Z := Z) (N := 25) mixed hZ Try.func61 rfl rfl (by kernel_rfl) (by simp) args1 0 ?_
  simp -dsimp -implicitDefEqProofs only [↓j0, ↓j1, ↓j7, ↓j12, ↓j14, ↓j15, ↓j16, j17, j18, j20, ↓j25, ↓j27, ↓j29, ↓j30, j33, ↓j38, ↓j39, ↓j42, ↓j43, ↓j45, ↓j58, ↓j62, ↓j76, ↓j79, j133, j142, ↓j145, ↓j146, ↓j153, AV.proj, AV.offOf, AV.size, AV.sizeL, AV.layable, argEnv, j163, j164, j166, j167, j171, j172, ↓reduceIte, Nat.reduceEqDiff, j182, j196, j197, j388, j397, j478]
  refine AWp.loopR (Z := Z) mixed hZ (by kernel_rfl) (fun n s => ∃ i, i + n = xs.length ∧ s = szSt xs i (sizeOf' (xs.take i))) (n0 := xs.length) (s0 := szSt xs 0 16) ?_ ⟨0, by omega, by simp [sizeOf']⟩ ?_ rfl
  · exact Wk.sub (by simp -dsimp -implicitDefEqProofs only [↓j25, j179, ↓reduceIte, Nat.reduceEqDiff, j182, j183, j184, j197, j202, j203, j204, j209, j223] <;> simp)
  · rintro n s ⟨i, hi, rfl⟩
    refine ⟨rfl, ?_⟩
    simp -dsimp -implicitDefEqProofs only [szSt, ↓j0, ↓j1, ↓j7, ↓j12, ↓j13, ↓j15, j17, j18, j20, ↓j25, ↓j29, ↓j48, ↓j89, ↓j145, ↓j146, ↓j149, j159, j172, ↓reduceIte, Nat.reduceEqDiff, j185]
    refine ⟨fun hlt => ?_, fun hge => ?_⟩
    · have hlt : (i : Int) < (xs.length : Int) := of_decide_eq_true hlt
      obtain ⟨o, ho⟩ := list_get (xs := xs) (i := i) (by omega)
      have hsz := sizeL_olds xs i (by omega)
      have hle := sizeOf_le xs (i + 1)
      rw [sizeOf_take ho] at hle
      simp -dsimp -implicitDefEqProofs only [↓j0, ↓j1, ↓j7, ↓j9, ↓j12, ↓j13, ↓j14, ↓j15, j17, j18, j19, j20, j21, j22, j23, ↓j25, ↓j27, ↓j29, ↓j30, j33, ↓j38, ↓j39, ↓j41, ↓j43, ↓j44, ↓j45, ↓j46, ↓j48, ↓j76, ↓j77, ↓j78, ↓j79, ↓j89, ↓j92, j129, j131, ↓j145, ↓j146, ↓j149, ↓j153, j154, AV.proj, AV.offOf, AV.upd, AV.size, AV.sizeL, AV.layable, j163, j167, j171, j172, j177, ↓reduceIte, Nat.reduceAdd, Nat.reduceEqDiff, j182, j185, j191, j197, j206, j207, j208, j224, j253, j294, j295, j297, j389, j423, ho, hlt, hsz]
      have hlen := len_le_size xs
      have hc : o.cost = if o.live then 10 + o.delta.size else 0 := rfl
      refine ⟨fun hl => ?_, fun hl => ?_⟩
      all_goals
        simp -dsimp -implicitDefEqProofs only [↓j0, ↓j1, ↓j7, ↓j9, ↓j15, j17, j18, j20, ↓j25, ↓j27, ↓j29, ↓j30, j33, ↓j38, ↓j39, ↓j43, ↓j45, ↓j48, ↓j58, ↓j59, ↓j76, ↓j79, ↓j89, j132, j141, ↓j145, ↓j146, ↓j153, j154, AV.proj, AV.offOf, AV.size, AV.sizeL, j163, j164, j166, j167, j171, ↓reduceIte, Nat.reduceAdd, Nat.reduceEqDiff, j182, j185, j196, j197, j258, j259, j309, hl]
        refine ⟨n - 1, szSt xs (i + 1) (sizeOf' (xs.take (i + 1))), by omega, ⟨i + 1, by omega, rfl⟩, Wk.sub ?_⟩
        rw [sizeOf_take ho]
        simp only [hl, if_true, Bool.false_eq_true, if_false] at hc
        simp (disch := omega) only [j224, wrap_i64, j203, ↓j25, j179, j209, j184, j202, j182, j183, j204, j223, ↓reduceIte, Nat.reduceEqDiff]
        omega
    · have hge : ¬ (i : Int) < (xs.length : Int) := of_decide_eq_false hge
      have : xs.take i = xs := List.take_of_length_le (by omega)
      rw [this]
      exact Final.one (.inr rfl) rfl ⟨rfl, fun vs h => by cases h⟩ (fun vs h => by cases h) (fun vs h => by cases h) (.same _ trivial)
end Go.Proofs.Ytimdepgenefkmaa.Slot
end
section
namespace Go.Proofs.Ytimdepgenefkmaa.Slot
open Go Go.RowKit

def Old.zero : Old := ⟨false, 0, 0, 0, 0, ⟨#[]⟩⟩
def Old.same (a b : Old) : Bool := (a.live == b.live) && ((a.page == b.page) && ((a.ts == b.ts) && ((a.rpage == b.rpage) && ((a.rslot == b.rslot) && (strEq a.delta b.delta && true)))))
theorem same_iff {a b : Old} : a.same b = true ↔ a = b := by
  cases a; cases b
  simp [Old.same, strEq_iff]
theorem same_self (a : Old) : a.same a = true := same_iff.2 rfl
theorem cellsEq_old (a b : Old) : cellsEq [.bool a.live, .int .u16 a.page, .int .u32 a.ts, .int .u16 a.rpage, .int .u8 a.rslot, .str a.delta] [.bool b.live, .int .u16 b.page, .int .u32 b.ts, .int .u16 b.rpage, .int .u8 b.rslot, .str b.delta] = some (a.same b) := by
  simp [cellsEq, scEq, Old.same]
theorem cellsEq_old0 (a : Old) : cellsEq [.bool a.live, .int .u16 a.page, .int .u32 a.ts, .int .u16 a.rpage, .int .u8 a.rslot, .str a.delta] [.bool false, .int .u16 0, .int .u32 0, .int .u16 0, .int .u8 0, .str ⟨#[]⟩] = some (a.same .zero) := cellsEq_old a .zero

def okOld (o : Old) : Bool := (o.live || o.same .zero) && decide (o.delta.size ≤ 66)
def lastOk (xs : List Old) : Bool := match xs[xs.length - 1]? with
  | some o => o.live
  | none => true
def may (xs : List Old) : Bool := decide (xs.length ≤ 15) && lastOk xs && xs.all okOld && decide (sizeOf' xs ≤ 224)

theorem fok61 : fnOk Try.prog 61 = true := by kernel_rfl
theorem cost_le {o : Old} (h : okOld o = true) : o.cost ≤ 76 := by
  simp only [okOld, Bool.and_eq_true, decide_eq_true_eq] at h
  simp only [Old.cost]; split <;> omega
theorem sizeOf_bound {xs : List Old} (h : xs.all okOld = true) : sizeOf' xs ≤ 16 + xs.length * 77 := by
  induction xs with
  | nil => simp [sizeOf']
  | cons o xs ih =>
    simp only [List.all_cons, Bool.and_eq_true] at h
    have := ih h.2
    have := cost_le h.1
    simp [sizeOf'] at *; omega

def maySt (lsn : Int) (xs : List Old) (i : Nat) : St := ⟨52, [(30, .int .i64 i), (29, .int .i64 xs.length), (28, rowAV xs), (1, .ptr 0 0 []), (2, .bool false)], [(0, .cells (undoAV lsn xs))], i + 1⟩

theorem may_spec (lsn : Int) (xs : List Old) (hl : xs.length ≤ 9223372036854775807) : ACall Try.prog 53 [undoAV lsn xs] [] (.bool (may xs)) [] := by
  refine ACall.run (Z := Z) (N := 52) mixed hZ Try.func53 rfl rfl (by kernel_rfl) (by simp) args1 0 ?_
  have ret : ∀ (b : Bool) (t : Env) (H : Heap) (m : Nat), look t 2 = some (.bool b) → b = may xs → Final Try.prog Try.f53 (.bool (may xs)) [] .ret ⟨52, t, H, m⟩ := by
    intro b t H m h hb
    subst hb
    exact Final.one (.inr rfl) (r := .tmp 2) rfl ⟨h, fun vs h => by cases h⟩ (fun vs h => by cases h) (fun vs h => by cases h) (.same _ trivial)
  simp -dsimp -implicitDefEqProofs only [↓j0, ↓j1, ↓j2, ↓j7, ↓j12, ↓j15, j17, j18, j20, ↓j25, ↓j27, ↓j29, ↓j30, j32, j33, ↓j38, ↓j39, ↓j42, ↓j43, ↓j45, ↓j48, ↓j58, ↓j62, ↓j76, ↓j79, ↓j89, j133, j142, ↓j145, ↓j146, ↓j151, ↓j153, j161, AV.proj, AV.offOf, AV.size, AV.sizeL, AV.layable, argEnv, j163, j164, j166, j167, j171, j172, j175, ↓reduceIte, Nat.reduceEqDiff, j182, j185, j196, j197, j388, j397, j478]
  refine ⟨fun h15 => ?_, fun h15 => ?_⟩
  · simp -dsimp -implicitDefEqProofs only [↓j0, ↓j1, ↓j2, ↓j7, ↓j10, ↓j12, ↓j13, ↓j15, j17, j18, j20, ↓j25, ↓j29, ↓j30, j32, ↓j39, ↓j40, j81, ↓j145, ↓j147, ↓j149, ↓j151, ↓j152, j163, j164, j171, j175, ↓reduceIte, Nat.reduceEqDiff, h15]
    refine ret false _ _ _ ?_ ?_
    · rfl
    · have := of_decide_eq_true h15
      have h2 : ¬ (xs.length ≤ 15) := by omega
      simp [may, h2]
  have h15' := of_decide_eq_false h15
  have hle : xs.length ≤ 15 := by omega
  have inv : ∀ (i : Nat) (o : Old), xs[i]? = some o → (okOld o = false → false = may xs) := by
    intro i o ho hk
    have : xs.all okOld = false := by
      rw [List.all_eq_false]
      exact ⟨o, List.mem_of_getElem? ho, by simp [hk]⟩
    simp [may, this]
  simp -dsimp -implicitDefEqProofs only [↓j2, j17, j18, j20, ↓j25, ↓j27, ↓j29, ↓j30, j33, ↓j38, ↓j43, ↓j45, ↓j48, ↓j58, ↓j62, ↓j76, ↓j79, ↓j89, j133, j142, ↓j145, ↓j146, ↓j148, ↓j150, ↓j151, ↓j153, j161, AV.proj, AV.offOf, AV.size, AV.sizeL, j163, j164, j166, j167, j171, j175, ↓reduceIte, Nat.reduceEqDiff, j182, j185, j196, j197, j388, j397, j478, h15]
  refine ⟨fun h0 => ?_, fun h0 => ?_⟩
  · have h0' := of_decide_eq_true h0
    obtain ⟨o, ho⟩ := list_get (xs := xs) (i := xs.length - 1) (by omega)
    have hw : IntKind.i64.wrap ((xs.length : Int) - 1) = ((xs.length - 1 : Nat) : Int) := by rw [wrap_i64 (by omega) (by omega)]; omega
    have hlt : ((xs.length - 1 : Nat) : Int) < (xs.length : Int) := by omega
    have hsz := sizeL_olds xs (xs.length - 1) (by omega)
    simp -dsimp -implicitDefEqProofs only [↓j0, ↓j1, ↓j2, ↓j13, j17, j18, j20, ↓j25, ↓j27, ↓j29, ↓j30, j32, j33, ↓j40, ↓j43, ↓j45, ↓j46, ↓j48, ↓j55, ↓j58, ↓j62, ↓j76, ↓j77, ↓j79, ↓j80, j83, j84, ↓j89, ↓j92, j131, j133, j142, ↓j145, ↓j146, ↓j147, ↓j148, ↓j149, ↓j150, ↓j151, ↓j153, j155, AV.proj, AV.offOf, AV.size, AV.sizeL, j163, j164, j166, j167, j170, j171, j175, j177, ↓reduceIte, Nat.reduceEqDiff, j182, j185, j195, j196, j197, j206, j207, j208, j253, j297, j388, j389, j397, j478, h0, hw, hlt, ho, hsz]
    have hlast : lastOk xs = o.live := by simp [lastOk, ho]
    cases hl0 : o.live
    · simp -dsimp -implicitDefEqProofs only [↓j0, ↓j1, ↓j7, ↓j10, ↓j12, ↓j15, j17, j18, j20, ↓j30, j32, ↓j39, ↓j145, ↓j147, j171, j194]
      refine ret false _ _ _ ?_ ?_
      · rfl
      · rw [hl0] at hlast; simp [may, hlast]
    · simp -dsimp -implicitDefEqProofs only [↓j0, ↓j1, ↓j7, ↓j9, ↓j12, ↓j14, ↓j15, ↓j16, j17, j18, j20, ↓j25, ↓j27, ↓j29, ↓j30, j33, ↓j38, ↓j43, ↓j45, ↓j58, ↓j62, ↓j76, ↓j79, j133, j142, ↓j145, ↓j146, ↓j148, ↓j153, AV.proj, AV.offOf, AV.size, AV.sizeL, j163, j164, j166, j167, j171, ↓reduceIte, Nat.reduceEqDiff, j182, j193, j196, j197, j388, j397, j478]
      rw [hl0] at hlast
      refine AWp.loopR (Z := Z) mixed hZ (by kernel_rfl) (fun n s => ∃ i, i + n = xs.length ∧ (xs.take i).all okOld = true ∧ s = maySt lsn xs i) (n0 := xs.length) (s0 := maySt lsn xs 0) ?_ ⟨0, by omega, by simp, rfl⟩ ?_ rfl
      · exact Wk.sub (by simp -dsimp -implicitDefEqProofs only [↓j25, ↓j27, j179, ↓reduceIte, Nat.reduceEqDiff, j182, j183, j184, j196, j202, j203, j204, j205, j209, j223] <;> simp)
      · rintro n s ⟨i, hi, hall, rfl⟩
        refine ⟨rfl, ?_⟩
        simp -dsimp -implicitDefEqProofs only [maySt, ↓j0, ↓j1, ↓j7, ↓j12, ↓j13, ↓j15, j17, j18, j20, ↓j25, ↓j29, ↓j48, ↓j89, ↓j145, ↓j146, ↓j149, j159, j171, ↓reduceIte, Nat.reduceEqDiff, j185]
        refine ⟨fun hlt => ?_, fun hge => ?_⟩
        · have hlt' : (i : Int) < (xs.length : Int) := of_decide_eq_true hlt
          obtain ⟨o, ho⟩ := list_get (xs := xs) (i := i) (by omega)
          have hsz := sizeL_olds xs i (by omega)
          have hw : IntKind.i64.wrap ((i : Int) + 1) = ((i + 1 : Nat) : Int) := by rw [wrap_i64 (by omega) (by omega)]; omega
          have bad := inv i o ho
          have good : okOld o = true → (xs.take (i + 1)).all okOld = true := fun h => by rw [take_succ ho]; simp [hall, h]
          have next : okOld o = true → ∀ s', Wk s' (maySt lsn xs (i + 1)) → ∃ m s'', m < n ∧ (∃ i, i + m = xs.length ∧ (xs.take i).all okOld = true ∧ s'' = maySt lsn xs i) ∧ Wk s' s'' :=
            fun hk s' hw => ⟨n - 1, maySt lsn xs (i + 1), by omega, ⟨i + 1, by omega, good hk, rfl⟩, hw⟩
          have hs0 : o.live = false → (okOld o = (o.same .zero && decide (o.delta.size ≤ 66))) := fun h => by simp [okOld, h]
          have hs1 : o.live = true → (okOld o = decide (o.delta.size ≤ 66)) := fun h => by simp [okOld, h]
          simp -dsimp -implicitDefEqProofs only [↓j0, ↓j1, ↓j2, ↓j7, ↓j9, ↓j12, ↓j14, ↓j15, j17, j18, j19, j20, j21, j22, j23, ↓j25, ↓j27, ↓j29, ↓j38, ↓j41, ↓j43, ↓j44, ↓j45, ↓j46, ↓j55, ↓j76, ↓j77, ↓j78, ↓j79, j84, ↓j92, j129, j131, ↓j145, ↓j146, ↓j150, ↓j153, AV.proj, AV.offOf, AV.upd, AV.size, AV.sizeL, AV.layable, j163, j164, j167, j170, j171, j175, j177, reduceCtorEq, ↓reduceIte, Nat.reduceAdd, Nat.reduceEqDiff, j182, j191, j197, j206, j207, j208, j224, j253, j294, j295, j297, j389, j423, ho, hlt', hsz]
          have hk := cellsEq_old0 o
          refine ⟨fun hl => ?_, fun hl => ?_⟩
          · have hl : o.live = false := by simpa using hl
            rw [hl] at hk
            simp -dsimp -implicitDefEqProofs only [↓j1, ↓j2, j17, j18, j20, ↓j25, ↓j27, ↓j29, ↓j30, j32, ↓j38, ↓j40, ↓j43, ↓j48, ↓j54, ↓j76, j83, ↓j91, ↓j124, j125, j127, j129, ↓j145, ↓j146, ↓j147, ↓j150, ↓j151, ↓j153, partsAV, AV.proj, AV.offOf, AV.size, AV.sizeL, AV.layable, AV.flat, AV.flatL, j163, j164, j170, j171, j172, j173, j174, j175, ↓reduceIte, Nat.reduceAdd, Nat.reduceEqDiff, j182, j194, j197, j212, kindOf, j214, j218, j219, j294, j295, j311, j312, j441, hl, hk]
            refine ⟨fun hz => ?_, fun hz => ?_⟩
            · have hz' : o.same .zero = false := by simpa using hz
              simp -dsimp -implicitDefEqProofs only [↓j0, ↓j1, ↓j2, ↓j7, ↓j10, ↓j12, ↓j13, ↓j15, j17, j18, j20, ↓j25, ↓j29, ↓j30, j32, ↓j39, ↓j40, j81, ↓j145, ↓j147, ↓j149, ↓j151, j163, j164, j171, j175, ↓reduceIte, Nat.reduceEqDiff, j194, hz']
              refine ret false _ _ _ ?_ ?_
              · rfl
              · exact bad (by simp [okOld, hl, hz'])
            have hz' : o.same .zero = true := by simpa using hz
            simp -dsimp -implicitDefEqProofs only [↓j0, ↓j1, ↓j2, ↓j13, j17, j18, j20, ↓j25, ↓j27, ↓j29, ↓j30, j32, j33, ↓j40, ↓j43, ↓j45, ↓j48, ↓j58, ↓j59, ↓j76, ↓j79, j83, ↓j89, j132, j141, ↓j145, ↓j146, ↓j148, ↓j149, ↓j151, ↓j153, j161, AV.proj, AV.offOf, AV.size, AV.sizeL, j163, j164, j166, j167, j171, j175, ↓reduceIte, Nat.reduceAdd, Nat.reduceEqDiff, j182, j185, j193, j195, j196, j197, j258, j259, j309, hz']
            refine ⟨fun hd => ?_, fun hd => ?_⟩
            · have hd' := of_decide_eq_true hd
              simp -dsimp -implicitDefEqProofs only [↓j0, ↓j1, ↓j7, ↓j10, ↓j12, ↓j15, j17, j18, j20, ↓j30, j32, ↓j39, ↓j145, j171, hd]
              refine ret false _ _ _ ?_ ?_
              · rfl
              · exact bad (by simp only [okOld, Bool.and_eq_false_iff, decide_eq_false_iff_not]; right; omega)
            · have hd' := of_decide_eq_false hd
              simp -dsimp -implicitDefEqProofs only [↓j0, ↓j1, ↓j7, ↓j9, ↓j15, j17, j18, j20, ↓j25, ↓j29, ↓j30, j33, ↓j38, ↓j48, ↓j89, ↓j145, ↓j146, j154, j171, ↓reduceIte, Nat.reduceEqDiff, j185, hd]
              exact next (by simp only [okOld, hl, hz', Bool.and_eq_true, decide_eq_true_eq]; exact ⟨by simp, by omega⟩) _ (Wk.sub (by simp -dsimp -implicitDefEqProofs only [↓j25, ↓j27, reduceCtorEq, ↓reduceIte, Nat.reduceAdd, Nat.reduceEqDiff, j182, j202, j203, j204, j205, j223, j224, hw] <;> simp))
          · have hl : o.live = true := by simpa using hl
            rw [hl] at hk
            simp -dsimp -implicitDefEqProofs only [↓j0, ↓j1, ↓j2, ↓j13, j17, j18, j20, ↓j25, ↓j27, ↓j29, ↓j30, j32, j33, ↓j38, ↓j40, ↓j43, ↓j45, ↓j48, ↓j58, ↓j59, ↓j76, ↓j79, j82, j83, ↓j89, j132, j141, ↓j145, ↓j146, ↓j148, ↓j149, ↓j150, ↓j151, ↓j153, j161, AV.proj, AV.offOf, AV.size, AV.sizeL, j163, j164, j166, j167, j171, j175, ↓reduceIte, Nat.reduceAdd, Nat.reduceEqDiff, j182, j185, j193, j195, j196, j197, j258, j259, j309, hl]
            refine ⟨fun hd => ?_, fun hd => ?_⟩
            · have hd' := of_decide_eq_true hd
              simp -dsimp -implicitDefEqProofs only [↓j0, ↓j1, ↓j7, ↓j10, ↓j12, ↓j15, j17, j18, j20, ↓j30, j32, ↓j39, ↓j145, j171, hd]
              refine ret false _ _ _ ?_ ?_
              · rfl
              · exact bad (by simp only [okOld, Bool.and_eq_false_iff, decide_eq_false_iff_not]; right; omega)
            · have hd' := of_decide_eq_false hd
              simp -dsimp -implicitDefEqProofs only [↓j0, ↓j1, ↓j7, ↓j9, ↓j15, j17, j18, j20, ↓j25, ↓j29, ↓j30, j33, ↓j38, ↓j48, ↓j89, ↓j145, ↓j146, j154, j171, ↓reduceIte, Nat.reduceEqDiff, j185, hd]
              exact next (by simp only [okOld, hl, Bool.and_eq_true, decide_eq_true_eq]; exact ⟨by simp, by omega⟩) _ (Wk.sub (by simp -dsimp -implicitDefEqProofs only [↓j25, ↓j27, reduceCtorEq, ↓reduceIte, Nat.reduceAdd, Nat.reduceEqDiff, j182, j202, j203, j204, j205, j223, j224, hw] <;> simp))
        · have hge' : ¬ (i : Int) < (xs.length : Int) := of_decide_eq_false hge
          have hx : xs.take i = xs := List.take_of_length_le (by omega)
          rw [hx] at hall
          simp -dsimp -implicitDefEqProofs only [↓j1, ↓j7, ↓j11, ↓j12, ↓j15, j17, j18, j20, ↓j25, ↓j27, ↓j29, ↓j43, ↓j53, ↓j76, j129, ↓j145, ↓j146, ↓j153, AV.proj, AV.offOf, AV.size, AV.sizeL, j171, ↓reduceIte, Nat.reduceAdd, Nat.reduceEqDiff, j182, j197, j391, j392, hge]
          refine CallTo.pure (args := [undoAV lsn xs]) rfl fok61 (by simp -dsimp -implicitDefEqProofs only [↓j25, ↓j29, j173, j174, ↓reduceIte]) (fun x hx => (args1 x hx).2) (size_spec lsn xs (by have := sizeOf_bound hall; omega)) ?_
          simp -dsimp -implicitDefEqProofs only [↓j0, ↓j1, ↓j10, j17, j18, j20, ↓j25, ↓j29, ↓j30, j33, ↓j39, ↓j48, ↓j89, ↓j145, ↓j146, j160, j171, ↓reduceIte, j185]
          refine ret (decide (sizeOf' xs ≤ 224)) _ _ _ ?_ ?_
          · simp -dsimp -implicitDefEqProofs only [↓j25, j179, ↓reduceIte, j210]
            exact decide_eq_decide.2 (by omega)
          · simp [may, hle, hlast, hall]
  · have h0' := of_decide_eq_false h0
    have hlast : lastOk xs = true := by
      have : xs = [] := List.eq_nil_of_length_eq_zero (by omega)
      subst this; rfl
    simp -dsimp -implicitDefEqProofs only [↓j0, ↓j1, ↓j2, ↓j7, ↓j9, ↓j12, ↓j13, ↓j14, ↓j15, ↓j16, j17, j18, j20, ↓j25, ↓j27, ↓j29, ↓j30, j32, j33, ↓j38, ↓j40, ↓j43, ↓j45, ↓j58, ↓j62, ↓j76, ↓j79, j82, j83, j133, j142, ↓j145, ↓j146, ↓j148, ↓j149, ↓j150, ↓j151, ↓j153, AV.proj, AV.offOf, AV.size, AV.sizeL, j163, j164, j166, j167, j171, j175, ↓reduceIte, Nat.reduceEqDiff, j182, j195, j196, j197, j388, j397, j478, h0]
    refine AWp.loopR (Z := Z) mixed hZ (by kernel_rfl) (fun n s => ∃ i, i + n = xs.length ∧ (xs.take i).all okOld = true ∧ s = maySt lsn xs i) (n0 := xs.length) (s0 := maySt lsn xs 0) ?_ ⟨0, by omega, by simp, rfl⟩ ?_ rfl
    · exact Wk.sub (by simp -dsimp -implicitDefEqProofs only [↓j25, ↓j27, j179, ↓reduceIte, Nat.reduceEqDiff, j182, j183, j184, j196, j202, j203, j204, j205, j209, j223] <;> simp)
    · rintro n s ⟨i, hi, hall, rfl⟩
      refine ⟨rfl, ?_⟩
      simp -dsimp -implicitDefEqProofs only [maySt, ↓j0, ↓j1, ↓j7, ↓j12, ↓j13, ↓j15, j17, j18, j20, ↓j25, ↓j29, ↓j48, ↓j89, ↓j145, ↓j146, ↓j149, j159, j171, ↓reduceIte, Nat.reduceEqDiff, j185]
      refine ⟨fun hlt => ?_, fun hge => ?_⟩
      · have hlt' : (i : Int) < (xs.length : Int) := of_decide_eq_true hlt
        obtain ⟨o, ho⟩ := list_get (xs := xs) (i := i) (by omega)
        have hsz := sizeL_olds xs i (by omega)
        have hw : IntKind.i64.wrap ((i : Int) + 1) = ((i + 1 : Nat) : Int) := by rw [wrap_i64 (by omega) (by omega)]; omega
        have bad := inv i o ho
        have good : okOld o = true → (xs.take (i + 1)).all okOld = true := fun h => by rw [take_succ ho]; simp [hall, h]
        have next : okOld o = true → ∀ s', Wk s' (maySt lsn xs (i + 1)) → ∃ m s'', m < n ∧ (∃ i, i + m = xs.length ∧ (xs.take i).all okOld = true ∧ s'' = maySt lsn xs i) ∧ Wk s' s'' :=
          fun hk s' hw => ⟨n - 1, maySt lsn xs (i + 1), by omega, ⟨i + 1, by omega, good hk, rfl⟩, hw⟩
        have hs0 : o.live = false → (okOld o = (o.same .zero && decide (o.delta.size ≤ 66))) := fun h => by simp [okOld, h]
        have hs1 : o.live = true → (okOld o = decide (o.delta.size ≤ 66)) := fun h => by simp [okOld, h]
        simp -dsimp -implicitDefEqProofs only [↓j0, ↓j1, ↓j2, ↓j7, ↓j9, ↓j12, ↓j14, ↓j15, j17, j18, j19, j20, j21, j22, j23, ↓j25, ↓j27, ↓j29, ↓j38, ↓j41, ↓j43, ↓j44, ↓j45, ↓j46, ↓j55, ↓j76, ↓j77, ↓j78, ↓j79, j84, ↓j92, j129, j131, ↓j145, ↓j146, ↓j150, ↓j153, AV.proj, AV.offOf, AV.upd, AV.size, AV.sizeL, AV.layable, j163, j164, j167, j170, j171, j175, j177, reduceCtorEq, ↓reduceIte, Nat.reduceAdd, Nat.reduceEqDiff, j182, j191, j197, j206, j207, j208, j224, j253, j294, j295, j297, j389, j423, ho, hlt', hsz]
        have hk := cellsEq_old0 o
        refine ⟨fun hl => ?_, fun hl => ?_⟩
        · have hl : o.live = false := by simpa using hl
          rw [hl] at hk
          simp -dsimp -implicitDefEqProofs only [↓j1, ↓j2, j17, j18, j20, ↓j25, ↓j27, ↓j29, ↓j30, j32, ↓j38, ↓j40, ↓j43, ↓j48, ↓j54, ↓j76, j83, ↓j91, ↓j124, j125, j127, j129, ↓j145, ↓j146, ↓j147, ↓j150, ↓j151, ↓j153, partsAV, AV.proj, AV.offOf, AV.size, AV.sizeL, AV.layable, AV.flat, AV.flatL, j163, j164, j170, j171, j172, j173, j174, j175, ↓reduceIte, Nat.reduceAdd, Nat.reduceEqDiff, j182, j194, j197, j212, kindOf, j214, j218, j219, j294, j295, j311, j312, j441, hl, hk]
          refine ⟨fun hz => ?_, fun hz => ?_⟩
          · have hz' : o.same .zero = false := by simpa using hz
            simp -dsimp -implicitDefEqProofs only [↓j0, ↓j1, ↓j2, ↓j7, ↓j10, ↓j12, ↓j13, ↓j15, j17, j18, j20, ↓j25, ↓j29, ↓j30, j32, ↓j39, ↓j40, j81, ↓j145, ↓j147, ↓j149, ↓j151, j163, j164, j171, j175, ↓reduceIte, Nat.reduceEqDiff, j194, hz']
            refine ret false _ _ _ ?_ ?_
            · rfl
            · exact bad (by simp [okOld, hl, hz'])
          have hz' : o.same .zero = true := by simpa using hz
          simp -dsimp -implicitDefEqProofs only [↓j0, ↓j1, ↓j2, ↓j13, j17, j18, j20, ↓j25, ↓j27, ↓j29, ↓j30, j32, j33, ↓j40, ↓j43, ↓j45, ↓j48, ↓j58, ↓j59, ↓j76, ↓j79, j83, ↓j89, j132, j141, ↓j145, ↓j146, ↓j148, ↓j149, ↓j151, ↓j153, j161, AV.proj, AV.offOf, AV.size, AV.sizeL, j163, j164, j166, j167, j171, j175, ↓reduceIte, Nat.reduceAdd, Nat.reduceEqDiff, j182, j185, j193, j195, j196, j197, j258, j259, j309, hz']
          refine ⟨fun hd => ?_, fun hd => ?_⟩
          · have hd' := of_decide_eq_true hd
            simp -dsimp -implicitDefEqProofs only [↓j0, ↓j1, ↓j7, ↓j10, ↓j12, ↓j15, j17, j18, j20, ↓j30, j32, ↓j39, ↓j145, j171, hd]
            refine ret false _ _ _ ?_ ?_
            · rfl
            · exact bad (by simp only [okOld, Bool.and_eq_false_iff, decide_eq_false_iff_not]; right; omega)
          · have hd' := of_decide_eq_false hd
            simp -dsimp -implicitDefEqProofs only [↓j0, ↓j1, ↓j7, ↓j9, ↓j15, j17, j18, j20, ↓j25, ↓j29, ↓j30, j33, ↓j38, ↓j48, ↓j89, ↓j145, ↓j146, j154, j171, ↓reduceIte, Nat.reduceEqDiff, j185, hd]
            exact next (by simp only [okOld, hl, hz', Bool.and_eq_true, decide_eq_true_eq]; exact ⟨by simp, by omega⟩) _ (Wk.sub (by simp -dsimp -implicitDefEqProofs only [↓j25, ↓j27, reduceCtorEq, ↓reduceIte, Nat.reduceAdd, Nat.reduceEqDiff, j182, j202, j203, j204, j205, j223, j224, hw] <;> simp))
        · have hl : o.live = true := by simpa using hl
          rw [hl] at hk
          simp -dsimp -implicitDefEqProofs only [↓j0, ↓j1, ↓j2, ↓j13, j17, j18, j20, ↓j25, ↓j27, ↓j29, ↓j30, j32, j33, ↓j38, ↓j40, ↓j43, ↓j45, ↓j48, ↓j58, ↓j59, ↓j76, ↓j79, j82, j83, ↓j89, j132, j141, ↓j145, ↓j146, ↓j148, ↓j149, ↓j150, ↓j151, ↓j153, j161, AV.proj, AV.offOf, AV.size, AV.sizeL, j163, j164, j166, j167, j171, j175, ↓reduceIte, Nat.reduceAdd, Nat.reduceEqDiff, j182, j185, j193, j195, j196, j197, j258, j259, j309, hl]
          refine ⟨fun hd => ?_, fun hd => ?_⟩
          · have hd' := of_decide_eq_true hd
            simp -dsimp -implicitDefEqProofs only [↓j0, ↓j1, ↓j7, ↓j10, ↓j12, ↓j15, j17, j18, j20, ↓j30, j32, ↓j39, ↓j145, j171, hd]
            refine ret false _ _ _ ?_ ?_
            · rfl
            · exact bad (by simp only [okOld, Bool.and_eq_false_iff, decide_eq_false_iff_not]; right; omega)
          · have hd' := of_decide_eq_false hd
            simp -dsimp -implicitDefEqProofs only [↓j0, ↓j1, ↓j7, ↓j9, ↓j15, j17, j18, j20, ↓j25, ↓j29, ↓j30, j33, ↓j38, ↓j48, ↓j89, ↓j145, ↓j146, j154, j171, ↓reduceIte, Nat.reduceEqDiff, j185, hd]
            exact next (by simp only [okOld, hl, Bool.and_eq_true, decide_eq_true_eq]; exact ⟨by simp, by omega⟩) _ (Wk.sub (by simp -dsimp -implicitDefEqProofs only [↓j25, ↓j27, reduceCtorEq, ↓reduceIte, Nat.reduceAdd, Nat.reduceEqDiff, j182, j202, j203, j204, j205, j223, j224, hw] <;> simp))
      · have hge' : ¬ (i : Int) < (xs.length : Int) := of_decide_eq_false hge
        have hx : xs.take i = xs := List.take_of_length_le (by omega)
        rw [hx] at hall
        simp -dsimp -implicitDefEqProofs only [↓j1, ↓j7, ↓j11, ↓j12, ↓j15, j17, j18, j20, ↓j25, ↓j27, ↓j29, ↓j43, ↓j53, ↓j76, j129, ↓j145, ↓j146, ↓j153, AV.proj, AV.offOf, AV.size, AV.sizeL, j171, ↓reduceIte, Nat.reduceAdd, Nat.reduceEqDiff, j182, j197, j391, j392, hge]
        refine CallTo.pure (args := [undoAV lsn xs]) rfl fok61 (by simp -dsimp -implicitDefEqProofs only [↓j25, ↓j29, j173, j174, ↓reduceIte]) (fun x hx => (args1 x hx).2) (size_spec lsn xs (by have := sizeOf_bound hall; omega)) ?_
        simp -dsimp -implicitDefEqProofs only [↓j0, ↓j1, ↓j10, j17, j18, j20, ↓j25, ↓j29, ↓j30, j33, ↓j39, ↓j48, ↓j89, ↓j145, ↓j146, j160, j171, ↓reduceIte, j185]
        refine ret (decide (sizeOf' xs ≤ 224)) _ _ _ ?_ ?_
        · simp -dsimp -implicitDefEqProofs only [↓j25, j179, ↓reduceIte, j210]
          exact decide_eq_decide.2 (by omega)
        · simp [may, hle, hlast, hall]
end Go.Proofs.Ytimdepgenefkmaa.Slot
end
section
namespace Go.Proofs.Ytimdepgenefkmaa.Slot
open Go Go.RowKit

theorem take_olds (xs : List Old) : (xs.map Old.av).take xs.length = xs.map Old.av := List.take_of_length_le (by simp)
abbrev ownAV (m : Nat) (lsn : Int) (xs : List Old) : AV := .agg [.int .u64 lsn, .sl m 0 [] 0 xs.length xs.length 6]
abbrev nilAV (lsn : Int) : AV := .agg [.int .u64 lsn, .nilsl]

theorem own_nil (lsn : Int) : ACall Try.prog 55 [undoAV lsn []] [] (nilAV lsn) [] := by
  refine ACall.run (Z := Z) (N := 8) mixed hZ Try.func55 rfl rfl (by kernel_rfl) (by simp) args1 0 ?_
  simp -dsimp -implicitDefEqProofs only [↓j0, ↓j1, ↓j7, ↓j12, ↓j15, j17, j18, j20, ↓j25, ↓j27, ↓j29, ↓j30, j36, ↓j41, ↓j42, ↓j43, ↓j45, ↓j51, ↓j76, ↓j79, j133, ↓j145, ↓j146, ↓j153, AV.proj, AV.offOf, AV.size, AV.sizeL, AV.layable, argEnv, j163, j164, j166, j167, j170, j171, j172, reduceCtorEq, ↓reduceIte, Nat.reduceAdd, Nat.reduceEqDiff, j182, j196, j197, j388, j397, j433]
  refine DoAppend_of rfl rfl at69 ?_
  have hu := unif_olds []
  simp only [List.map_nil] at hu
  simp -dsimp -implicitDefEqProofs only [↓j0, ↓j1, ↓j7, ↓j10, ↓j12, ↓j15, j17, j18, j19, j20, j21, j22, j23, ↓j25, ↓j27, ↓j29, ↓j43, ↓j44, ↓j45, ↓j76, ↓j78, ↓j79, ↓j100, ↓j104, j129, ↓j145, ↓j146, ↓j147, ↓j153, AV.proj, AV.offOf, AV.upd, AV.size, AV.sizeL, AV.layable, j163, j164, j166, j167, j168, j169, j170, j171, j174, reduceCtorEq, ↓reduceIte, Nat.reduceAdd, Nat.reduceEqDiff, j182, j196, j197, j223, j228, j231, j234, j387, j391, j392, j397, hu, Nat.zero_le, beq_self_eq_true]
  exact Final.one (.inr rfl) (r := .cell 2 71) rfl ⟨1, 0, [], _, rfl, rfl, rfl, rfl, by simp -dsimp -implicitDefEqProofs only [j129, AV.size, AV.sizeL, Nat.reduceAdd, j182, j197, j391, j392]⟩ (fun vs h => by cases h) (fun vs h => by cases h) (.same _ ⟨trivial, trivial, trivial⟩)

theorem own_cons (m : Nat) (lsn : Int) (xs : List Old) (hx : xs ≠ []) (hb : xs.length * 32 ≤ 140737488355328) : ACall Try.prog 55 [undoAV lsn xs] [] (ownAV (m + 2) lsn xs) [(m + 2, .cells (.agg (xs.map Old.av)))] := by
  refine ACall.run (Z := Z) (N := 8) mixed hZ Try.func55 rfl rfl (by kernel_rfl) (by simp) args1 m ?_
  simp -dsimp -implicitDefEqProofs only [↓j0, ↓j1, ↓j7, ↓j12, ↓j15, j17, j18, j20, ↓j25, ↓j27, ↓j29, ↓j30, j36, ↓j41, ↓j42, ↓j43, ↓j45, ↓j51, ↓j76, ↓j79, j133, ↓j145, ↓j146, ↓j153, AV.proj, AV.offOf, AV.size, AV.sizeL, AV.layable, argEnv, j163, j164, j166, j167, j170, j171, j172, reduceCtorEq, ↓reduceIte, Nat.reduceAdd, Nat.reduceEqDiff, j182, j196, j197, j221, j224, j388, j397, j433]
  refine DoAppend_of rfl rfl at69 ?_
  have hu := unif_olds xs
  have hl : xs.length ≤ 9223372036854775807 := by omega
  have hne : (xs.length == 0) = false := by
    cases xs with
    | nil => exact absurd rfl hx
    | cons _ _ => rfl
  simp -dsimp -implicitDefEqProofs only [↓j0, ↓j1, ↓j7, ↓j10, ↓j12, ↓j15, j17, j18, j19, j20, j21, j22, j23, ↓j25, ↓j27, ↓j29, ↓j43, ↓j44, ↓j45, ↓j76, ↓j78, ↓j79, ↓j100, ↓j104, j129, ↓j145, ↓j146, ↓j148, ↓j153, AV.proj, AV.offOf, AV.upd, AV.size, AV.sizeL, AV.layable, j163, j164, j166, j167, j168, j169, j170, j171, reduceCtorEq, ↓reduceIte, Nat.reduceAdd, Nat.reduceEqDiff, j182, j196, j197, j220, j221, j222, j223, j224, j387, j391, j392, j397, hu, take_olds, hb, hl, hne]
  exact Final.oneNew (.inr rfl) (r := .cell 2 71) rfl ⟨m + 1, 0, [], _, rfl, by simp -dsimp -implicitDefEqProofs only [↓j27, ↓reduceIte], rfl, rfl, by simp -dsimp -implicitDefEqProofs only [j129, AV.size, AV.sizeL, Nat.reduceAdd, j182, j197, j391, j392]⟩ (fun vs h => by cases h) (by simp -dsimp -implicitDefEqProofs only [↓j27, reduceCtorEq, ↓reduceIte, Nat.reduceEqDiff, j220]) ⟨trivial, rfl, trivial⟩ (on_olds _ xs)
end Go.Proofs.Ytimdepgenefkmaa.Slot
end
section
namespace Go.Proofs.Ytimdepgenefkmaa.Slot
open Go Go.RowKit

def deadAt : List Old → Option Nat
  | [] => none
  | o :: r => if o.live then (deadAt r).map (· + 1) else some 0
theorem deadAt_some : ∀ {xs : List Old} {i : Nat} {o : Old}, (xs.take i).all (·.live) = true → xs[i]? = some o → o.live = false → deadAt xs = some i
  | [], i, o, _, h, _ => by simp at h
  | x :: xs, 0, o, _, h, hl => by
    simp at h; subst h; simp [deadAt, hl]
  | x :: xs, i + 1, o, ha, h, hl => by
    simp only [List.take_succ_cons, List.all_cons, Bool.and_eq_true] at ha
    have := deadAt_some (xs := xs) (i := i) ha.2 (by simpa using h) hl
    simp [deadAt, ha.1, this]
theorem deadAt_none : ∀ {xs : List Old}, xs.all (·.live) = true → deadAt xs = none
  | [], _ => rfl
  | x :: xs, h => by
    simp only [List.all_cons, Bool.and_eq_true] at h
    simp [deadAt, h.1, deadAt_none h.2]
def place (xs : List Old) (n : Int) : Int :=
  if n < 0 ∨ 66 < n ∨ may xs = false then -1 else
  match deadAt xs with
  | some i => if 224 < (sizeOf' xs : Int) + 10 + n then -1 else i
  | none => if xs.length = 15 ∨ 224 < (sizeOf' xs : Int) + 11 + n then -1 else xs.length

theorem args2 {lsn n : Int} {xs : List Old} {k : IntKind} : ∀ x, x ∈ [undoAV lsn xs, .int k n] → AV.on (fun _ => False) x ∧ ∀ vs, x ≠ .tuple vs := fun x hx => by
  simp only [List.mem_cons, List.not_mem_nil, or_false] at hx
  rcases hx with rfl | rfl
  · exact ⟨on_undo _ _ _, fun vs h => by cases h⟩
  · exact ⟨trivial, fun vs h => by cases h⟩
theorem fok53 : fnOk Try.prog 53 = true := by kernel_rfl
theorem may_len {xs : List Old} (h : may xs = true) : xs.length ≤ 15 ∧ sizeOf' xs ≤ 224 := by
  simp only [may, Bool.and_eq_true, decide_eq_true_eq] at h
  exact ⟨h.1.1.1, h.2⟩

def placeSt (lsn : Int) (xs : List Old) (n : Int) (i : Nat) : St := ⟨52, [(21, .int .i64 i), (20, .int .i64 xs.length), (19, rowAV xs), (2, .ptr 0 0 []), (1, .int .i64 n), (4, .int .i64 0)], [(0, .cells (undoAV lsn xs))], i + 1⟩

theorem place_spec (lsn : Int) (xs : List Old) (n : Int) (hl : xs.length ≤ 9223372036854775807) : ACall Try.prog 54 [undoAV lsn xs, .int .i64 n] [] (.int .i64 (place xs n)) [] := by
  refine ACall.run (Z := Z) (N := 52) mixed hZ Try.func54 rfl rfl (by kernel_rfl) (by simp) args2 0 ?_
  have ret : ∀ (b : Int) (t : Env) (H : Heap) (m : Nat), look t 4 = some (.int .i64 b) → b = place xs n → Final Try.prog Try.f54 (.int .i64 (place xs n)) [] .ret ⟨52, t, H, m⟩ := by
    intro b t H m h hb
    subst hb
    exact Final.one (.inr rfl) (r := .tmp 4) rfl ⟨h, fun vs h => by cases h⟩ (fun vs h => by cases h) (fun vs h => by cases h) (.same _ trivial)
  simp -dsimp -implicitDefEqProofs only [↓j0, ↓j1, ↓j2, ↓j7, ↓j12, ↓j15, j17, j18, j20, ↓j25, ↓j29, ↓j30, j33, ↓j38, ↓j39, ↓j42, ↓j48, ↓j89, ↓j145, ↓j146, ↓j151, j159, AV.layable, argEnv, j163, j164, j171, j172, j175, reduceCtorEq, ↓reduceIte, Nat.reduceEqDiff, j185, j196, Int.reduceNeg]
  refine ⟨fun h1 => ?_, fun h1 => ?_⟩
  · simp -dsimp -implicitDefEqProofs only [↓j0, ↓j1, ↓j2, ↓j7, ↓j10, ↓j12, ↓j13, ↓j15, j17, j18, j20, ↓j25, ↓j29, ↓j30, j32, j33, ↓j38, ↓j39, ↓j40, j81, ↓j145, ↓j147, ↓j149, ↓j151, j163, j164, j171, j175, ↓reduceIte, Nat.reduceEqDiff, Int.reduceNeg, h1]
    refine ret (-1) _ _ _ ?_ ?_
    · rfl
    · have := of_decide_eq_true h1
      rw [place, if_pos (by simp [this])]
  have h1' := of_decide_eq_false h1
  simp -dsimp -implicitDefEqProofs only [↓j1, ↓j2, j17, j18, j20, ↓j25, ↓j29, ↓j30, j32, j33, ↓j38, ↓j40, ↓j48, j83, ↓j89, ↓j145, ↓j146, ↓j148, ↓j151, j161, j163, j164, j171, j175, reduceCtorEq, ↓reduceIte, Nat.reduceEqDiff, j185, j195, h1]
  refine ⟨fun h2 => ?_, fun h2 => ?_⟩
  · simp -dsimp -implicitDefEqProofs only [↓j0, ↓j1, ↓j2, ↓j7, ↓j10, ↓j12, ↓j13, ↓j15, j17, j18, j20, ↓j25, ↓j29, ↓j30, j32, j33, ↓j39, ↓j40, j81, ↓j145, ↓j147, ↓j149, ↓j151, j163, j164, j171, j175, ↓reduceIte, Nat.reduceEqDiff, Int.reduceNeg, h2]
    refine ret (-1) _ _ _ ?_ ?_
    · rfl
    · have := of_decide_eq_true h2
      rw [place, if_pos (by simp [this])]
  have h2' := of_decide_eq_false h2
  simp -dsimp -implicitDefEqProofs only [↓j2, j17, j18, j20, ↓j25, ↓j27, ↓j29, ↓j43, ↓j53, ↓j76, j129, ↓j145, ↓j146, ↓j148, ↓j151, ↓j153, AV.proj, AV.offOf, AV.size, AV.sizeL, j163, j164, j171, j175, ↓reduceIte, Nat.reduceAdd, Nat.reduceEqDiff, j182, j197, j391, j392, h2]
  refine CallTo.pure (args := [undoAV lsn xs]) rfl fok53 (by simp -dsimp -implicitDefEqProofs only [↓j25, ↓j29, j173, j174, ↓reduceIte]) (fun x hx => (args1 x hx).2) (may_spec lsn xs hl) ?_
  cases hm : may xs
  · simp -dsimp -implicitDefEqProofs only [↓j0, ↓j1, ↓j2, ↓j7, ↓j10, ↓j12, ↓j13, ↓j15, j17, j18, j20, ↓j25, ↓j29, ↓j30, j32, j33, ↓j39, ↓j40, ↓j55, j83, j84, ↓j145, ↓j147, ↓j148, ↓j149, ↓j151, j163, j164, j171, j175, ↓reduceIte, Nat.reduceEqDiff, j194, j195, Int.reduceNeg]
    refine ret (-1) _ _ _ ?_ ?_
    · rfl
    · rw [place, if_pos (by simp [hm])]
  have hlen := may_len hm
  have hp : place xs n = match deadAt xs with
      | some i => if 224 < (sizeOf' xs : Int) + 10 + n then -1 else i
      | none => if xs.length = 15 ∨ 224 < (sizeOf' xs : Int) + 11 + n then -1 else xs.length := by
    rw [place, if_neg (by simp only [hm, Bool.true_eq_false, or_false]; omega)]
  have hsize := size_spec lsn xs (by omega)
  simp -dsimp -implicitDefEqProofs only [↓j0, ↓j1, ↓j2, ↓j7, ↓j9, ↓j12, ↓j13, ↓j14, ↓j15, ↓j16, j17, j18, j20, ↓j25, ↓j27, ↓j29, ↓j30, j32, j33, ↓j38, ↓j40, ↓j43, ↓j45, ↓j55, ↓j58, ↓j62, ↓j76, ↓j79, j83, j84, j133, j142, ↓j145, ↓j146, ↓j148, ↓j149, ↓j151, ↓j153, AV.proj, AV.offOf, AV.size, AV.sizeL, j163, j164, j166, j167, j171, j175, ↓reduceIte, Nat.reduceEqDiff, j182, j193, j195, j196, j197, Int.reduceNeg, j388, j397, j478]
  refine AWp.loopR (Z := Z) mixed hZ (by kernel_rfl) (fun k s => ∃ i, i + k = xs.length ∧ (xs.take i).all (·.live) = true ∧ s = placeSt lsn xs n i) (n0 := xs.length) (s0 := placeSt lsn xs n 0) ?_ ⟨0, by omega, by simp, rfl⟩ ?_ rfl
  · exact Wk.sub (by simp -dsimp -implicitDefEqProofs only [↓j25, ↓j27, j179, reduceCtorEq, ↓reduceIte, Nat.reduceEqDiff, j182, j183, j184, j196, j202, j203, j204, j205, j209, j223] <;> simp)
  · rintro k s ⟨i, hi, hall, rfl⟩
    refine ⟨rfl, ?_⟩
    simp -dsimp -implicitDefEqProofs only [placeSt, ↓j0, ↓j1, ↓j7, ↓j12, ↓j13, ↓j15, j17, j18, j20, ↓j25, ↓j29, ↓j48, ↓j89, ↓j145, ↓j146, ↓j149, j159, j171, ↓reduceIte, Nat.reduceEqDiff, j185, Int.reduceNeg]
    refine ⟨fun hlt => ?_, fun hge => ?_⟩
    · have hlt' : (i : Int) < (xs.length : Int) := of_decide_eq_true hlt
      obtain ⟨o, ho⟩ := list_get (xs := xs) (i := i) (by omega)
      have hsz := sizeL_olds xs i (by omega)
      have hw : IntKind.i64.wrap ((i : Int) + 1) = ((i + 1 : Nat) : Int) := by rw [wrap_i64 (by omega) (by omega)]; omega
      simp -dsimp -implicitDefEqProofs only [↓j0, ↓j1, ↓j7, ↓j9, ↓j12, ↓j13, ↓j14, ↓j15, j17, j18, j19, j20, j21, j22, j23, ↓j25, ↓j27, ↓j29, ↓j38, ↓j39, ↓j41, ↓j43, ↓j44, ↓j45, ↓j46, ↓j55, ↓j76, ↓j77, ↓j78, ↓j79, j84, ↓j92, j129, j131, ↓j145, ↓j146, ↓j149, ↓j153, AV.proj, AV.offOf, AV.upd, AV.size, AV.sizeL, AV.layable, j163, j167, j170, j171, j177, reduceCtorEq, ↓reduceIte, Nat.reduceAdd, Nat.reduceEqDiff, j182, j191, j197, Int.reduceNeg, j206, j207, j208, j224, j253, j294, j295, j297, j389, j423, ho, hlt', hsz]
      refine ⟨fun hd => ?_, fun hd => ?_⟩
      · have hd' : o.live = false := by simpa using hd
        rw [deadAt_some hall ho hd'] at hp
        simp -dsimp -implicitDefEqProofs only [↓j1, ↓j7, ↓j12, ↓j15, j17, j18, j20, ↓j25, ↓j27, ↓j29, ↓j43, ↓j53, ↓j76, j129, ↓j145, ↓j146, ↓j153, AV.proj, AV.offOf, AV.size, AV.sizeL, j171, reduceCtorEq, ↓reduceIte, Nat.reduceAdd, Nat.reduceEqDiff, j182, j194, j197, j391, j392, hd']
        refine CallTo.pure (args := [undoAV lsn xs]) rfl fok61 (by simp -dsimp -implicitDefEqProofs only [↓j25, ↓j29, j173, j174, ↓reduceIte]) (fun x hx => (args1 x hx).2) hsize ?_
        simp -dsimp -implicitDefEqProofs only [↓j0, ↓j1, ↓j13, j17, j18, j20, ↓j25, ↓j29, ↓j30, j33, ↓j38, ↓j48, ↓j89, ↓j145, ↓j146, ↓j149, j154, j161, j171, ↓reduceIte, Nat.reduceEqDiff, j185]
        have hw1 : IntKind.i64.wrap ((sizeOf' xs : Int) + 10) = (sizeOf' xs : Int) + 10 := wrap_i64 (by omega) (by omega)
        have hw2 : IntKind.i64.wrap ((sizeOf' xs : Int) + 10 + n) = (sizeOf' xs : Int) + 10 + n := wrap_i64 (by omega) (by omega)
        rw [hw1, hw2]
        refine ⟨fun hb => ?_, fun hb => ?_⟩
        · have hb' := of_decide_eq_true hb
          simp -dsimp -implicitDefEqProofs only [↓j0, ↓j1, ↓j7, ↓j10, ↓j12, ↓j15, j17, j18, j20, ↓j30, j33, ↓j39, ↓j145, j171, Int.reduceNeg, hb]
          refine ret (-1) _ _ _ ?_ ?_
          · rfl
          · rw [hp]; simp only; rw [if_pos hb']
        · have hb' := of_decide_eq_false hb
          simp -dsimp -implicitDefEqProofs only [↓j0, ↓j1, ↓j7, ↓j9, ↓j10, ↓j12, ↓j15, j17, j18, j20, ↓j25, ↓j29, ↓j38, ↓j39, ↓j145, j171, ↓reduceIte, Nat.reduceEqDiff, hb]
          refine ret i _ _ _ ?_ ?_
          · rfl
          · rw [hp]; simp only; rw [if_neg hb']
      · have hd' : o.live = true := by simpa using hd
        simp -dsimp -implicitDefEqProofs only [↓j0, ↓j1, ↓j7, ↓j9, ↓j15, j17, j18, j20, ↓j25, ↓j29, ↓j30, j33, ↓j38, ↓j48, ↓j89, ↓j145, ↓j146, j154, j171, ↓reduceIte, Nat.reduceEqDiff, j185, j193, hd']
        exact ⟨k - 1, placeSt lsn xs n (i + 1), by omega, ⟨i + 1, by omega, by rw [take_succ ho]; simp [hall, hd'], rfl⟩, Wk.sub (by simp -dsimp -implicitDefEqProofs only [↓j25, ↓j27, reduceCtorEq, ↓reduceIte, Nat.reduceAdd, Nat.reduceEqDiff, j182, j202, j203, j204, j205, j223, j224, hw] <;> simp)⟩
    · have hge' : ¬ (i : Int) < (xs.length : Int) := of_decide_eq_false hge
      have hx : xs.take i = xs := List.take_of_length_le (by omega)
      rw [hx] at hall
      rw [deadAt_none hall] at hp
      simp -dsimp -implicitDefEqProofs only [↓j1, ↓j2, ↓j7, ↓j11, ↓j12, ↓j15, j17, j18, j20, ↓j25, ↓j27, ↓j29, ↓j30, j33, ↓j38, ↓j43, ↓j45, ↓j48, ↓j58, ↓j62, ↓j76, ↓j79, ↓j89, j133, j142, ↓j145, ↓j146, ↓j151, ↓j153, j157, AV.proj, AV.offOf, AV.size, AV.sizeL, j163, j164, j166, j167, j171, j175, ↓reduceIte, Nat.reduceEqDiff, j182, j185, j196, j197, j388, j397, j478, hge]
      refine ⟨fun h15 => ?_, fun h15 => ?_⟩
      · simp -dsimp -implicitDefEqProofs only [↓j0, ↓j1, ↓j2, ↓j7, ↓j10, ↓j12, ↓j13, ↓j15, j17, j18, j20, ↓j25, ↓j29, ↓j30, j32, j33, ↓j39, ↓j40, j81, ↓j145, ↓j147, ↓j149, ↓j151, j163, j164, j171, j175, ↓reduceIte, Nat.reduceEqDiff, Int.reduceNeg, h15]
        have h15' : (xs.length : Int) = 15 := by simpa using h15
        refine ret (-1) _ _ _ ?_ ?_
        · rfl
        · rw [hp]; simp only; rw [if_pos (.inl (by omega))]
      · have h15' : ¬ (xs.length : Int) = 15 := by simpa using h15
        simp -dsimp -implicitDefEqProofs only [↓j2, j17, j18, j20, ↓j25, ↓j27, ↓j29, ↓j43, ↓j53, ↓j76, j129, ↓j145, ↓j146, ↓j148, ↓j151, ↓j153, AV.proj, AV.offOf, AV.size, AV.sizeL, j163, j164, j171, j175, ↓reduceIte, Nat.reduceAdd, Nat.reduceEqDiff, j182, j197, j391, j392, h15]
        refine CallTo.pure (args := [undoAV lsn xs]) rfl fok61 (by simp -dsimp -implicitDefEqProofs only [↓j25, ↓j29, j173, j174, ↓reduceIte]) (fun x hx => (args1 x hx).2) hsize ?_
        have hw1 : IntKind.i64.wrap ((sizeOf' xs : Int) + 11) = (sizeOf' xs : Int) + 11 := wrap_i64 (by omega) (by omega)
        have hw2 : IntKind.i64.wrap ((sizeOf' xs : Int) + 11 + n) = (sizeOf' xs : Int) + 11 + n := wrap_i64 (by omega) (by omega)
        simp -dsimp -implicitDefEqProofs only [↓j0, ↓j1, ↓j2, ↓j13, j17, j18, j20, ↓j25, ↓j29, ↓j30, j32, j33, ↓j38, ↓j40, ↓j48, j83, ↓j89, ↓j145, ↓j146, ↓j148, ↓j149, ↓j151, j154, j161, j163, j164, j171, j175, ↓reduceIte, Nat.reduceEqDiff, j185, j195, hw1, hw2]
        refine ⟨fun hb => ?_, fun hb => ?_⟩
        · have hb' := of_decide_eq_true hb
          simp -dsimp -implicitDefEqProofs only [↓j0, ↓j1, ↓j7, ↓j10, ↓j12, ↓j15, j17, j18, j20, ↓j30, j33, ↓j39, ↓j145, j171, Int.reduceNeg, hb]
          refine ret (-1) _ _ _ ?_ ?_
          · rfl
          · rw [hp]; simp only; rw [if_pos (.inr hb')]
        · have hb' := of_decide_eq_false hb
          simp -dsimp -implicitDefEqProofs only [↓j0, ↓j1, ↓j7, ↓j9, ↓j10, ↓j12, ↓j15, j17, j18, j20, ↓j25, ↓j27, ↓j29, ↓j39, ↓j43, ↓j45, ↓j58, ↓j62, ↓j76, ↓j79, j133, j142, ↓j145, ↓j146, ↓j153, AV.proj, AV.offOf, AV.size, AV.sizeL, j163, j164, j166, j167, j171, ↓reduceIte, Nat.reduceEqDiff, j182, j196, j197, j388, j397, j478, hb]
          refine ret xs.length _ _ _ ?_ ?_
          · rfl
          · rw [hp]; simp only; rw [if_neg (by omega)]
end Go.Proofs.Ytimdepgenefkmaa.Slot
end
