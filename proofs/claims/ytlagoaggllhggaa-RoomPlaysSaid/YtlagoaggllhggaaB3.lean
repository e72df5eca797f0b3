/- Find of a room; the watchman. -/
import Derived.Test.YtlagoaggllhggaaB2
set_option linter.unusedVariables false
set_option linter.unusedSimpArgs false
namespace Go.Proofs.Ytlagoaggllhggaa
open Go Go.RowKit

def firstFit (n : Int) : List Pg → Option Nat
  | [] => none
  | p :: r => if fits p.2 n then some 0 else (firstFit n r).map (· + 1)
theorem firstFit_some {n : Int} : ∀ {xs : List Pg} {i : Nat} {p : Pg}, (xs.take i).all (fun p => !fits p.2 n) = true → xs[i]? = some p → fits p.2 n = true → firstFit n xs = some i
  | [], i, o, _, h, _ => by simp at h
  | x :: xs, 0, o, _, h, hl => by
    simp at h; subst h; simp [firstFit, hl]
  | x :: xs, i + 1, o, ha, h, hl => by
    simp only [List.take_succ_cons, List.all_cons, Bool.and_eq_true] at ha
    have := firstFit_some (xs := xs) (i := i) ha.2 (by simpa using h) hl
    have hx : fits x.2 n = false := by simpa using ha.1
    simp [firstFit, hx, this]
theorem firstFit_none {n : Int} : ∀ {xs : List Pg}, xs.all (fun p => !fits p.2 n) = true → firstFit n xs = none
  | [], _ => rfl
  | x :: xs, h => by
    simp only [List.all_cons, Bool.and_eq_true] at h
    have hx : fits x.2 n = false := by simpa using h.1
    simp [firstFit, hx, firstFit_none h.2]
def findP (L : List Pg) (last : Nat) (n : Int) : Int × Bool × Nat := match L[last]? with
  | some p => if fits p.2 n then (last, true, last) else match firstFit n L with
    | some i => (i, true, i)
    | none => (0, false, last)
  | none => (0, false, last)
abbrev findAV (r : Int × Bool × Nat) : AV := .tuple [.int .i64 r.1, .bool r.2.1]

theorem find_nil (n : Int) : ACall Try.prog 11 [.nilptr, .int .i64 n] [] (.tuple [.int .i64 0, .bool false]) [] := by
  refine ACall.run (Z := Z) (N := 45) mixed hZ Try.func11 rfl rfl (by kernel_rfl) (by simp) (nil_args int_arg) 0 ?_
  simp -dsimp -implicitDefEqProofs only [↓j0, ↓j1, ↓j7, ↓j10, ↓j12, ↓j13, ↓j15, j17, j18, j20, ↓j25, ↓j29, ↓j30, j32, j33, j35, ↓j38, ↓j39, ↓j48, ↓j145, ↓j146, ↓j147, ↓j149, argEnv, j172, reduceCtorEq, ↓reduceIte, j194, j196, j211, ↓j236, j266]
  exact Final.many (.inr rfl) (rs := [.tmp 4, .tmp 5]) (us := [.int .i64 0, .bool false]) rfl ⟨⟨rfl, fun vs h => by cases h⟩, ⟨rfl, fun vs h => by cases h⟩, trivial⟩ (by simp) ⟨.same _ trivial, .same _ trivial, trivial⟩
def fdSt (L : List Pg) (last : Nat) (n : Int) (i m : Nat) : St := ⟨45, [(31, .int .i64 i), (30, .int .i64 L.length), (29, .sl 0 0 [] 0 L.length L.length 2), (0, .ptr 1 0 []), (1, .int .i64 n), (4, .int .i64 0), (5, .bool false)], roomH L last, m + 2⟩
theorem find_spec (L : List Pg) (last : Nat) (n : Int) (hs : Small L) (hl : last < L.length) : ACall Try.prog 11 [.ptr 1 0 [], .int .i64 n] (roomH L last) (findAV (findP L last n)) (roomH L (findP L last n).2.2) := by
  refine ACall.runH (Z := Z) (N := 45) mixed hZ Try.func11 rfl rfl (by kernel_rfl) (by simp) (room_args int_arg) (room_on _ (by simp)) 2 room_lt ?_
  have ret : ∀ (r : Int × Bool × Nat) (t : Env) (H : Heap) (m : Nat), r = findP L last n → look t 4 = some (.int .i64 r.1) → look t 5 = some (.bool r.2.1) → Heap.get H 1 = some (roomB 0 L r.2.2) → Heap.get H 0 = some (listB L) →
      Final Try.prog Try.f11 (findAV (findP L last n)) (roomH L (findP L last n).2.2) .ret ⟨45, t, H, m⟩ := by
    intro r t H m hr h4 h5 h1 h0
    rw [← hr]
    exact Final.manyH (.inr rfl) (rs := [.tmp 4, .tmp 5]) (us := [.int .i64 r.1, .bool r.2.1]) rfl ⟨⟨h4, fun vs h => by cases h⟩, ⟨h5, fun vs h => by cases h⟩, trivial⟩ (by simp) ⟨.same _ trivial, .same _ trivial, trivial⟩ (room_keep h1 h0)
  obtain ⟨p, hp⟩ := list_get (xs := L) hl
  have hpm := hs.2 p (List.mem_of_getElem? hp)
  have hsz := sizeL_pg L last (by omega)
  have hlt : (last : Int) < (L.length : Int) := by omega
  have hfs := fits_spec p.1 p.2 n (by omega)
  have hfp : findP L last n = if fits p.2 n then ((last : Int), true, last) else match firstFit n L with
    | some i => (i, true, i)
    | none => (0, false, last) := by simp only [findP, hp]
  simp -dsimp -implicitDefEqProofs only [↓j0, ↓j1, ↓j4, ↓j7, ↓j8, ↓j9, ↓j12, ↓j13, ↓j15, j17, j18, j20, j24, ↓j25, ↓j27, ↓j29, ↓j30, j32, j33, j35, ↓j38, ↓j39, ↓j43, ↓j45, ↓j46, ↓j48, ↓j53, ↓j56, ↓j76, ↓j79, ↓j93, j129, j130, j135, ↓j145, ↓j146, ↓j148, ↓j149, ↓j153, AV.proj, AV.offOf, AV.size, AV.sizeL, argEnv, j163, j164, j166, j167, j170, j171, j172, j174, j177, reduceCtorEq, ↓reduceIte, Nat.reduceAdd, Nat.reduceEqDiff, j182, j196, j197, j206, j207, j208, j211, ↓j235, j250, j266, j271, j272, j289, j290, j358, j361, hp, hlt, hsz]
  refine CallTo.pure (args := [undoAV p.1 p.2, .int .i64 n]) rfl fok18 (by simp -dsimp -implicitDefEqProofs only [↓j25, ↓j29, j173, j174, ↓reduceIte, Nat.reduceEqDiff]) (fun x hx => (args2 x hx).2) hfs ?_
  simp -dsimp -implicitDefEqProofs only [↓j3, j17, j18, j20, j24, j170, j171, j172, j174]
  refine ⟨by kernel_rfl, ?_⟩
  simp -dsimp -implicitDefEqProofs only [↓j13, ↓j25, ↓j29, ↓j145, ↓j149, ↓reduceIte]
  cases hf : fits p.2 n
  · rw [hf] at hfp
    simp only [Bool.false_eq_true, if_false] at hfp
    simp -dsimp -implicitDefEqProofs only [↓j0, ↓j1, ↓j7, ↓j9, ↓j12, ↓j14, ↓j15, ↓j16, j17, j18, j20, ↓j25, ↓j27, ↓j29, ↓j30, j33, ↓j38, ↓j43, ↓j45, ↓j56, ↓j58, ↓j61, ↓j76, ↓j79, j135, j143, ↓j145, ↓j146, ↓j148, ↓j153, AV.proj, AV.offOf, AV.sizeL, j163, j167, j171, reduceCtorEq, ↓reduceIte, j182, j197, j271, j358, j413]
    refine AWp.loopR (Z := Z) mixed hZ (by kernel_rfl) (fun k s => ∃ i m, i + k = L.length ∧ (L.take i).all (fun p => !fits p.2 n) = true ∧ s = fdSt L last n i m) (n0 := L.length) (s0 := fdSt L last n 0 0) ?_ ⟨0, 0, by omega, by simp, rfl⟩ ?_ rfl
    · exact Wk.sub (by simp -dsimp -implicitDefEqProofs only [↓j25, ↓j27, j179, reduceCtorEq, ↓reduceIte, Nat.reduceEqDiff, j182, j183, j184, j196, j202, j203, j204, j205, j209, j223] <;> simp)
    · rintro k s ⟨i, m, hi, hall, rfl⟩
      refine ⟨rfl, ?_⟩
      simp -dsimp -implicitDefEqProofs only [↓j0, ↓j1, ↓j7, ↓j12, ↓j13, ↓j15, j17, j18, j20, ↓j25, ↓j29, ↓j48, ↓j89, ↓j145, ↓j146, ↓j149, j159, j171, ↓reduceIte, Nat.reduceEqDiff, j185, fdSt]
      refine ⟨fun hlt => ?_, fun hge => ?_⟩
      · have hlt' : (i : Int) < (L.length : Int) := of_decide_eq_true hlt
        obtain ⟨q, hq⟩ := list_get (xs := L) (i := i) (by omega)
        have hqm := hs.2 q (List.mem_of_getElem? hq)
        have hsz := sizeL_pg L i (by omega)
        have hw : IntKind.i64.wrap ((i : Int) + 1) = ((i + 1 : Nat) : Int) := by rw [wrap_i64 (by have := hs.1; omega) (by have := hs.1; omega)]; omega
        have hfq := fits_spec q.1 q.2 n (by omega)
        simp -dsimp -implicitDefEqProofs only [↓j0, ↓j1, ↓j7, ↓j9, ↓j12, ↓j14, ↓j15, j17, j18, j19, j20, j21, j22, j23, ↓j25, ↓j27, ↓j29, ↓j38, ↓j39, ↓j41, ↓j43, ↓j44, ↓j46, ↓j53, ↓j76, ↓j78, ↓j93, j129, ↓j145, ↓j146, ↓j153, AV.proj, AV.offOf, AV.upd, AV.size, AV.sizeL, AV.layable, j170, j171, j177, reduceCtorEq, ↓reduceIte, Nat.reduceAdd, Nat.reduceEqDiff, j182, j191, j196, j197, j206, j207, j208, j224, j272, j289, j290, j374, hq, hlt', hsz]
        refine CallTo.pure (args := [undoAV q.1 q.2, .int .i64 n]) rfl fok18 (by simp -dsimp -implicitDefEqProofs only [↓j25, ↓j29, j173, j174, ↓reduceIte, Nat.reduceEqDiff]) (fun x hx => (args2 x hx).2) hfq ?_
        cases hqf : fits q.2 n
        · simp -dsimp -implicitDefEqProofs only [↓j0, ↓j1, ↓j7, ↓j9, ↓j13, ↓j15, j17, j18, j20, ↓j25, ↓j29, ↓j30, j33, ↓j38, ↓j48, ↓j89, ↓j145, ↓j146, ↓j148, ↓j149, j154, j171, ↓reduceIte, Nat.reduceEqDiff, j185]
          exact ⟨k - 1, fdSt L last n (i + 1) (m + 1), by omega, ⟨i + 1, m + 1, by omega, by rw [take_succ hq]; simp [hqf]; simpa using hall, rfl⟩, Wk.sub (by simp -dsimp -implicitDefEqProofs only [↓j25, ↓j27, reduceCtorEq, ↓reduceIte, Nat.reduceAdd, Nat.reduceEqDiff, j182, j202, j203, j204, j205, j223, j224, hw] <;> simp)⟩
        · simp -dsimp -implicitDefEqProofs only [↓j0, ↓j1, ↓j7, ↓j10, ↓j12, ↓j13, ↓j15, j17, j18, j19, j20, j21, j22, j23, ↓j25, ↓j27, ↓j29, ↓j30, j32, ↓j38, ↓j39, ↓j44, ↓j45, ↓j56, ↓j78, ↓j79, ↓j145, ↓j146, ↓j147, ↓j149, ↓j153, AV.proj, AV.offOf, AV.upd, AV.size, AV.sizeL, AV.layable, j163, j164, j166, j167, j168, j169, j170, j171, reduceCtorEq, ↓reduceIte, Nat.reduceEqDiff, j182, j196, j197, j249, j361]
          rw [firstFit_some hall hq hqf] at hfp
          refine ret (i, true, i) _ _ _ hfp.symm ?_ ?_ ?_ ?_
          · rfl
          · rfl
          · rfl
          · rfl
      · have hge' : ¬ (i : Int) < (L.length : Int) := of_decide_eq_false hge
        have : L.take i = L := List.take_of_length_le (by omega)
        rw [this] at hall
        rw [firstFit_none hall] at hfp
        simp -dsimp -implicitDefEqProofs only [↓j0, ↓j1, ↓j7, ↓j10, ↓j11, ↓j12, ↓j15, j17, j18, j20, ↓j30, j32, j33, ↓j39, ↓j145, j171, ↓reduceIte, hge]
        refine ret (0, false, last) _ _ _ hfp.symm ?_ ?_ ?_ ?_
        · rfl
        · rfl
        · rfl
        · rfl
  · rw [hf] at hfp
    simp -dsimp -implicitDefEqProofs only [↓j0, ↓j1, ↓j7, ↓j10, ↓j12, ↓j15, j17, j18, j20, ↓j25, ↓j27, ↓j29, ↓j30, j32, ↓j38, ↓j39, ↓j43, ↓j45, ↓j56, ↓j76, ↓j79, j130, ↓j145, ↓j146, ↓j147, ↓j153, AV.proj, AV.offOf, AV.size, AV.sizeL, j163, j164, j166, j167, j171, reduceCtorEq, ↓reduceIte, j182, j196, j197, j250, j361]
    refine ret (last, true, last) _ _ _ hfp.symm ?_ ?_ ?_ ?_
    · rfl
    · rfl
    · rfl
    · rfl

theorem small0 : Small (L0 2) := ⟨by decide, fun p hp => by
  rw [List.eq_of_mem_replicate hp]; simp⟩
theorem fok7 : fnOk Try.prog 7 = true := by kernel_rfl
theorem put_new {L : List Pg} {last : Nat} {HH : List Nat} : ∀ n x, Heap.get (roomH L last) n = some x → n ∉ HH → 0 ≤ n ∧ n < 2 := by
  intro n x h _
  rcases get_room h with ⟨rfl, _⟩ | ⟨rfl, _⟩ <;> omega
theorem put_same {L L' : List Pg} {last last' m k : Nat} : ∀ n x, Heap.get (roomH L last) n = some x → n ∉ (roomH L' last').map (·.1) → m ≤ n ∧ n < k := by
  intro n x h hn
  rcases get_room h with ⟨rfl, _⟩ | ⟨rfl, _⟩ <;> simp at hn
theorem notup {x y : AV} (hx : ∀ vs, x ≠ .tuple vs) (hy : ∀ vs, y ≠ .tuple vs) : ∀ z, z ∈ [x, y] → ∀ vs, z ≠ .tuple vs := fun z hz => by
  simp only [List.mem_cons, List.not_mem_nil, or_false] at hz
  rcases hz with rfl | rfl
  · exact hx
  · exact hy
theorem notup1 {x : AV} (hx : ∀ vs, x ≠ .tuple vs) : ∀ z, z ∈ [x] → ∀ vs, z ≠ .tuple vs := fun z hz => by
  simp only [List.mem_singleton] at hz; subst hz; exact hx

theorem awake_spec : ACall Try.prog 7 [] [] (.bool true) [] := by
  refine ACall.run (Z := Z) (N := 24) mixed hZ Try.func7 rfl rfl (by kernel_rfl) (by simp) ptr_arg 0 ?_
  simp -dsimp -implicitDefEqProofs only [↓j0, ↓j1, ↓j7, ↓j12, ↓j15, j17, j18, j20, ↓j30, j32, ↓j39, ↓j53, ↓j145, argEnv, j172]
  refine CallTo.gen (args := [.int .i64 2]) [] (roomH (L0 2) 0) 2 rfl fok6 (by simp -dsimp -implicitDefEqProofs only [↓j30, j33, j173, j174]) (notup1 fun vs h => by cases h) (new_spec 2 (by omega) (by omega)) (fun n b h => by simp [Heap.get] at h) ⟨by simp, put_new⟩ ?_
  have hf := find_spec (L0 2) 0 5 small0 (by simp)
  have hff : fits ([] : List Old) 5 = true := by decide
  have hfp : findP (L0 2) 0 5 = (0, true, 0) := by simp [findP, L0, hff]
  rw [hfp] at hf
  simp -dsimp -implicitDefEqProofs only [↓j0, ↓j1, ↓j7, ↓j12, ↓j15, j17, j18, j20, ↓j25, ↓j29, ↓j38, ↓j39, ↓j53, ↓j145, j171, j172, j174, ↓reduceIte, List.replicate]
  refine CallTo.gen (args := [.ptr 1 0 [], .int .i64 5]) (roomH (L0 2) 0) (roomH (L0 2) 0) 2 rfl fok11' (by simp -dsimp -implicitDefEqProofs only [↓j25, ↓j29, ↓j30, j33, j173, j174, ↓reduceIte]) (notup (fun vs h => by cases h) fun vs h => by cases h) hf (fun n b h => h) ⟨by simp, put_same⟩ ?_
  have hls := lives_spec (L0 2) 0 small0
  have hl0 : liveAll (L0 2) = 0 := by decide
  rw [hl0] at hls
  simp -dsimp -implicitDefEqProofs only [↓j0, ↓j1, ↓j2, ↓j7, ↓j12, ↓j15, j17, j18, j20, j21, j22, j23, ↓j25, ↓j29, ↓j30, j32, j33, j35, ↓j38, ↓j39, ↓j40, ↓j48, ↓j53, ↓j57, j83, j85, ↓j89, ↓j145, ↓j146, ↓j147, ↓j150, j157, j163, j164, j171, j172, j173, j174, j175, reduceCtorEq, ↓reduceIte, Nat.reduceEqDiff, j185, j212, List.replicate, Int.reduceBEq, ↓j235, j266]
  refine CallTo.gen (args := [.ptr 1 0 []]) (roomH (L0 2) 0) (roomH (L0 2) 0) 2 rfl fok17 (by simp -dsimp -implicitDefEqProofs only [↓j25, ↓j29, j173, j174, ↓reduceIte]) (notup1 fun vs h => by cases h) hls (fun n b h => h) ⟨by simp, put_same⟩ ?_
  have z0 : (((0 : Nat) : Int) == 0) = true := rfl
  simp -dsimp -implicitDefEqProofs only [↓j0, ↓j1, ↓j2, ↓j10, j17, j18, j20, j21, j22, j23, ↓j25, ↓j29, ↓j30, j32, j33, ↓j39, ↓j40, ↓j48, j83, ↓j89, ↓j145, ↓j146, ↓j147, ↓j150, j157, j163, j164, j171, j172, j173, j174, j175, reduceCtorEq, ↓reduceIte, Nat.reduceEqDiff, j185, List.replicate, z0]
  exact Final.one (.inr rfl) (r := .tmp 0) rfl ⟨rfl, fun vs h => by cases h⟩ (fun vs h => by cases h) (fun vs h => by cases h) (.same _ trivial)
end Go.Proofs.Ytlagoaggllhggaa
