/- The document's room: Note and Find. -/
import Derived.Test.YtlagoaggllhggaaB14
set_option linter.unusedVariables false
set_option linter.unusedSimpArgs false
namespace Go.Proofs.Ytlagoaggllhggaa
open Go Go.RowKit

abbrev rroomH (L : List Pg) (last : Nat) : Heap := [(3, roomB 2 L last), (2, listB L)]
theorem get_rroom {L : List Pg} {last : Nat} {n : Nat} {b : ABlk} (h : Heap.get (rroomH L last) n = some b) : (n = 3 ∧ b = roomB 2 L last) ∨ (n = 2 ∧ b = listB L) := by
  simp only [Heap.get] at h
  by_cases h1 : n = 3
  · subst h1; simp only [if_true, Option.some.injEq] at h; exact .inl ⟨rfl, h.symm⟩
  · rw [if_neg h1] at h
    by_cases h0 : n = 2
    · subst h0; simp only [if_true, Option.some.injEq] at h; exact .inr ⟨rfl, h.symm⟩
    · simp [h0] at h
theorem rroom_on {L : List Pg} {last : Nat} (S : Nat → Prop) (h0 : S 2) : ∀ n b, Heap.get (rroomH L last) n = some b → b.on S := by
  intro n b h
  rcases get_rroom h with ⟨_, rfl⟩ | ⟨_, rfl⟩
  · exact ⟨h0, trivial, trivial⟩
  · exact on_pg _ _
theorem rroom_keep {L : List Pg} {last : Nat} {H : Heap} (h1 : Heap.get H 3 = some (roomB 2 L last)) (h0 : Heap.get H 2 = some (listB L)) :
    ∀ n b, Heap.get (rroomH L last) n = some b → ∃ b0, Heap.get H n = some b0 ∧ BFrz (fun n => Heap.get (rroomH L last) n ≠ none) H b0 b := by
  intro n b h
  rcases get_rroom h with ⟨rfl, rfl⟩ | ⟨rfl, rfl⟩
  · exact ⟨_, h1, .same _ ⟨show Heap.get (rroomH L last) 2 ≠ none by simp [Heap.get], trivial, trivial⟩⟩
  · exact ⟨_, h0, .same _ (on_pg _ _)⟩
theorem rroom_args {L : List Pg} {last : Nat} {ws : List AV} (ha : ∀ x, x ∈ ws → AV.on (fun _ => False) x ∧ ∀ vs, x ≠ .tuple vs) : ∀ x, x ∈ .ptr 3 0 [] :: ws → AV.on (fun n => n ∈ (rroomH L last).map (·.1)) x ∧ ∀ vs, x ≠ .tuple vs := by
  intro x hx
  rcases List.mem_cons.1 hx with rfl | hx
  · exact ⟨by show (3 : Nat) ∈ _; simp, fun vs h => by cases h⟩
  · exact ⟨on_mono (fun _ h => h.elim) (ha x hx).1, (ha x hx).2⟩
theorem rroom_lt {L : List Pg} {last : Nat} : ∀ n, n ∈ (rroomH L last).map (·.1) → n < 4 := by
  intro n hn; simp at hn; omega

theorem rnote_spec (L : List Pg) (last : Nat) (no lsn : Int) (xs : List Old) (hx : xs.length ≤ 100) : ACall Try.prog 10 [.ptr 3 0 [], .int .i64 no, undoAV lsn xs] (rroomH L last) (.tuple []) (rroomH (noteP L no (lsn, xs)) last) := by
  refine ACall.runH (Z := Z) (N := 25) mixed hZ Try.func10 rfl rfl (by kernel_rfl) (by simp) (rroom_args argsN) (rroom_on _ (by simp)) 4 rroom_lt ?_
  by_cases h0 : 0 ≤ no
  · by_cases h1 : no < (L.length : Int)
    · have e0 : decide (0 ≤ no) = true := decide_eq_true h0
      have e1 : decide (no < (L.length : Int)) = true := decide_eq_true h1
      have e : noteP L no (lsn, xs) = L.set no.toNat (lsn, xs) := by rw [noteP, hasP_iff.2 ⟨h0, h1⟩]; rfl
      rw [e]
      obtain ⟨q, hq⟩ := list_get (xs := L) (i := no.toNat) (by omega)
      have hsz := sizeL_pg L no.toNat (by omega)
      have hset : (L.map Pg.av).set no.toNat (undoAV lsn xs) = (L.set no.toNat (lsn, xs)).map Pg.av := by rw [List.map_set]
      have hll : (L.set no.toNat (lsn, xs)).length = L.length := List.length_set
      simp -dsimp -implicitDefEqProofs only [↓j0, ↓j1, ↓j2, ↓j4, ↓j7, ↓j8, ↓j12, ↓j13, ↓j15, j17, j18, j20, j24, ↓j25, ↓j27, ↓j29, ↓j30, j32, j33, ↓j38, ↓j40, ↓j42, ↓j43, ↓j45, ↓j48, ↓j53, ↓j56, ↓j58, ↓j61, ↓j76, ↓j79, j83, ↓j89, j129, j135, j143, ↓j145, ↓j146, ↓j147, ↓j149, ↓j150, ↓j153, j159, j162, AV.proj, AV.offOf, AV.size, AV.sizeL, AV.layable, argEnv, j163, j164, j167, j170, j171, j172, j174, j175, reduceCtorEq, ↓reduceIte, Nat.reduceAdd, Nat.reduceEqDiff, j182, j185, j196, j197, j271, j277, j289, j290, j413, e0, e1]
      refine CallTo.pure (args := [undoAV lsn xs]) rfl fok9 (by simp -dsimp -implicitDefEqProofs only [↓j25, ↓j29, j173, j174, ↓reduceIte]) (fun x hx => (args1 x hx).2) (kept_spec lsn xs (by omega)) ?_
      simp -dsimp -implicitDefEqProofs only [↓j3, ↓j4, j17, j18, j19, j20, j21, j22, j23, j24, ↓j25, ↓j27, ↓j29, ↓j44, ↓j46, ↓j78, ↓j93, ↓j145, ↓j146, ↓j153, AV.proj, AV.offOf, AV.upd, AV.size, AV.sizeL, AV.layable, j170, j171, j172, j173, j174, j177, ↓reduceIte, Nat.reduceAdd, Nat.reduceEqDiff, j182, j196, j197, j206, j272, j289, h0, h1, hq, hsz]
      refine ⟨by kernel_rfl, ?_⟩
      refine Final.manyH (.inl rfl) (rs := []) (us := []) rfl trivial (by simp) trivial (rroom_keep ?_ ?_)
      · simp only [roomB, hll]; rfl
      · rw [listB, ← hset]; rfl
    · have e0 : decide (0 ≤ no) = true := decide_eq_true h0
      have e1 : decide (no < (L.length : Int)) = false := decide_eq_false h1
      have e : noteP L no (lsn, xs) = L := by
        rw [noteP, if_neg (fun h => h1 (hasP_iff.1 h).2)]
      rw [e]
      simp -dsimp -implicitDefEqProofs only [↓j0, ↓j1, ↓j2, ↓j7, ↓j9, ↓j12, ↓j13, ↓j15, j17, j18, j20, ↓j25, ↓j27, ↓j29, ↓j30, j32, j33, ↓j38, ↓j40, ↓j42, ↓j43, ↓j45, ↓j48, ↓j56, ↓j58, ↓j61, ↓j76, ↓j79, j83, ↓j89, j135, j143, ↓j145, ↓j146, ↓j147, ↓j148, ↓j149, ↓j150, ↓j153, j159, j162, AV.proj, AV.offOf, AV.sizeL, AV.layable, argEnv, j163, j164, j167, j170, j171, j175, reduceCtorEq, ↓reduceIte, Nat.reduceAdd, Nat.reduceEqDiff, j182, j185, j196, j197, j271, j277, j413, e0, e1]
      exact Final.manyH (.inl rfl) (rs := []) (us := []) rfl trivial (by simp) trivial (rroom_keep rfl rfl)
  · have e0 : decide (0 ≤ no) = false := decide_eq_false h0
    have e : noteP L no (lsn, xs) = L := by
      rw [noteP, if_neg (fun h => h0 (hasP_iff.1 h).1)]
    rw [e]
    simp -dsimp -implicitDefEqProofs only [↓j0, ↓j1, ↓j2, ↓j7, ↓j9, ↓j12, ↓j13, ↓j15, j17, j18, j20, ↓j25, ↓j29, ↓j30, j32, j33, ↓j38, ↓j40, ↓j42, ↓j48, j82, ↓j89, ↓j145, ↓j146, ↓j148, ↓j149, ↓j150, j162, AV.layable, argEnv, j163, j164, j170, j171, j175, reduceCtorEq, ↓reduceIte, Nat.reduceAdd, Nat.reduceEqDiff, j185, j196, e0]
    exact Final.manyH (.inl rfl) (rs := []) (us := []) rfl trivial (by simp) trivial (rroom_keep rfl rfl)

theorem fok23 : fnOk Try.prog 23 = true := by kernel_rfl
def rfdSt (L : List Pg) (last : Nat) (n : Int) (i m : Nat) : St := ⟨46, [(6, .int .i64 i), (0, .ptr 3 0 []), (1, .int .i64 n), (4, .int .i64 0), (5, .bool false)], rroomH L last, m + 4⟩
theorem rfind_spec (L : List Pg) (last : Nat) (n : Int) (hs : Small L) (hl : last < L.length) : ACall Try.prog 12 [.ptr 3 0 [], .int .i64 n] (rroomH L last) (findAV (findP L last n)) (rroomH L (findP L last n).2.2) := by
  refine ACall.runH (Z := Z) (N := 46) mixed hZ Try.func12 rfl rfl (by kernel_rfl) (by simp) (rroom_args int_arg) (rroom_on _ (by simp)) 4 rroom_lt ?_
  have ret : ∀ (r : Int × Bool × Nat) (t : Env) (H : Heap) (m : Nat), r = findP L last n → look t 4 = some (.int .i64 r.1) → look t 5 = some (.bool r.2.1) → Heap.get H 3 = some (roomB 2 L r.2.2) → Heap.get H 2 = some (listB L) →
      Final Try.prog Try.f12 (findAV (findP L last n)) (rroomH L (findP L last n).2.2) .ret ⟨46, t, H, m⟩ := by
    intro r t H m hr h4 h5 h1 h0
    rw [← hr]
    exact Final.manyH (.inr rfl) (rs := [.tmp 4, .tmp 5]) (us := [.int .i64 r.1, .bool r.2.1]) rfl ⟨⟨h4, fun vs h => by cases h⟩, ⟨h5, fun vs h => by cases h⟩, trivial⟩ (by simp) ⟨.same _ trivial, .same _ trivial, trivial⟩ (rroom_keep h1 h0)
  obtain ⟨p, hp⟩ := list_get (xs := L) hl
  have hpm := hs.2 p (List.mem_of_getElem? hp)
  have hsz := sizeL_pg L last (by omega)
  have hlt : (last : Int) < (L.length : Int) := by omega
  have hfs := rfits_spec p.1 p.2 n (by omega)
  have hfp : findP L last n = if fits p.2 n then ((last : Int), true, last) else match firstFit n L with
    | some i => (i, true, i)
    | none => (0, false, last) := by simp only [findP, hp]; rfl
  simp -dsimp -implicitDefEqProofs only [↓j0, ↓j1, ↓j4, ↓j7, ↓j8, ↓j12, ↓j15, j17, j18, j20, j24, ↓j25, ↓j27, ↓j29, ↓j30, j32, j33, ↓j38, ↓j39, ↓j43, ↓j45, ↓j46, ↓j53, ↓j56, ↓j76, ↓j79, ↓j93, j129, j130, j135, ↓j145, ↓j146, ↓j153, AV.proj, AV.offOf, AV.size, AV.sizeL, argEnv, j163, j164, j166, j167, j170, j171, j172, j174, j177, reduceCtorEq, ↓reduceIte, Nat.reduceAdd, Nat.reduceEqDiff, j182, j196, j197, j206, j207, j208, j250, j271, j272, j277, j280, j289, j290, hp, hlt, hsz]
  refine CallTo.pure (args := [undoAV p.1 p.2, .int .i64 n]) rfl fok23 (by simp -dsimp -implicitDefEqProofs only [↓j25, ↓j29, j173, j174, ↓reduceIte, Nat.reduceEqDiff]) (fun x hx => (args2 x hx).2) hfs ?_
  simp -dsimp -implicitDefEqProofs only [↓j3, j17, j18, j20, j24, j170, j171, j172, j174]
  refine ⟨by kernel_rfl, ?_⟩
  simp -dsimp -implicitDefEqProofs only [↓j13, ↓j25, ↓j29, ↓j145, ↓j149, ↓reduceIte]
  cases hf : fits p.2 n
  · rw [hf] at hfp
    simp only [Bool.false_eq_true, if_false] at hfp
    simp -dsimp -implicitDefEqProofs only [↓j0, ↓j1, ↓j7, ↓j9, ↓j12, ↓j14, ↓j15, ↓j16, j17, j18, j20, ↓j30, j33, ↓j39, ↓j145, ↓j148, j171]
    refine AWp.loopR (Z := Z) mixed hZ (by kernel_rfl) (fun k s => ∃ i m, i + k = L.length ∧ (L.take i).all (fun p => !fits p.2 n) = true ∧ s = rfdSt L last n i m) (n0 := L.length) (s0 := rfdSt L last n 0 0) ?_ ⟨0, 0, by omega, by simp, rfl⟩ ?_ rfl
    · exact Wk.sub (by simp -dsimp -implicitDefEqProofs only [↓j25, ↓j27, j179, reduceCtorEq, ↓reduceIte, Nat.reduceEqDiff, j182, j183, j184, j196, j202, j203, j204, j205, j209, j223] <;> simp)
    · rintro k s ⟨i, m, hi, hall, rfl⟩
      refine ⟨rfl, ?_⟩
      rcases Nat.lt_or_ge i L.length with hlt | hge
      · have hd : decide ((i : Int) < (L.length : Int)) = true := decide_eq_true (by omega)
        have hlt' : (i : Int) < (L.length : Int) := by omega
        obtain ⟨q, hq⟩ := list_get (xs := L) (i := i) (by omega)
        have hqm := hs.2 q (List.mem_of_getElem? hq)
        have hsz := sizeL_pg L i (by omega)
        have hw : IntKind.i64.wrap ((i : Int) + 1) = ((i + 1 : Nat) : Int) := by rw [wrap_i64 (by have := hs.1; omega) (by have := hs.1; omega)]; omega
        have hfq := rfits_spec q.1 q.2 n (by omega)
        simp -dsimp -implicitDefEqProofs only [↓j0, ↓j1, ↓j7, ↓j9, ↓j12, ↓j13, ↓j14, ↓j15, j17, j18, j20, ↓j25, ↓j27, ↓j29, ↓j38, ↓j43, ↓j45, ↓j46, ↓j48, ↓j53, ↓j56, ↓j58, ↓j61, ↓j76, ↓j79, ↓j89, ↓j93, j129, j135, j143, ↓j145, ↓j146, ↓j147, ↓j149, ↓j153, j159, AV.proj, AV.offOf, AV.size, AV.sizeL, j163, j167, j171, j177, reduceCtorEq, ↓reduceIte, Nat.reduceAdd, Nat.reduceEqDiff, j182, j185, j191, j196, j197, j206, j207, j208, j271, j272, j277, j289, j290, j413, rfdSt, hq, hlt', hsz]
        refine CallTo.pure (args := [undoAV q.1 q.2, .int .i64 n]) rfl fok23 (by simp -dsimp -implicitDefEqProofs only [↓j25, ↓j29, j173, j174, ↓reduceIte, Nat.reduceEqDiff]) (fun x hx => (args2 x hx).2) hfq ?_
        cases hqf : fits q.2 n
        · simp -dsimp -implicitDefEqProofs only [↓j0, ↓j1, ↓j7, ↓j9, ↓j13, ↓j15, j17, j18, j20, ↓j25, ↓j29, ↓j30, j33, ↓j38, ↓j39, ↓j48, ↓j89, ↓j145, ↓j146, ↓j148, ↓j149, j154, j171, ↓reduceIte, Nat.reduceEqDiff, j185]
          exact ⟨k - 1, rfdSt L last n (i + 1) m, by omega, ⟨i + 1, m, by omega, by rw [take_succ hq]; simp [hqf]; simpa using hall, rfl⟩, Wk.sub (by simp -dsimp -implicitDefEqProofs only [↓j25, ↓j27, reduceCtorEq, ↓reduceIte, Nat.reduceEqDiff, j182, j202, j203, j204, j205, j223, hw] <;> simp)⟩
        · simp -dsimp -implicitDefEqProofs only [↓j0, ↓j1, ↓j7, ↓j10, ↓j12, ↓j13, ↓j15, j17, j18, j19, j20, j21, j22, j23, ↓j25, ↓j27, ↓j29, ↓j30, j32, ↓j38, ↓j39, ↓j44, ↓j45, ↓j56, ↓j78, ↓j79, ↓j145, ↓j146, ↓j147, ↓j149, ↓j153, AV.proj, AV.offOf, AV.upd, AV.size, AV.sizeL, AV.layable, j163, j164, j166, j167, j168, j169, j170, j171, reduceCtorEq, ↓reduceIte, Nat.reduceEqDiff, j182, j196, j197, j249, j280]
          rw [firstFit_some hall hq hqf] at hfp
          refine ret (i, true, i) _ _ _ hfp.symm ?_ ?_ ?_ ?_
          · rfl
          · rfl
          · rfl
          · rfl
      · have hd : decide ((i : Int) < (L.length : Int)) = false := decide_eq_false (by omega)
        have : L.take i = L := List.take_of_length_le (by omega)
        rw [this] at hall
        rw [firstFit_none hall] at hfp
        simp -dsimp -implicitDefEqProofs only [↓j0, ↓j1, ↓j7, ↓j10, ↓j11, ↓j12, ↓j13, ↓j15, j17, j18, j20, ↓j25, ↓j27, ↓j29, ↓j30, j32, j33, ↓j38, ↓j39, ↓j43, ↓j45, ↓j48, ↓j56, ↓j58, ↓j61, ↓j76, ↓j79, ↓j89, j135, j143, ↓j145, ↓j146, ↓j148, ↓j149, ↓j153, j159, AV.proj, AV.offOf, AV.sizeL, j163, j167, j171, reduceCtorEq, ↓reduceIte, Nat.reduceEqDiff, j182, j185, j197, j271, j277, j413, rfdSt, hd]
        refine ret (0, false, last) _ _ _ hfp.symm ?_ ?_ ?_ ?_
        · rfl
        · rfl
        · rfl
        · rfl
  · rw [hf] at hfp
    simp -dsimp -implicitDefEqProofs only [↓j0, ↓j1, ↓j7, ↓j10, ↓j12, ↓j15, j17, j18, j20, ↓j25, ↓j27, ↓j29, ↓j30, j32, ↓j38, ↓j39, ↓j43, ↓j45, ↓j56, ↓j76, ↓j79, j130, ↓j145, ↓j146, ↓j147, ↓j153, AV.proj, AV.offOf, AV.size, AV.sizeL, j163, j164, j166, j167, j171, reduceCtorEq, ↓reduceIte, j182, j196, j197, j250, j280]
    refine ret (last, true, last) _ _ _ hfp.symm ?_ ?_ ?_ ?_
    · rfl
    · rfl
    · rfl
    · rfl
end Go.Proofs.Ytlagoaggllhggaa
