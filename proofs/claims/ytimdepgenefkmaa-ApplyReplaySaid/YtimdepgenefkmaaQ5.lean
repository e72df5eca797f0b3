import Derived.Test.YtimdepgenefkmaaQ4
set_option maxRecDepth 8000
set_option linter.unusedVariables false
set_option linter.unusedSimpArgs false
namespace Go.Proofs.Ytimdepgenefkmaa
open Go Go.RowKit

theorem getUndo_ok {no : Nat} {p : List UInt8} (hp : p.length = 224) {u : Ud} (h : getUndo no p = some u) : u.Ok ∧ mayP u = true ∧ u.lsn = lsnOf p := by
  unfold getUndo at h
  split at h
  · cases hd : decL p (p.getD 15 0).toNat 16 with
    | none => rw [hd] at h; cases h
    | some l =>
      rw [hd] at h
      simp only at h
      split at h
      · rename_i hc
        simp only [Option.some.injEq] at h
        subst h
        rw [Bool.and_eq_true] at hc
        obtain ⟨h1, _, h3⟩ := decL_text hp hd
        have hb := (p.getD 15 0).toNat_lt
        exact ⟨⟨Nat.lt_of_lt_of_le (numAt_lt (p := p) (o := 7) (n := 8)) (by decide), by show l.length ≤ _; omega, h3⟩, hc.2, rfl⟩
      · cases h
  · cases h
structure En where
  lsn : Nat
  rc : Rc
abbrev En.av (e : En) : AV := .agg [.int .u64 e.lsn, e.rc.av]
structure En.Ok (e : En) : Prop where
  lsn : e.lsn < 18446744073709551616
  rc : e.rc.Ok
theorem on_en (S : Nat → Prop) (e : En) : AV.on S e.av := ⟨trivial, on_rc _ _, trivial⟩
def stepU (u : Ud) (r : Rc) : Option Ud :=
  if r.kind = 3 then (if (addU u r.old).2.2 = 0 ∧ (addU u r.old).2.1 = (r.slot : Int) then some (addU u r.old).1 else none)
  else if r.kind = 4 then (if (freeU u r.slot).2 = 0 then some (freeU u r.slot).1 else none)
  else if r.kind = 5 then (if (cutU u r.slot).2 = 0 then some (cutU u r.slot).1 else none)
  else some u
def undoP (no : Nat) (p : List UInt8) (e : En) : List UInt8 × Int :=
  match getUndo no p with
  | none => (zb 224, 2)
  | some u => match stepU u e.rc with
    | none => (zb 224, 2)
    | some v => (putUndo no ⟨e.lsn, v.olds⟩, if mayP ⟨e.lsn, v.olds⟩ then 0 else 1)
theorem undoP_len {no : Nat} {p : List UInt8} {e : En} : (undoP no p e).1.length = 224 := by
  unfold undoP
  split
  · exact zb_len 224
  · split
    · exact zb_len 224
    · exact putUndo_len
theorem args_npe {no : Nat} {p : List UInt8} {e : En} : ∀ x, x ∈ [AV.int .u16 (no : Int), arrAV p, e.av] → AV.on (fun _ => False) x ∧ ∀ vs, x ≠ .tuple vs := fun x hx => by
  simp only [List.mem_cons, List.not_mem_nil, or_false] at hx
  rcases hx with rfl | rfl | rfl
  · exact ⟨trivial, fun vs h => by cases h⟩
  · exact ⟨on_bytes _ _, fun vs h => by cases h⟩
  · exact ⟨on_en _ _, fun vs h => by cases h⟩
theorem fok36 : fnOk Try.prog 36 = true := by kernel_rfl
theorem fok37 : fnOk Try.prog 37 = true := by kernel_rfl
theorem fok38 : fnOk Try.prog 38 = true := by kernel_rfl
theorem notupU {u : Ud} {k : IntKind} {n : Int} : ∀ x, x ∈ [u.av, AV.int k n] → ∀ vs, x ≠ .tuple vs := fun x hx vs h => by
  simp only [List.mem_cons, List.not_mem_nil, or_false] at hx
  rcases hx with rfl | rfl <;> cases h
theorem notupN {u : Ud} {k : IntKind} {n : Int} : ∀ x, x ∈ [AV.int k n, u.av] → ∀ vs, x ≠ .tuple vs := fun x hx vs h => by
  simp only [List.mem_cons, List.not_mem_nil, or_false] at hx
  rcases hx with rfl | rfl <;> cases h
abbrev pgAV (r : List UInt8 × Int) : AV := .tuple [arrAV r.1, .int .i64 r.2]
set_option maxHeartbeats 3200000 in
theorem undo_spec (no : Nat) (hno : no < 65536) (p : List UInt8) (hp : p.length = 224) (e : En) (he : e.Ok) : ACall Try.prog 17 [.int .u16 no, arrAV p, e.av] [] (pgAV (undoP no p e)) [] := by
  refine ACall.run (Z := Z) (N := 77) mixed hZ Try.func17 rfl rfl (by kernel_rfl) (by simp) args_npe 0 ?_
  have hz := zb_len 224
  have hi := he.rc.image
  have hlen := undoP_len (no := no) (p := p) (e := e)
  have ret : ∀ (r : List UInt8 × Int) (t : Env) (H : Heap) (m : Nat), r = undoP no p e → look t 6 = some (.ptr 2 0 []) → look t 7 = some (.int .i64 r.2) → Heap.get H 2 = some (.cells (arrAV r.1)) → Final Try.prog Try.f17 (pgAV (undoP no p e)) [] .ret ⟨77, t, H, m⟩ := fun r t H m hr h1 h2 h3 => by
    subst hr
    exact Final.many (.inr rfl) (rs := [.cell 6 26, .tmp 7]) (us := [arrAV (undoP no p e).1, .int .i64 (undoP no p e).2]) rfl ⟨⟨2, 0, [], _, h1, h3, rfl, rfl, by simp -dsimp -implicitDefEqProofs only [j129, j182, j240, j273, j274, hlen]⟩, ⟨h2, fun vs h => by cases h⟩, trivial⟩ (by simp) ⟨.same _ (on_bytes _ _), .same _ trivial, trivial⟩
  have hgu := getUndo_spec no hno p hp
  cases hg : getUndo no p with
  | none =>
    have hU : undoP no p e = (zb 224, 2) := by unfold undoP; rw [hg]
    rw [hg] at hgu
    have n0 : ((2 : Int) != 0) = true := rfl
    simp -dsimp -implicitDefEqProofs only [↓j0, ↓j1, ↓j7, ↓j12, ↓j15, j17, j18, j20, ↓j25, ↓j27, ↓j29, ↓j30, j33, ↓j38, ↓j39, ↓j41, ↓j42, ↓j43, ↓j53, ↓j76, j129, ↓j145, ↓j146, ↓j153, AV.proj, AV.offOf, AV.layable, argEnv, j170, j171, j172, reduceCtorEq, ↓reduceIte, Nat.reduceAdd, Nat.reduceEqDiff, j182, j196, j240, j273, j274, j419, hp]
    refine CallTo.pure (args := [.int .u16 no, arrAV p]) rfl fok33 (by simp -dsimp -implicitDefEqProofs only [↓j25, ↓j29, j173, j174, ↓reduceIte, Nat.reduceEqDiff]) (fun x hx => (args_np x hx).2) hgu ?_
    simp -dsimp -implicitDefEqProofs only [↓j0, ↓j1, ↓j7, ↓j10, ↓j12, ↓j13, ↓j15, j17, j18, j19, j20, j21, j22, j23, ↓j25, ↓j27, ↓j29, ↓j30, j33, ↓j38, ↓j39, ↓j41, ↓j44, ↓j48, ↓j54, ↓j57, ↓j78, j85, ↓j89, ↓j124, j125, j127, ↓j145, ↓j146, ↓j147, ↓j149, ↓j153, j158, partsAV, AV.proj, AV.offOf, AV.upd, AV.size, AV.sizeL, AV.layable, j163, j164, j170, j171, reduceCtorEq, ↓reduceIte, Nat.reduceAdd, Nat.reduceEqDiff, j182, j185, j195, j197, j214, j218, j219, j240, j273, j391, j433, j439, hz, n0, Option.isSome_none]
    exact ret (zb 224, 2) _ _ _ hU.symm rfl rfl rfl
  | some u =>
    obtain ⟨huo, hum, hul⟩ := getUndo_ok hp hg
    have hU : undoP no p e = match stepU u e.rc with
      | none => (zb 224, 2)
      | some v => (putUndo no ⟨e.lsn, v.olds⟩, if mayP ⟨e.lsn, v.olds⟩ then 0 else 1) := by unfold undoP; rw [hg]
    rw [hg] at hgu
    have n0 : ((0 : Int) != 0) = false := rfl
    simp -dsimp -implicitDefEqProofs only [↓j0, ↓j1, ↓j7, ↓j12, ↓j15, j17, j18, j20, ↓j25, ↓j27, ↓j29, ↓j30, j33, ↓j38, ↓j39, ↓j41, ↓j42, ↓j43, ↓j53, ↓j76, j129, ↓j145, ↓j146, ↓j153, AV.proj, AV.offOf, AV.layable, argEnv, j170, j171, j172, reduceCtorEq, ↓reduceIte, Nat.reduceAdd, Nat.reduceEqDiff, j182, j196, j240, j273, j274, j419, hp]
    refine CallTo.pure (args := [.int .u16 no, arrAV p]) rfl fok33 (by simp -dsimp -implicitDefEqProofs only [↓j25, ↓j29, j173, j174, ↓reduceIte, Nat.reduceEqDiff]) (fun x hx => (args_np x hx).2) hgu ?_
    simp -dsimp -implicitDefEqProofs only [↓j0, ↓j1, ↓j7, ↓j9, ↓j12, ↓j13, ↓j14, ↓j15, j17, j18, j19, j20, j21, j22, j23, ↓j25, ↓j27, ↓j29, ↓j30, j33, ↓j38, ↓j39, ↓j41, ↓j43, ↓j44, ↓j45, ↓j48, ↓j57, ↓j76, ↓j78, ↓j79, j85, ↓j89, j129, j130, ↓j145, ↓j146, ↓j148, ↓j149, ↓j153, j157, j158, AV.proj, AV.offOf, AV.upd, AV.size, AV.sizeL, AV.layable, j163, j164, j166, j167, j170, j171, reduceCtorEq, ↓reduceIte, Nat.reduceAdd, Nat.reduceEqDiff, j182, j185, j196, j197, j240, j255, j313, j314, j316, j347, j391, j424, j433, hz, hi, n0, Option.isSome_some, Option.getD_some]
    have hbad : stepU u e.rc = none → ∀ (t : Env) (H : Heap) (m : Nat), look t 6 = some (.ptr 2 0 []) → look t 7 = some (.int .i64 2) → Heap.get H 2 = some (.cells (arrAV (zb 224))) → Final Try.prog Try.f17 (pgAV (undoP no p e)) [] .ret ⟨77, t, H, m⟩ := fun h t H m h1 h2 h3 =>
      ret (zb 224, 2) t H m (by rw [hU, h]) h1 h2 h3
    have f0 : ((0 : Int) != 0) = false := rfl
    by_cases k3 : e.rc.kind = 3
    · have e3 : ((e.rc.kind : Int) == 3) = true := by rw [beq_iff_eq]; omega
      have hst : stepU u e.rc = if (addU u e.rc.old).2.2 = 0 ∧ (addU u e.rc.old).2.1 = (e.rc.slot : Int) then some (addU u e.rc.old).1 else none := by unfold stepU; rw [if_pos k3]
      have hao := addU_ok huo he.rc.old
      have has := addU_spec u e.rc.old huo.len
      obtain ⟨⟨v, s, f⟩, hv⟩ : ∃ x, addU u e.rc.old = x := ⟨_, rfl⟩
      rw [hv] at hst hao has
      have hvo : v.Ok := hao
      simp -dsimp -implicitDefEqProofs only [↓j1, ↓j7, ↓j12, ↓j15, j17, j18, j20, ↓j25, ↓j27, ↓j29, ↓j43, ↓j45, ↓j53, ↓j76, ↓j79, j129, ↓j145, ↓j146, ↓j147, ↓j153, AV.proj, AV.offOf, AV.size, AV.sizeL, j163, j164, j166, j167, j171, ↓reduceIte, Nat.reduceAdd, Nat.reduceEqDiff, j182, j196, j197, j240, j294, j295, j337, j391, j392, hi, e3]
      refine CallTo.pure (args := [u.av, e.rc.old.av]) rfl fok36 (by simp -dsimp -implicitDefEqProofs only [↓j25, ↓j29, j173, j174, ↓reduceIte, Nat.reduceEqDiff]) args_uo has ?_
      by_cases c1 : f = 0
      · subst c1
        by_cases c2 : s = (e.rc.slot : Int)
        · subst c2
          have f1 : (((e.rc.slot : Nat) : Int) != ((e.rc.slot : Nat) : Int)) = false := by simp
          have hs2 : stepU u e.rc = some v := by rw [hst]; rw [if_pos ⟨rfl, rfl⟩]
          have hS : undoP no p e = (putUndo no ⟨e.lsn, v.olds⟩, if mayP ⟨e.lsn, v.olds⟩ then 0 else 1) := by rw [hU, hs2]
          have hpu := putUndo_spec no hno ⟨e.lsn, v.olds⟩ ⟨he.lsn, hvo.len, hvo.olds⟩
          have hpl := putUndo_len (no := no) (u := ⟨e.lsn, v.olds⟩)
          obtain ⟨P, hP⟩ : ∃ P, putUndo no ⟨e.lsn, v.olds⟩ = P := ⟨_, rfl⟩
          obtain ⟨F, hF⟩ : ∃ F : Int, (if mayP ⟨e.lsn, v.olds⟩ then (0 : Int) else 1) = F := ⟨_, rfl⟩
          rw [hP, hF] at hS
          have hpu : ACall Try.prog 39 [.int .u16 no, Ud.av ⟨e.lsn, v.olds⟩] [] (.tuple [arrAV P, .int .i64 F]) [] := by rw [← hP, ← hF]; exact hpu
          rw [hP] at hpl
          simp -dsimp -implicitDefEqProofs only [↓j0, ↓j1, ↓j2, ↓j7, ↓j9, ↓j12, ↓j13, ↓j15, j17, j18, j19, j20, j21, j22, j23, ↓j25, ↓j27, ↓j29, ↓j30, j32, j33, ↓j38, ↓j39, ↓j40, ↓j41, ↓j43, ↓j44, ↓j45, ↓j48, ↓j53, ↓j57, ↓j76, ↓j78, ↓j79, j83, j85, ↓j89, j129, j130, ↓j145, ↓j146, ↓j148, ↓j149, ↓j151, ↓j153, j158, AV.proj, AV.offOf, AV.upd, AV.size, AV.sizeL, AV.layable, j163, j164, j166, j167, j169, j170, j171, j175, reduceCtorEq, ↓reduceIte, Nat.reduceAdd, Nat.reduceEqDiff, j182, j185, j195, j196, j197, j240, j255, j278, j279, j334, j344, j391, j392, j394, j433, hi, f0, f1]
          refine CallTo.pure (args := [.int .u16 no, Ud.av ⟨e.lsn, v.olds⟩]) rfl fok39 (by simp -dsimp -implicitDefEqProofs only [↓j25, ↓j29, j173, j174, ↓reduceIte, Nat.reduceEqDiff]) notupN hpu ?_
          simp -dsimp -implicitDefEqProofs only [↓j0, ↓j1, ↓j10, j17, j18, j19, j20, j21, j22, j23, ↓j25, ↓j27, ↓j29, ↓j39, ↓j44, ↓j57, ↓j78, j85, ↓j145, ↓j146, ↓j153, AV.proj, AV.offOf, AV.upd, AV.size, AV.layable, j163, j164, j170, j171, reduceCtorEq, ↓reduceIte, Nat.reduceEqDiff, j182, j240, j273, hz, hpl]
          exact ret (P, F) _ _ _ hS.symm rfl rfl rfl
        · have f1 : (s != ((e.rc.slot : Nat) : Int)) = true := by simpa using c2
          simp -dsimp -implicitDefEqProofs only [↓j0, ↓j1, ↓j2, ↓j7, ↓j10, ↓j12, ↓j13, ↓j15, j17, j18, j19, j20, j21, j22, j23, ↓j25, ↓j27, ↓j29, ↓j30, j32, j33, ↓j38, ↓j39, ↓j40, ↓j41, ↓j43, ↓j44, ↓j45, ↓j48, ↓j54, ↓j57, ↓j76, ↓j78, ↓j79, j83, j85, ↓j89, ↓j124, j125, j127, j130, ↓j145, ↓j146, ↓j147, ↓j148, ↓j149, ↓j151, ↓j153, j158, partsAV, AV.proj, AV.offOf, AV.upd, AV.size, AV.sizeL, AV.layable, j163, j164, j166, j167, j170, j171, j175, reduceCtorEq, ↓reduceIte, Nat.reduceAdd, Nat.reduceEqDiff, j182, j185, j195, j196, j197, j214, j218, j219, j240, j255, j273, j334, j391, j433, j439, hz, hi, f0, f1]
          refine hbad (by rw [hst, if_neg (fun h => c2 h.2)]) _ _ _ ?_ ?_ ?_
          · rfl
          · rfl
          · rfl
      · have f1 : (f != 0) = true := by simpa using c1
        simp -dsimp -implicitDefEqProofs only [↓j0, ↓j1, ↓j2, ↓j7, ↓j10, ↓j12, ↓j13, ↓j15, j17, j18, j19, j20, j21, j22, j23, ↓j25, ↓j27, ↓j29, ↓j30, j32, j33, ↓j38, ↓j39, ↓j40, ↓j41, ↓j44, ↓j48, ↓j54, ↓j57, ↓j78, j81, j85, ↓j89, ↓j124, j125, j127, ↓j145, ↓j146, ↓j147, ↓j149, ↓j151, ↓j153, j158, partsAV, AV.proj, AV.offOf, AV.upd, AV.size, AV.sizeL, AV.layable, j163, j164, j170, j171, j175, reduceCtorEq, ↓reduceIte, Nat.reduceAdd, Nat.reduceEqDiff, j182, j185, j197, j214, j218, j219, j240, j273, j391, j433, j439, hz, f1]
        refine hbad (by rw [hst, if_neg (fun h => c1 h.1)]) _ _ _ ?_ ?_ ?_
        · rfl
        · rfl
        · rfl
    have e3 : ((e.rc.kind : Int) == 3) = false := by rw [beq_eq_false_iff_ne]; omega
    by_cases k4 : e.rc.kind = 4
    · have e4 : ((e.rc.kind : Int) == 4) = true := by rw [beq_iff_eq]; omega
      have e5 : ((e.rc.kind : Int) == 5) = false := by rw [beq_eq_false_iff_ne]; omega
      have hst : stepU u e.rc = if (freeU u e.rc.slot).2 = 0 then some (freeU u e.rc.slot).1 else none := by unfold stepU; rw [if_neg k3, if_pos k4]
      have hao : (freeU u e.rc.slot).1.Ok := freeU_ok huo
      have has := freeU_spec u e.rc.slot he.rc.slot huo.len
      obtain ⟨⟨v, f⟩, hv⟩ : ∃ x, freeU u e.rc.slot = x := ⟨_, rfl⟩
      rw [hv] at hst hao has
      have hvo : v.Ok := hao
      simp -dsimp -implicitDefEqProofs only [↓j0, ↓j1, ↓j7, ↓j9, ↓j12, ↓j13, ↓j15, j17, j18, j20, ↓j25, ↓j27, ↓j29, ↓j30, ↓j31, j33, ↓j38, ↓j39, ↓j43, ↓j45, ↓j48, ↓j53, ↓j76, ↓j79, ↓j89, j129, j130, ↓j145, ↓j146, ↓j147, ↓j148, ↓j149, ↓j153, j157, AV.proj, AV.offOf, AV.size, AV.sizeL, j163, j164, j166, j167, j171, ↓reduceIte, Nat.reduceAdd, Nat.reduceEqDiff, j182, j185, j196, j197, j240, j255, j316, j334, j391, j392, hi, e3, e4, e5]
      refine CallTo.genF (f := 37) (caps := []) (args := [u.av, .int .u8 e.rc.slot]) [] [] 5 rfl (by simp -dsimp -implicitDefEqProofs only [↓j25, ↓j29, ↓reduceIte, Nat.reduceEqDiff]) fok37 (by simp -dsimp -implicitDefEqProofs only [↓j25, ↓j29, j173, j174, ↓reduceIte, Nat.reduceEqDiff]) notupU (fun x hx => by cases hx) has (fun n b h => by simp [Heap.get] at h) ⟨by simp, fun n x h => by simp [Heap.get] at h⟩ ?_
      by_cases c1 : f = 0
      · subst c1
        have hs2 : stepU u e.rc = some v := by rw [hst]; rw [if_pos rfl]
        have hS : undoP no p e = (putUndo no ⟨e.lsn, v.olds⟩, if mayP ⟨e.lsn, v.olds⟩ then 0 else 1) := by rw [hU, hs2]
        have hpu := putUndo_spec no hno ⟨e.lsn, v.olds⟩ ⟨he.lsn, hvo.len, hvo.olds⟩
        have hpl := putUndo_len (no := no) (u := ⟨e.lsn, v.olds⟩)
        obtain ⟨P, hP⟩ : ∃ P, putUndo no ⟨e.lsn, v.olds⟩ = P := ⟨_, rfl⟩
        obtain ⟨F, hF⟩ : ∃ F : Int, (if mayP ⟨e.lsn, v.olds⟩ then (0 : Int) else 1) = F := ⟨_, rfl⟩
        rw [hP, hF] at hS
        have hpu : ACall Try.prog 39 [.int .u16 no, Ud.av ⟨e.lsn, v.olds⟩] [] (.tuple [arrAV P, .int .i64 F]) [] := by rw [← hP, ← hF]; exact hpu
        rw [hP] at hpl
        simp -dsimp -implicitDefEqProofs only [↓j0, ↓j1, ↓j7, ↓j9, ↓j12, ↓j13, ↓j15, j17, j18, j19, j20, j21, j22, j23, ↓j25, ↓j27, ↓j29, ↓j30, j33, ↓j38, ↓j39, ↓j41, ↓j43, ↓j44, ↓j45, ↓j48, ↓j53, ↓j57, ↓j76, ↓j78, ↓j79, j85, ↓j89, j129, j130, ↓j145, ↓j146, ↓j148, ↓j149, ↓j153, j158, AV.proj, AV.offOf, AV.upd, AV.size, AV.sizeL, AV.layable, j163, j164, j167, j169, j170, j171, j174, reduceCtorEq, ↓reduceIte, Nat.reduceAdd, Nat.reduceEqDiff, j182, j185, j197, j278, j279, j344, j391, j392, j394, j433, f0]
        refine CallTo.pure (args := [.int .u16 no, Ud.av ⟨e.lsn, v.olds⟩]) rfl fok39 (by simp -dsimp -implicitDefEqProofs only [↓j25, ↓j29, j173, j174, ↓reduceIte, Nat.reduceEqDiff]) notupN hpu ?_
        simp -dsimp -implicitDefEqProofs only [↓j0, ↓j1, ↓j10, j17, j18, j19, j20, j21, j22, j23, ↓j25, ↓j27, ↓j29, ↓j39, ↓j44, ↓j57, ↓j78, j85, ↓j145, ↓j146, ↓j153, AV.proj, AV.offOf, AV.upd, AV.size, AV.layable, j163, j164, j170, j171, reduceCtorEq, ↓reduceIte, Nat.reduceEqDiff, j182, j240, j273, hz, hpl]
        exact ret (P, F) _ _ _ hS.symm rfl rfl rfl
      · have f1 : (f != 0) = true := by simpa using c1
        simp -dsimp -implicitDefEqProofs only [↓j0, ↓j1, ↓j7, ↓j10, ↓j12, ↓j13, ↓j15, j17, j18, j19, j20, j21, j22, j23, ↓j25, ↓j27, ↓j29, ↓j30, j33, ↓j38, ↓j39, ↓j41, ↓j44, ↓j48, ↓j54, ↓j57, ↓j78, j85, ↓j89, ↓j124, j125, j127, ↓j145, ↓j146, ↓j147, ↓j149, ↓j153, j158, partsAV, AV.proj, AV.offOf, AV.upd, AV.size, AV.sizeL, AV.layable, j163, j164, j170, j171, j174, reduceCtorEq, ↓reduceIte, Nat.reduceAdd, Nat.reduceEqDiff, j182, j185, j197, j214, j218, j219, j240, j273, j391, j433, j439, hz, f1]
        refine hbad (by rw [hst, if_neg c1]) _ _ _ ?_ ?_ ?_
        · rfl
        · rfl
        · rfl
    have e4 : ((e.rc.kind : Int) == 4) = false := by rw [beq_eq_false_iff_ne]; omega
    by_cases k5 : e.rc.kind = 5
    · have e5 : ((e.rc.kind : Int) == 5) = true := by rw [beq_iff_eq]; omega
      have hst : stepU u e.rc = if (cutU u e.rc.slot).2 = 0 then some (cutU u e.rc.slot).1 else none := by unfold stepU; rw [if_neg k3, if_neg k4, if_pos k5]
      have hao : (cutU u e.rc.slot).1.Ok := cutU_ok huo
      have has := cutU_spec u e.rc.slot he.rc.slot huo.len
      obtain ⟨⟨v, f⟩, hv⟩ : ∃ x, cutU u e.rc.slot = x := ⟨_, rfl⟩
      rw [hv] at hst hao has
      have hvo : v.Ok := hao
      simp -dsimp -implicitDefEqProofs only [↓j0, ↓j1, ↓j7, ↓j12, ↓j13, ↓j15, j17, j18, j20, ↓j25, ↓j27, ↓j29, ↓j30, ↓j31, j33, ↓j38, ↓j39, ↓j43, ↓j45, ↓j48, ↓j53, ↓j76, ↓j79, ↓j89, j129, j130, ↓j145, ↓j146, ↓j147, ↓j148, ↓j149, ↓j153, j157, AV.proj, AV.offOf, AV.size, AV.sizeL, j163, j164, j166, j167, j171, ↓reduceIte, Nat.reduceAdd, Nat.reduceEqDiff, j182, j185, j196, j197, j240, j255, j316, j334, j391, j392, hi, e3, e4, e5]
      refine CallTo.genF (f := 38) (caps := []) (args := [u.av, .int .u8 e.rc.slot]) [] [] 5 rfl (by simp -dsimp -implicitDefEqProofs only [↓j25, ↓j29, ↓reduceIte, Nat.reduceEqDiff]) fok38 (by simp -dsimp -implicitDefEqProofs only [↓j25, ↓j29, j173, j174, ↓reduceIte, Nat.reduceEqDiff]) notupU (fun x hx => by cases hx) has (fun n b h => by simp [Heap.get] at h) ⟨by simp, fun n x h => by simp [Heap.get] at h⟩ ?_
      by_cases c1 : f = 0
      · subst c1
        have hs2 : stepU u e.rc = some v := by rw [hst]; rw [if_pos rfl]
        have hS : undoP no p e = (putUndo no ⟨e.lsn, v.olds⟩, if mayP ⟨e.lsn, v.olds⟩ then 0 else 1) := by rw [hU, hs2]
        have hpu := putUndo_spec no hno ⟨e.lsn, v.olds⟩ ⟨he.lsn, hvo.len, hvo.olds⟩
        have hpl := putUndo_len (no := no) (u := ⟨e.lsn, v.olds⟩)
        obtain ⟨P, hP⟩ : ∃ P, putUndo no ⟨e.lsn, v.olds⟩ = P := ⟨_, rfl⟩
        obtain ⟨F, hF⟩ : ∃ F : Int, (if mayP ⟨e.lsn, v.olds⟩ then (0 : Int) else 1) = F := ⟨_, rfl⟩
        rw [hP, hF] at hS
        have hpu : ACall Try.prog 39 [.int .u16 no, Ud.av ⟨e.lsn, v.olds⟩] [] (.tuple [arrAV P, .int .i64 F]) [] := by rw [← hP, ← hF]; exact hpu
        rw [hP] at hpl
        simp -dsimp -implicitDefEqProofs only [↓j0, ↓j1, ↓j7, ↓j9, ↓j12, ↓j13, ↓j15, j17, j18, j19, j20, j21, j22, j23, ↓j25, ↓j27, ↓j29, ↓j30, j33, ↓j38, ↓j39, ↓j41, ↓j43, ↓j44, ↓j45, ↓j48, ↓j53, ↓j57, ↓j76, ↓j78, ↓j79, j85, ↓j89, j129, j130, ↓j145, ↓j146, ↓j148, ↓j149, ↓j153, j158, AV.proj, AV.offOf, AV.upd, AV.size, AV.sizeL, AV.layable, j163, j164, j167, j169, j170, j171, j174, reduceCtorEq, ↓reduceIte, Nat.reduceAdd, Nat.reduceEqDiff, j182, j185, j197, j278, j279, j344, j391, j392, j394, j433, f0]
        refine CallTo.pure (args := [.int .u16 no, Ud.av ⟨e.lsn, v.olds⟩]) rfl fok39 (by simp -dsimp -implicitDefEqProofs only [↓j25, ↓j29, j173, j174, ↓reduceIte, Nat.reduceEqDiff]) notupN hpu ?_
        simp -dsimp -implicitDefEqProofs only [↓j0, ↓j1, ↓j10, j17, j18, j19, j20, j21, j22, j23, ↓j25, ↓j27, ↓j29, ↓j39, ↓j44, ↓j57, ↓j78, j85, ↓j145, ↓j146, ↓j153, AV.proj, AV.offOf, AV.upd, AV.size, AV.layable, j163, j164, j170, j171, reduceCtorEq, ↓reduceIte, Nat.reduceEqDiff, j182, j240, j273, hz, hpl]
        exact ret (P, F) _ _ _ hS.symm rfl rfl rfl
      · have f1 : (f != 0) = true := by simpa using c1
        simp -dsimp -implicitDefEqProofs only [↓j0, ↓j1, ↓j7, ↓j10, ↓j12, ↓j13, ↓j15, j17, j18, j19, j20, j21, j22, j23, ↓j25, ↓j27, ↓j29, ↓j30, j33, ↓j38, ↓j39, ↓j41, ↓j44, ↓j48, ↓j54, ↓j57, ↓j78, j85, ↓j89, ↓j124, j125, j127, ↓j145, ↓j146, ↓j147, ↓j149, ↓j153, j158, partsAV, AV.proj, AV.offOf, AV.upd, AV.size, AV.sizeL, AV.layable, j163, j164, j170, j171, j174, reduceCtorEq, ↓reduceIte, Nat.reduceAdd, Nat.reduceEqDiff, j182, j185, j197, j214, j218, j219, j240, j273, j391, j433, j439, hz, f1]
        refine hbad (by rw [hst, if_neg c1]) _ _ _ ?_ ?_ ?_
        · rfl
        · rfl
        · rfl
    have e5 : ((e.rc.kind : Int) == 5) = false := by rw [beq_eq_false_iff_ne]; omega
    have hs2 : stepU u e.rc = some u := by unfold stepU; rw [if_neg k3, if_neg k4, if_neg k5]
    have hS : undoP no p e = (putUndo no ⟨e.lsn, u.olds⟩, if mayP ⟨e.lsn, u.olds⟩ then 0 else 1) := by rw [hU, hs2]
    have hpu := putUndo_spec no hno ⟨e.lsn, u.olds⟩ ⟨he.lsn, huo.len, huo.olds⟩
    have hpl := putUndo_len (no := no) (u := ⟨e.lsn, u.olds⟩)
    obtain ⟨P, hP⟩ : ∃ P, putUndo no ⟨e.lsn, u.olds⟩ = P := ⟨_, rfl⟩
    obtain ⟨F, hF⟩ : ∃ F : Int, (if mayP ⟨e.lsn, u.olds⟩ then (0 : Int) else 1) = F := ⟨_, rfl⟩
    rw [hP, hF] at hS
    have hpu : ACall Try.prog 39 [.int .u16 no, Ud.av ⟨e.lsn, u.olds⟩] [] (.tuple [arrAV P, .int .i64 F]) [] := by rw [← hP, ← hF]; exact hpu
    rw [hP] at hpl
    simp -dsimp -implicitDefEqProofs only [↓j0, ↓j1, ↓j7, ↓j9, ↓j12, ↓j13, ↓j15, j17, j18, j19, j20, j21, j22, j23, ↓j25, ↓j27, ↓j29, ↓j30, j33, ↓j38, ↓j39, ↓j43, ↓j44, ↓j45, ↓j48, ↓j53, ↓j76, ↓j78, ↓j79, ↓j89, j129, j130, ↓j145, ↓j146, ↓j148, ↓j149, ↓j153, j157, AV.proj, AV.offOf, AV.upd, AV.size, AV.sizeL, AV.layable, j163, j167, j169, j170, j171, reduceCtorEq, ↓reduceIte, Nat.reduceAdd, Nat.reduceEqDiff, j182, j185, j197, j278, j279, j344, j391, j392, j394, e3, e4, e5]
    refine CallTo.pure (args := [.int .u16 no, Ud.av ⟨e.lsn, u.olds⟩]) rfl fok39 (by simp -dsimp -implicitDefEqProofs only [↓j25, ↓j29, j173, j174, ↓reduceIte, Nat.reduceEqDiff]) notupN hpu ?_
    simp -dsimp -implicitDefEqProofs only [↓j0, ↓j1, ↓j10, j17, j18, j19, j20, j21, j22, j23, ↓j25, ↓j27, ↓j29, ↓j39, ↓j44, ↓j57, ↓j78, j85, ↓j145, ↓j146, ↓j153, AV.proj, AV.offOf, AV.upd, AV.size, AV.layable, j163, j164, j170, j171, reduceCtorEq, ↓reduceIte, Nat.reduceEqDiff, j182, j240, j273, hz, hpl]
    exact ret (P, F) _ _ _ hS.symm rfl rfl rfl
end Go.Proofs.Ytimdepgenefkmaa
