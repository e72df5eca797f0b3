import Derived.Test.YtimdepgenefkmaaQ23
set_option maxRecDepth 8000
set_option linter.unusedVariables false
set_option linter.unusedSimpArgs false
namespace Go.Proofs.Ytimdepgenefkmaa
open Go Go.RowKit

theorem raddU_spec (u : Ud) (o : Od) (hl : u.olds.length ≤ 9223372036854775807) : ACall Try.prog 26 [u.av, o.av] [] (.tuple [(addU u o).1.av, .int .i64 (addU u o).2.1, .int .i64 (addU u o).2.2]) [] := by
  have h := Slot.radd_spec u.lsn (olds u.olds) o.old (by rw [List.length_map]; exact hl)
  rw [undo_av, Slot.add_both, old_av] at h
  have hav := addU_av u o
  have e : Slot.addRAV (Slot.addP u.lsn (olds u.olds) o.old) = .tuple [(addU u o).1.av, .int .i64 (addU u o).2.1, .int .i64 (addU u o).2.2] := by
    have h1 := hav
    simp only [Slot.addAV, AV.tuple.injEq, List.cons.injEq, AV.int.injEq, true_and, and_true] at h1
    obtain ⟨h1, h2, h3⟩ := h1
    show AV.tuple [_, _, _] = AV.tuple [_, _, _]
    rw [h1, h2, h3]
  rw [e] at h
  exact h
theorem rfreeU_spec (u : Ud) (k : Nat) (hk : k < 256) (hl : u.olds.length ≤ 9223372036854775807) : ACall Try.prog 27 [u.av, .int .u8 k] [] (.tuple [(freeU u k).1.av, .bool (decide ((freeU u k).2 = 0))]) [] := by
  have h := Slot.rfree_spec u.lsn k (olds u.olds) (by omega) (by omega) (by rw [List.length_map]; exact hl)
  rw [undo_av] at h
  have hav := freeU_av u k
  have e : Slot.freeRAV (Slot.freeP u.lsn (olds u.olds) k) = .tuple [(freeU u k).1.av, .bool (decide ((freeU u k).2 = 0))] := by
    have h1 := hav
    simp only [Slot.freeAV, AV.tuple.injEq, List.cons.injEq, AV.int.injEq, true_and, and_true] at h1
    obtain ⟨h1, h2⟩ := h1
    show AV.tuple [_, _] = AV.tuple [_, _]
    rw [h1, h2]
  rw [e] at h
  exact h
theorem rcutU_spec (u : Ud) (k : Nat) (hk : k < 256) (hl : u.olds.length ≤ 9223372036854775807) : ACall Try.prog 28 [u.av, .int .u8 k] [] (.tuple [(cutU u k).1.av, .bool (decide ((cutU u k).2 = 0))]) [] := by
  have h := Slot.rcut_spec u.lsn k (olds u.olds) (by omega) (by omega) (by rw [List.length_map]; exact hl)
  rw [undo_av] at h
  have hav := cutU_av u k
  have e : Slot.freeRAV (Slot.cutP u.lsn (olds u.olds) k) = .tuple [(cutU u k).1.av, .bool (decide ((cutU u k).2 = 0))] := by
    have h1 := hav
    simp only [Slot.freeAV, AV.tuple.injEq, List.cons.injEq, AV.int.injEq, true_and, and_true] at h1
    obtain ⟨h1, h2⟩ := h1
    show AV.tuple [_, _] = AV.tuple [_, _]
    rw [h1, h2]
  rw [e] at h
  exact h
theorem fok26 : fnOk Try.prog 26 = true := by kernel_rfl
theorem fok27 : fnOk Try.prog 27 = true := by kernel_rfl
theorem fok28 : fnOk Try.prog 28 = true := by kernel_rfl
set_option maxHeartbeats 6400000 in
theorem rredo_spec (uu : Bool) (no : Nat) (hno : no < 65536) (p : List UInt8) (hp : p.length = 224) (e : En) (he : e.Ok) : ACall Try.prog 9 [idAV uu no, arrAV p, e.av] [] (pgAV (redoP uu no p e)) [] := by
  refine ACall.run (Z := Z) (N := 149) mixed hZ Try.func9 rfl rfl (by kernel_rfl) (by simp) args_ipe 0 ?_
  have hz := zb_len 224
  have hz6 := zb_len 64
  have hi := he.rc.image
  have hRl := redoP_len (uu := uu) (no := no) hp he
  have ret : ∀ (r : List UInt8 × Int) (t : Env) (H : Heap) (m : Nat), r = redoP uu no p e → look t 6 = some (.ptr 3 0 []) → look t 7 = some (.int .i64 r.2) → Heap.get H 3 = some (.cells (arrAV r.1)) → Final Try.prog Try.f9 (pgAV (redoP uu no p e)) [] .ret ⟨149, t, H, m⟩ := fun r t H m hr h1 h2 h3 => by
    subst hr
    exact Final.many (.inr rfl) (rs := [.cell 6 26, .tmp 7]) (us := [arrAV (redoP uu no p e).1, .int .i64 (redoP uu no p e).2]) rfl ⟨⟨3, 0, [], _, h1, h3, rfl, rfl, by simp -dsimp -implicitDefEqProofs only [j129, j182, j240, j273, j274, hRl]⟩, ⟨h2, fun vs h => by cases h⟩, trivial⟩ (by simp) ⟨.same _ (on_bytes _ _), .same _ trivial, trivial⟩
  have hms := docMay_spec e.rc he.rc
  have bad1 : (mayR e.rc = false ∨ e.rc.kind = 6 ∨ ¬ (e.rc.undo = uu ∧ e.rc.no = no)) → (zb 224, (1 : Int)) = redoP uu no p e := fun h => by unfold redoP; rw [if_pos h]
  simp -dsimp -implicitDefEqProofs only [↓j0, ↓j1, ↓j7, ↓j12, ↓j15, j17, j18, j19, j20, j21, j22, j23, ↓j25, ↓j27, ↓j29, ↓j30, j33, ↓j39, ↓j41, ↓j42, ↓j43, ↓j44, ↓j45, ↓j53, ↓j76, ↓j78, ↓j79, j129, ↓j145, ↓j146, ↓j153, AV.proj, AV.offOf, AV.upd, AV.size, AV.sizeL, AV.layable, argEnv, j163, j164, j166, j167, j170, j171, j172, reduceCtorEq, ↓reduceIte, Nat.reduceAdd, Nat.reduceEqDiff, j182, j196, j197, j240, j313, j314, j347, j419, j424, hz, hi]
  refine CallTo.pure (args := [e.rc.av]) rfl fok21 (by simp -dsimp -implicitDefEqProofs only [↓j25, ↓j29, j173, j174, ↓reduceIte]) (fun x hx => (args_rc x hx).2) hms ?_
  cases hm : mayR e.rc
  · simp -dsimp -implicitDefEqProofs only [↓j0, ↓j1, ↓j2, ↓j7, ↓j10, ↓j12, ↓j13, ↓j15, j17, j18, j19, j20, j21, j22, j23, ↓j25, ↓j27, ↓j29, ↓j30, j32, j33, ↓j38, ↓j39, ↓j40, ↓j44, ↓j54, ↓j55, ↓j78, j81, j84, ↓j124, j125, j127, ↓j145, ↓j146, ↓j147, ↓j149, ↓j151, ↓j153, partsAV, AV.proj, AV.offOf, AV.upd, AV.size, AV.layable, j163, j164, j170, j171, j175, reduceCtorEq, ↓reduceIte, Nat.reduceEqDiff, j182, j194, j214, j218, j219, j240, j273, j439, hz]
    exact ret (zb 224, 1) _ _ _ (bad1 (.inl hm)) rfl rfl rfl
  by_cases k6 : e.rc.kind = 6
  · have e6 : ((e.rc.kind : Int) == 6) = true := by rw [beq_iff_eq]; omega
    simp -dsimp -implicitDefEqProofs only [↓j0, ↓j1, ↓j2, ↓j7, ↓j10, ↓j12, ↓j13, ↓j15, j17, j18, j19, j20, j21, j22, j23, ↓j25, ↓j27, ↓j29, ↓j30, j32, j33, ↓j38, ↓j39, ↓j40, ↓j43, ↓j44, ↓j45, ↓j48, ↓j54, ↓j55, ↓j76, ↓j78, ↓j79, j81, j83, j84, ↓j89, ↓j124, j125, j127, j130, ↓j145, ↓j146, ↓j147, ↓j148, ↓j149, ↓j151, ↓j153, j157, partsAV, AV.proj, AV.offOf, AV.upd, AV.size, AV.sizeL, AV.layable, j163, j164, j167, j170, j171, j175, reduceCtorEq, ↓reduceIte, Nat.reduceEqDiff, j182, j185, j193, j195, j197, j214, j218, j219, j240, j255, j273, j316, j439, hz, e6]
    exact ret (zb 224, 1) _ _ _ (bad1 (.inr (.inl k6))) rfl rfl rfl
  have e6 : ((e.rc.kind : Int) == 6) = false := by rw [beq_eq_false_iff_ne]; omega
  have hce := cellsEq_id e.rc.undo uu e.rc.no no
  by_cases hid : e.rc.undo = uu ∧ e.rc.no = no
  case neg =>
    rw [decide_eq_false hid] at hce
    simp -dsimp -implicitDefEqProofs only [↓j0, ↓j1, ↓j2, ↓j7, ↓j10, ↓j12, ↓j13, ↓j15, j17, j18, j19, j20, j21, j22, j23, ↓j25, ↓j27, ↓j29, ↓j30, j32, j33, ↓j38, ↓j39, ↓j40, ↓j43, ↓j44, ↓j45, ↓j48, ↓j54, ↓j55, ↓j76, ↓j78, ↓j79, j83, j84, ↓j89, ↓j91, ↓j124, j125, j127, j129, j130, ↓j145, ↓j146, ↓j147, ↓j148, ↓j149, ↓j151, ↓j153, j157, partsAV, AV.proj, AV.offOf, AV.upd, AV.size, AV.sizeL, AV.layable, AV.flat, AV.flatL, j163, j164, j166, j167, j170, j171, j172, j173, j174, j175, reduceCtorEq, ↓reduceIte, Nat.reduceAdd, Nat.reduceEqDiff, j182, j185, j193, j194, j195, j196, j197, j212, kindOf, j214, j218, j219, j240, j255, j263, j264, j271, j272, j273, j316, j319, j439, hz, e6, hce]
    exact ret (zb 224, 1) _ _ _ (bad1 (.inr (.inr hid))) rfl rfl rfl
  rw [decide_eq_true hid] at hce
  have good : redoP uu no p e = if uu then undoP no (if e.rc.kind = 1 then e.rc.image else p) e else
      if (getData no (if e.rc.kind = 1 then e.rc.image else p)).2 = false then (zb 224, 2) else
      if e.rc.kind = 2 then
        if (dApplyR (getData no p).1.body e.rc.delta).2 = 0 then (putData no ⟨e.lsn, e.rc.ts, e.rc.ppg, e.rc.psl, (dApplyR (getData no p).1.body e.rc.delta).1⟩, 0) else (zb 224, 2)
      else (putData no { (getData no (if e.rc.kind = 1 then e.rc.image else p)).1 with lsn := e.lsn }, 0) := by
    unfold redoP
    rw [if_neg]
    rintro (h | h | h)
    · rw [hm] at h; cases h
    · exact k6 h
    · exact h hid
  by_cases k1 : e.rc.kind = 1
  · have e1 : ((e.rc.kind : Int) == 1) = true := by rw [beq_iff_eq]; omega
    have e2 : ((e.rc.kind : Int) == 2) = false := by rw [beq_eq_false_iff_ne]; omega
    have k2 : ¬ e.rc.kind = 2 := by omega
    cases uu
    · have hgs := rgetData_spec no hno e.rc.image hi
      rw [rget_get hno hi] at hgs
      have hdo := getData_dt (no := no) hi
      obtain ⟨⟨d, f⟩, hq⟩ : ∃ x, getData no e.rc.image = x := ⟨_, rfl⟩
      rw [hq] at hgs hdo
      have hdo : d.Ok := hdo
      have hdl := hdo.body
      cases f
      · have hg : redoP false no p e = (zb 224, 2) := by rw [good, if_neg Bool.false_ne_true, if_pos k1, hq]; rfl
        simp -dsimp -implicitDefEqProofs only [↓j0, ↓j1, ↓j2, ↓j7, ↓j9, ↓j12, ↓j13, ↓j15, j17, j18, j19, j20, j21, j22, j23, ↓j25, ↓j27, ↓j29, ↓j30, j32, j33, ↓j38, ↓j40, ↓j43, ↓j44, ↓j45, ↓j48, ↓j53, ↓j55, ↓j76, ↓j78, ↓j79, j83, j84, ↓j89, ↓j91, j129, j130, j131, ↓j145, ↓j146, ↓j147, ↓j148, ↓j149, ↓j151, ↓j153, j157, AV.proj, AV.offOf, AV.upd, AV.size, AV.sizeL, AV.layable, AV.flat, AV.flatL, j163, j164, j166, j167, j170, j171, j172, j173, j174, j175, reduceCtorEq, ↓reduceIte, Nat.reduceAdd, Nat.reduceEqDiff, j182, j185, j193, j194, j195, j196, j197, j212, kindOf, j240, j253, j255, j261, j263, j264, j266, j269, j271, j272, j273, j274, j316, j319, j322, hp, hi, e6, hce, e1]
        refine CallTo.pure (args := [.int .u16 no, arrAV e.rc.image]) rfl fok22 (by simp -dsimp -implicitDefEqProofs only [↓j25, ↓j29, j173, j174, ↓reduceIte, Nat.reduceEqDiff]) (fun x hx => (args_np x hx).2) hgs ?_
        simp -dsimp -implicitDefEqProofs only [↓j0, ↓j1, ↓j2, ↓j7, ↓j9, ↓j10, ↓j12, ↓j13, ↓j15, j17, j18, j19, j20, j21, j22, j23, ↓j25, ↓j27, ↓j29, ↓j30, j32, j33, ↓j38, ↓j39, ↓j40, ↓j41, ↓j43, ↓j44, ↓j45, ↓j54, ↓j55, ↓j57, ↓j76, ↓j78, ↓j79, j82, j84, j85, ↓j124, j125, j127, j129, ↓j145, ↓j146, ↓j147, ↓j148, ↓j149, ↓j150, ↓j153, partsAV, AV.proj, AV.offOf, AV.upd, AV.size, AV.sizeL, AV.layable, j163, j164, j166, j167, j170, j171, j175, reduceCtorEq, ↓reduceIte, Nat.reduceAdd, Nat.reduceEqDiff, j182, j194, j196, j197, j214, j218, j219, j240, j273, j361, j366, j367, j371, j383, j429, j431, j439, hz, hdl, hz6]
        exact ret (zb 224, 2) _ _ _ hg.symm rfl rfl rfl
      · have hps := rputData_spec no hno { d with lsn := e.lsn } ⟨he.lsn, hdo.ts, hdo.pg, hdo.body⟩
        have hpl : (putData no { d with lsn := e.lsn }).length = 224 := putData_len (d := { d with lsn := e.lsn }) ⟨he.lsn, hdo.ts, hdo.pg, hdo.body⟩
        have hg : redoP false no p e = (putData no { d with lsn := e.lsn }, 0) := by rw [good, if_neg Bool.false_ne_true, if_pos k1, hq, if_neg (by simp), if_neg k2]
        obtain ⟨Q, hQ⟩ : ∃ Q, putData no { d with lsn := e.lsn } = Q := ⟨_, rfl⟩
        rw [hQ] at hps hpl hg
        simp -dsimp -implicitDefEqProofs only [↓j0, ↓j1, ↓j2, ↓j7, ↓j9, ↓j12, ↓j13, ↓j15, j17, j18, j19, j20, j21, j22, j23, ↓j25, ↓j27, ↓j29, ↓j30, j32, j33, ↓j38, ↓j40, ↓j43, ↓j44, ↓j45, ↓j48, ↓j53, ↓j55, ↓j76, ↓j78, ↓j79, j83, j84, ↓j89, ↓j91, j129, j130, j131, ↓j145, ↓j146, ↓j147, ↓j148, ↓j149, ↓j151, ↓j153, j157, AV.proj, AV.offOf, AV.upd, AV.size, AV.sizeL, AV.layable, AV.flat, AV.flatL, j163, j164, j166, j167, j170, j171, j172, j173, j174, j175, reduceCtorEq, ↓reduceIte, Nat.reduceAdd, Nat.reduceEqDiff, j182, j185, j193, j194, j195, j196, j197, j212, kindOf, j240, j253, j255, j261, j263, j264, j266, j269, j271, j272, j273, j274, j316, j319, j322, hp, hi, e6, hce, e1]
        refine CallTo.pure (args := [.int .u16 no, arrAV e.rc.image]) rfl fok22 (by simp -dsimp -implicitDefEqProofs only [↓j25, ↓j29, j173, j174, ↓reduceIte, Nat.reduceEqDiff]) (fun x hx => (args_np x hx).2) hgs ?_
        simp -dsimp -implicitDefEqProofs only [↓j0, ↓j1, ↓j2, ↓j7, ↓j9, ↓j12, ↓j13, ↓j15, j17, j18, j19, j20, j21, j22, j23, ↓j25, ↓j27, ↓j29, ↓j30, j32, j33, ↓j38, ↓j39, ↓j40, ↓j41, ↓j43, ↓j44, ↓j45, ↓j48, ↓j53, ↓j55, ↓j57, ↓j76, ↓j78, ↓j79, j83, j84, j85, ↓j89, j129, j130, ↓j145, ↓j146, ↓j147, ↓j148, ↓j149, ↓j150, ↓j153, j157, AV.proj, AV.offOf, AV.upd, AV.size, AV.sizeL, AV.layable, j163, j164, j166, j167, j169, j170, j171, j175, reduceCtorEq, ↓reduceIte, Nat.reduceAdd, Nat.reduceEqDiff, j182, j185, j193, j196, j197, j240, j243, j255, j261, j269, j278, j279, j316, j344, j361, j366, j367, j371, j372, j374, j383, j429, j431, hdl, e2]
        refine CallTo.pure (args := [.int .u16 no, Dt.av { d with lsn := e.lsn }]) rfl fok24 (by simp -dsimp -implicitDefEqProofs only [↓j25, ↓j29, j173, j174, ↓reduceIte, Nat.reduceEqDiff]) notupD hps ?_
        simp -dsimp -implicitDefEqProofs only [↓j0, ↓j1, ↓j10, j17, j18, j19, j20, j21, j22, j23, ↓j25, ↓j27, ↓j29, ↓j30, j33, ↓j39, ↓j44, ↓j78, ↓j145, ↓j146, ↓j153, AV.proj, AV.offOf, AV.upd, AV.size, AV.layable, j170, j171, reduceCtorEq, ↓reduceIte, Nat.reduceEqDiff, j182, j240, j273, hz, hpl]
        exact ret (Q, 0) _ _ _ hg.symm rfl rfl rfl
    · have hgu := rgetUndo_spec no hno e.rc.image hi
      rw [rget_getU hno hi] at hgu
      have hR : redoP true no p e = undoP no e.rc.image e := by rw [good, if_pos rfl, if_pos k1]
      simp -dsimp -implicitDefEqProofs only [↓j0, ↓j1, ↓j2, ↓j7, ↓j9, ↓j12, ↓j13, ↓j15, j17, j18, j19, j20, j21, j22, j23, ↓j25, ↓j27, ↓j29, ↓j30, j32, j33, ↓j38, ↓j40, ↓j43, ↓j44, ↓j45, ↓j48, ↓j53, ↓j55, ↓j76, ↓j78, ↓j79, j83, j84, ↓j89, ↓j91, j129, j130, j131, ↓j145, ↓j146, ↓j147, ↓j148, ↓j149, ↓j151, ↓j153, j157, AV.proj, AV.offOf, AV.upd, AV.size, AV.sizeL, AV.layable, AV.flat, AV.flatL, j163, j164, j166, j167, j170, j171, j172, j173, j174, j175, reduceCtorEq, ↓reduceIte, Nat.reduceAdd, Nat.reduceEqDiff, j182, j185, j193, j195, j196, j197, j212, kindOf, j240, j253, j255, j261, j263, j264, j266, j269, j271, j272, j273, j274, j316, j319, j322, hp, hi, e6, hce, e1]
      refine CallTo.pure (args := [.int .u16 no, arrAV e.rc.image]) rfl fok25 (by simp -dsimp -implicitDefEqProofs only [↓j25, ↓j29, j173, j174, ↓reduceIte, Nat.reduceEqDiff]) (fun x hx => (args_np x hx).2) hgu ?_
      cases hgn : getUndo no e.rc.image with
      | none =>
        have hU : redoP true no p e = (zb 224, 2) := by rw [hR]; unfold undoP; rw [hgn]
        simp -dsimp -implicitDefEqProofs only [↓j0, ↓j1, ↓j7, ↓j10, ↓j12, ↓j13, ↓j15, j17, j18, j19, j20, j21, j22, j23, ↓j25, ↓j27, ↓j29, ↓j30, j33, ↓j38, ↓j39, ↓j41, ↓j44, ↓j54, ↓j55, ↓j57, ↓j78, j84, j85, ↓j124, j125, j127, ↓j145, ↓j146, ↓j147, ↓j149, ↓j153, partsAV, AV.proj, AV.offOf, AV.upd, AV.size, AV.sizeL, AV.layable, j163, j164, j170, j171, reduceCtorEq, ↓reduceIte, Nat.reduceAdd, Nat.reduceEqDiff, j182, j194, j197, j214, j218, j219, j240, j273, j391, j433, j439, hz, Option.isSome_none]
        exact ret (zb 224, 2) _ _ _ hU.symm rfl rfl rfl
      | some u =>
        obtain ⟨huo, hum, hul⟩ := getUndo_ok hi hgn
        have bad : stepU u e.rc = none → (zb 224, (2 : Int)) = redoP true no p e := fun h => by rw [hR]; unfold undoP; rw [hgn]; simp only [h]
        have f0 : ((0 : Int) != 0) = false := rfl
        have fs : (((e.rc.slot : Nat) : Int) != ((e.rc.slot : Nat) : Int)) = false := by simp
        have ws : IntKind.i64.wrap (e.rc.slot : Int) = (e.rc.slot : Int) := wrap_i64 (by omega) (by have := he.rc.slot; omega)
        simp -dsimp -implicitDefEqProofs only [↓j0, ↓j1, ↓j7, ↓j9, ↓j12, ↓j13, ↓j14, ↓j15, j17, j18, j19, j20, j21, j22, j23, ↓j25, ↓j27, ↓j29, ↓j30, j33, ↓j38, ↓j39, ↓j41, ↓j43, ↓j44, ↓j45, ↓j48, ↓j50, ↓j55, ↓j57, ↓j76, ↓j78, ↓j79, j84, j85, ↓j89, j130, ↓j145, ↓j146, ↓j148, ↓j149, ↓j153, j157, AV.proj, AV.offOf, AV.upd, AV.size, AV.sizeL, AV.layable, j163, j164, j166, j167, j170, j171, reduceCtorEq, ↓reduceIte, Nat.reduceAdd, Nat.reduceEqDiff, j182, j185, j193, j196, j197, ↓j225, j240, j251, j255, j316, j334, j391, j433, j461, hi, Option.isSome_some, Option.getD_some, ws]
        have e3 : ((e.rc.kind : Int) == 3) = false := by rw [beq_eq_false_iff_ne]; omega
        have e4 : ((e.rc.kind : Int) == 4) = false := by rw [beq_eq_false_iff_ne]; omega
        have e5 : ((e.rc.kind : Int) == 5) = false := by rw [beq_eq_false_iff_ne]; omega
        have hs2 : stepU u e.rc = some u := by unfold stepU; rw [if_neg (by omega), if_neg (by omega), if_neg (by omega)]
        have hS : redoP true no p e = (putUndo no ⟨e.lsn, u.olds⟩, 0) := by
          rw [hR]; unfold undoP; rw [hgn]; simp only [hs2, step_may hum hs2, if_true]
        have hpu := rputUndo_spec no hno ⟨e.lsn, u.olds⟩ ⟨he.lsn, huo.len, huo.olds⟩
        have hpl := putUndo_len (no := no) (u := ⟨e.lsn, u.olds⟩)
        obtain ⟨P, hP⟩ : ∃ P, putUndo no ⟨e.lsn, u.olds⟩ = P := ⟨_, rfl⟩
        obtain ⟨F, hF⟩ : ∃ F, mayP ⟨e.lsn, u.olds⟩ = F := ⟨_, rfl⟩
        rw [hP] at hS hpl
        rw [hP, hF] at hpu
        simp -dsimp -implicitDefEqProofs only [↓j0, ↓j1, ↓j2, ↓j7, ↓j9, ↓j12, ↓j13, ↓j15, j17, j18, j19, j20, j21, j22, j23, ↓j25, ↓j27, ↓j29, ↓j30, j32, j33, ↓j38, ↓j39, ↓j40, ↓j43, ↓j44, ↓j45, ↓j48, ↓j50, ↓j53, ↓j55, ↓j76, ↓j78, ↓j79, j83, j84, ↓j89, j129, j130, ↓j145, ↓j146, ↓j148, ↓j149, ↓j151, ↓j153, j157, j158, AV.proj, AV.offOf, AV.upd, AV.size, AV.sizeL, AV.layable, j163, j164, j166, j167, j169, j170, j171, j175, reduceCtorEq, ↓reduceIte, Nat.reduceAdd, Nat.reduceEqDiff, j182, j185, j193, j195, j196, j197, ↓j225, j240, j251, j255, j261, j269, j278, j279, j334, j344, j391, j392, j394, j461, hi, e3, e4, e5, f0, fs, ws]
        refine CallTo.pure (args := [.int .u16 no, Ud.av ⟨e.lsn, u.olds⟩]) rfl fok29 (by simp -dsimp -implicitDefEqProofs only [↓j25, ↓j29, j173, j174, ↓reduceIte, Nat.reduceEqDiff]) notupN hpu ?_
        simp -dsimp -implicitDefEqProofs only [↓j0, ↓j1, ↓j7, ↓j10, ↓j12, ↓j15, j17, j18, j19, j20, j21, j22, j23, ↓j25, ↓j27, ↓j29, ↓j30, j33, ↓j38, ↓j39, ↓j41, ↓j43, ↓j44, ↓j57, ↓j76, ↓j78, j85, j129, ↓j145, ↓j146, ↓j153, AV.proj, AV.offOf, AV.upd, AV.size, AV.layable, j163, j164, j170, j171, reduceCtorEq, ↓reduceIte, Nat.reduceAdd, Nat.reduceEqDiff, j182, j240, j273, j274, j419, hz, hpl]
        exact ret (P, 0) _ _ _ hS.symm rfl rfl rfl
  · have e1 : ((e.rc.kind : Int) == 1) = false := by rw [beq_eq_false_iff_ne]; omega
    cases uu
    · have hgs := rgetData_spec no hno p hp
      rw [rget_get hno hp] at hgs
      have hdo := getData_dt (no := no) hp
      obtain ⟨⟨d, f⟩, hq⟩ : ∃ x, getData no p = x := ⟨_, rfl⟩
      rw [hq] at hgs hdo
      have hdo : d.Ok := hdo
      have hdl := hdo.body
      cases f
      · have hg : redoP false no p e = (zb 224, 2) := by rw [good, if_neg Bool.false_ne_true, if_neg k1, hq]; rfl
        simp -dsimp -implicitDefEqProofs only [↓j0, ↓j1, ↓j2, ↓j7, ↓j9, ↓j12, ↓j13, ↓j15, j17, j18, j20, ↓j25, ↓j27, ↓j29, ↓j30, j32, j33, ↓j38, ↓j40, ↓j43, ↓j45, ↓j48, ↓j53, ↓j55, ↓j76, ↓j79, j83, j84, ↓j89, ↓j91, j129, j130, j131, ↓j145, ↓j146, ↓j147, ↓j148, ↓j149, ↓j151, ↓j153, j157, AV.proj, AV.offOf, AV.size, AV.sizeL, AV.flat, AV.flatL, j163, j164, j166, j167, j170, j171, j172, j173, j174, j175, reduceCtorEq, ↓reduceIte, Nat.reduceAdd, Nat.reduceEqDiff, j182, j185, j193, j194, j195, j196, j197, j212, kindOf, j240, j253, j255, j261, j263, j264, j266, j269, j271, j272, j273, j274, j316, j319, hp, e6, hce, e1]
        refine CallTo.pure (args := [.int .u16 no, arrAV p]) rfl fok22 (by simp -dsimp -implicitDefEqProofs only [↓j25, ↓j29, j173, j174, ↓reduceIte, Nat.reduceEqDiff]) (fun x hx => (args_np x hx).2) hgs ?_
        simp -dsimp -implicitDefEqProofs only [↓j0, ↓j1, ↓j2, ↓j7, ↓j9, ↓j10, ↓j12, ↓j13, ↓j15, j17, j18, j19, j20, j21, j22, j23, ↓j25, ↓j27, ↓j29, ↓j30, j32, j33, ↓j38, ↓j39, ↓j40, ↓j41, ↓j43, ↓j44, ↓j45, ↓j54, ↓j55, ↓j57, ↓j76, ↓j78, ↓j79, j82, j84, j85, ↓j124, j125, j127, j129, ↓j145, ↓j146, ↓j147, ↓j148, ↓j149, ↓j150, ↓j153, partsAV, AV.proj, AV.offOf, AV.upd, AV.size, AV.sizeL, AV.layable, j163, j164, j166, j167, j170, j171, j175, reduceCtorEq, ↓reduceIte, Nat.reduceAdd, Nat.reduceEqDiff, j182, j194, j196, j197, j214, j218, j219, j240, j273, j361, j366, j367, j371, j383, j429, j431, j439, hz, hdl, hz6]
        exact ret (zb 224, 2) _ _ _ hg.symm rfl rfl rfl
      · by_cases k2 : e.rc.kind = 2
        · have e2 : ((e.rc.kind : Int) == 2) = true := by rw [beq_iff_eq]; omega
          have has := rapply_spec d.body e.rc.delta hdo.body (by have := mayR_delta hm; omega)
          have hbl := dApplyR_len (d := e.rc.delta) hdo.body
          have htw := dApplyR_two d.body e.rc.delta
          have hg : redoP false no p e = if (dApplyR d.body e.rc.delta).2 = 0 then (putData no ⟨e.lsn, e.rc.ts, e.rc.ppg, e.rc.psl, (dApplyR d.body e.rc.delta).1⟩, 0) else (zb 224, 2) := by
            rw [good, if_neg Bool.false_ne_true, if_neg k1, hq, if_neg (by simp), if_pos k2]
          obtain ⟨⟨b, g⟩, hb⟩ : ∃ x, dApplyR d.body e.rc.delta = x := ⟨_, rfl⟩
          rw [hb] at has hbl htw hg
          have hbl : b.length = 64 := hbl
          have hpl : (putData no ⟨e.lsn, e.rc.ts, e.rc.ppg, e.rc.psl, b⟩).length = 224 := putData_len ⟨he.lsn, he.rc.ts, he.rc.ppg, hbl⟩
          have hps := rputData_spec no hno ⟨e.lsn, e.rc.ts, e.rc.ppg, e.rc.psl, b⟩ ⟨he.lsn, he.rc.ts, he.rc.ppg, hbl⟩
          obtain ⟨Q, hQ⟩ : ∃ Q, putData no ⟨e.lsn, e.rc.ts, e.rc.ppg, e.rc.psl, b⟩ = Q := ⟨_, rfl⟩
          simp only [hQ] at hg hpl hps
          simp -dsimp -implicitDefEqProofs only [↓j0, ↓j1, ↓j2, ↓j7, ↓j9, ↓j12, ↓j13, ↓j15, j17, j18, j20, ↓j25, ↓j27, ↓j29, ↓j30, j32, j33, ↓j38, ↓j40, ↓j43, ↓j45, ↓j48, ↓j53, ↓j55, ↓j76, ↓j79, j83, j84, ↓j89, ↓j91, j129, j130, j131, ↓j145, ↓j146, ↓j147, ↓j148, ↓j149, ↓j151, ↓j153, j157, AV.proj, AV.offOf, AV.size, AV.sizeL, AV.flat, AV.flatL, j163, j164, j166, j167, j170, j171, j172, j173, j174, j175, reduceCtorEq, ↓reduceIte, Nat.reduceAdd, Nat.reduceEqDiff, j182, j185, j193, j194, j195, j196, j197, j212, kindOf, j240, j253, j255, j261, j263, j264, j266, j269, j271, j272, j273, j274, j316, j319, hp, e6, hce, e1]
          refine CallTo.pure (args := [.int .u16 no, arrAV p]) rfl fok22 (by simp -dsimp -implicitDefEqProofs only [↓j25, ↓j29, j173, j174, ↓reduceIte, Nat.reduceEqDiff]) (fun x hx => (args_np x hx).2) hgs ?_
          simp -dsimp -implicitDefEqProofs only [↓j0, ↓j1, ↓j2, ↓j7, ↓j12, ↓j13, ↓j15, j17, j18, j19, j20, j21, j22, j23, ↓j25, ↓j27, ↓j29, ↓j30, j32, j33, ↓j38, ↓j39, ↓j40, ↓j41, ↓j43, ↓j44, ↓j45, ↓j48, ↓j53, ↓j57, ↓j76, ↓j78, ↓j79, j83, j85, ↓j89, j129, j130, j132, ↓j145, ↓j146, ↓j147, ↓j149, ↓j150, ↓j153, j157, AV.proj, AV.offOf, AV.upd, AV.size, AV.sizeL, AV.layable, j163, j164, j166, j167, j170, j171, j175, reduceCtorEq, ↓reduceIte, Nat.reduceAdd, Nat.reduceEqDiff, j182, j185, j196, j197, j240, j243, j255, j258, j316, j331, j361, j362, j366, j367, j371, j383, j429, j431, hi, hdl, e2]
          rcases htw with htw | htw
          · have htw : g = 0 := htw
            subst htw
            have has : ACall Try.prog 23 [arrAV d.body, .str ⟨e.rc.delta.toArray⟩] [] (.tuple [arrAV b, .bool true]) [] := has
            refine CallTo.pure (args := [arrAV d.body, .str ⟨e.rc.delta.toArray⟩]) rfl fok23 (by simp -dsimp -implicitDefEqProofs only [↓j25, ↓j29, j173, j174, ↓reduceIte, Nat.reduceEqDiff]) (fun x hx => (args_dapp x hx).2) has ?_
            simp -dsimp -implicitDefEqProofs only [↓j0, ↓j1, ↓j7, ↓j9, ↓j12, ↓j13, ↓j15, j17, j18, j19, j20, j21, j22, j23, ↓j25, ↓j27, ↓j29, ↓j38, ↓j39, ↓j43, ↓j44, ↓j45, ↓j53, ↓j54, ↓j55, ↓j57, ↓j76, ↓j78, ↓j79, j84, j85, ↓j124, j125, j126, j127, j128, j129, j130, ↓j145, ↓j146, ↓j148, ↓j149, ↓j153, partsAV, AV.proj, AV.offOf, AV.upd, AV.size, AV.sizeL, AV.layable, j163, j164, j166, j167, j168, j169, j170, j171, j179, j180, reduceCtorEq, ↓reduceIte, Nat.reduceAdd, Nat.reduceEqDiff, j182, j183, j193, j196, j197, j213, j214, j215, j216, j217, j240, j243, j261, j269, j278, j279, j282, j284, j285, j325, j328, j344, j361, j362, j371, j372, j374, j378, j381, j384, j449, hi, hdl, hbl]
            refine CallTo.pure (args := [.int .u16 no, Dt.av ⟨e.lsn, e.rc.ts, e.rc.ppg, e.rc.psl, b⟩]) rfl fok24 (by simp -dsimp -implicitDefEqProofs only [↓j25, ↓j29, j173, j174, ↓reduceIte, Nat.reduceEqDiff]) notupD hps ?_
            simp -dsimp -implicitDefEqProofs only [↓j0, ↓j1, ↓j10, j17, j18, j19, j20, j21, j22, j23, ↓j25, ↓j27, ↓j29, ↓j30, j33, ↓j39, ↓j44, ↓j78, ↓j145, ↓j146, ↓j153, AV.proj, AV.offOf, AV.upd, AV.size, AV.layable, j170, j171, reduceCtorEq, ↓reduceIte, Nat.reduceEqDiff, j182, j240, j273, hz, hpl]
            exact ret (Q, 0) _ _ _ (by rw [hg, if_pos rfl]) rfl rfl rfl
          · have htw : g = 2 := htw
            subst htw
            have has : ACall Try.prog 23 [arrAV d.body, .str ⟨e.rc.delta.toArray⟩] [] (.tuple [arrAV b, .bool false]) [] := has
            refine CallTo.pure (args := [arrAV d.body, .str ⟨e.rc.delta.toArray⟩]) rfl fok23 (by simp -dsimp -implicitDefEqProofs only [↓j25, ↓j29, j173, j174, ↓reduceIte, Nat.reduceEqDiff]) (fun x hx => (args_dapp x hx).2) has ?_
            simp -dsimp -implicitDefEqProofs only [↓j0, ↓j1, ↓j7, ↓j10, ↓j12, ↓j13, ↓j15, j17, j18, j19, j20, j21, j22, j23, ↓j25, ↓j27, ↓j29, ↓j30, j33, ↓j38, ↓j39, ↓j43, ↓j44, ↓j45, ↓j54, ↓j55, ↓j57, ↓j76, ↓j78, ↓j79, j84, j85, ↓j124, j125, j126, j127, j128, j129, j130, ↓j145, ↓j146, ↓j147, ↓j149, ↓j153, partsAV, AV.proj, AV.offOf, AV.upd, AV.size, AV.sizeL, AV.layable, j163, j164, j166, j167, j168, j169, j170, j171, j179, j180, reduceCtorEq, ↓reduceIte, Nat.reduceAdd, Nat.reduceEqDiff, j182, j183, j194, j196, j197, j213, j214, j215, j216, j217, j218, j219, j240, j243, j273, j282, j284, j285, j325, j328, j361, j362, j371, j378, j381, j384, j439, j449, hz, hi, hdl, hbl]
            exact ret (zb 224, 2) _ _ _ (by rw [hg, if_neg (by decide)]) rfl rfl rfl
        · have e2 : ((e.rc.kind : Int) == 2) = false := by rw [beq_eq_false_iff_ne]; omega
          have hps := rputData_spec no hno { d with lsn := e.lsn } ⟨he.lsn, hdo.ts, hdo.pg, hdo.body⟩
          have hpl : (putData no { d with lsn := e.lsn }).length = 224 := putData_len (d := { d with lsn := e.lsn }) ⟨he.lsn, hdo.ts, hdo.pg, hdo.body⟩
          have hg : redoP false no p e = (putData no { d with lsn := e.lsn }, 0) := by rw [good, if_neg Bool.false_ne_true, if_neg k1, hq, if_neg (by simp), if_neg k2]
          obtain ⟨Q, hQ⟩ : ∃ Q, putData no { d with lsn := e.lsn } = Q := ⟨_, rfl⟩
          rw [hQ] at hps hpl hg
          simp -dsimp -implicitDefEqProofs only [↓j0, ↓j1, ↓j2, ↓j7, ↓j9, ↓j12, ↓j13, ↓j15, j17, j18, j20, ↓j25, ↓j27, ↓j29, ↓j30, j32, j33, ↓j38, ↓j40, ↓j43, ↓j45, ↓j48, ↓j53, ↓j55, ↓j76, ↓j79, j83, j84, ↓j89, ↓j91, j129, j130, j131, ↓j145, ↓j146, ↓j147, ↓j148, ↓j149, ↓j151, ↓j153, j157, AV.proj, AV.offOf, AV.size, AV.sizeL, AV.flat, AV.flatL, j163, j164, j166, j167, j170, j171, j172, j173, j174, j175, reduceCtorEq, ↓reduceIte, Nat.reduceAdd, Nat.reduceEqDiff, j182, j185, j193, j194, j195, j196, j197, j212, kindOf, j240, j253, j255, j261, j263, j264, j266, j269, j271, j272, j273, j274, j316, j319, hp, e6, hce, e1]
          refine CallTo.pure (args := [.int .u16 no, arrAV p]) rfl fok22 (by simp -dsimp -implicitDefEqProofs only [↓j25, ↓j29, j173, j174, ↓reduceIte, Nat.reduceEqDiff]) (fun x hx => (args_np x hx).2) hgs ?_
          simp -dsimp -implicitDefEqProofs only [↓j0, ↓j1, ↓j2, ↓j7, ↓j9, ↓j12, ↓j13, ↓j15, j17, j18, j19, j20, j21, j22, j23, ↓j25, ↓j27, ↓j29, ↓j30, j32, j33, ↓j38, ↓j39, ↓j40, ↓j41, ↓j43, ↓j44, ↓j45, ↓j48, ↓j53, ↓j55, ↓j57, ↓j76, ↓j78, ↓j79, j83, j84, j85, ↓j89, j129, j130, ↓j145, ↓j146, ↓j147, ↓j148, ↓j149, ↓j150, ↓j153, j157, AV.proj, AV.offOf, AV.upd, AV.size, AV.sizeL, AV.layable, j163, j164, j166, j167, j169, j170, j171, j175, reduceCtorEq, ↓reduceIte, Nat.reduceAdd, Nat.reduceEqDiff, j182, j185, j193, j196, j197, j240, j243, j255, j261, j269, j278, j279, j316, j344, j361, j366, j367, j371, j372, j374, j383, j429, j431, hdl, e2]
          refine CallTo.pure (args := [.int .u16 no, Dt.av { d with lsn := e.lsn }]) rfl fok24 (by simp -dsimp -implicitDefEqProofs only [↓j25, ↓j29, j173, j174, ↓reduceIte, Nat.reduceEqDiff]) notupD hps ?_
          simp -dsimp -implicitDefEqProofs only [↓j0, ↓j1, ↓j10, j17, j18, j19, j20, j21, j22, j23, ↓j25, ↓j27, ↓j29, ↓j30, j33, ↓j39, ↓j44, ↓j78, ↓j145, ↓j146, ↓j153, AV.proj, AV.offOf, AV.upd, AV.size, AV.layable, j170, j171, reduceCtorEq, ↓reduceIte, Nat.reduceEqDiff, j182, j240, j273, hz, hpl]
          exact ret (Q, 0) _ _ _ hg.symm rfl rfl rfl
    · have hgu := rgetUndo_spec no hno p hp
      rw [rget_getU hno hp] at hgu
      have hR : redoP true no p e = undoP no p e := by rw [good, if_pos rfl, if_neg k1]
      simp -dsimp -implicitDefEqProofs only [↓j0, ↓j1, ↓j2, ↓j7, ↓j9, ↓j12, ↓j13, ↓j15, j17, j18, j20, ↓j25, ↓j27, ↓j29, ↓j30, j32, j33, ↓j38, ↓j40, ↓j43, ↓j45, ↓j48, ↓j53, ↓j55, ↓j76, ↓j79, j83, j84, ↓j89, ↓j91, j129, j130, j131, ↓j145, ↓j146, ↓j148, ↓j149, ↓j151, ↓j153, j157, AV.proj, AV.offOf, AV.size, AV.sizeL, AV.flat, AV.flatL, j163, j164, j166, j167, j170, j171, j172, j173, j174, j175, reduceCtorEq, ↓reduceIte, Nat.reduceAdd, Nat.reduceEqDiff, j182, j185, j193, j195, j196, j197, j212, kindOf, j240, j253, j255, j261, j263, j264, j266, j269, j271, j272, j273, j274, j316, j319, hp, e6, hce, e1]
      refine CallTo.pure (args := [.int .u16 no, arrAV p]) rfl fok25 (by simp -dsimp -implicitDefEqProofs only [↓j25, ↓j29, j173, j174, ↓reduceIte, Nat.reduceEqDiff]) (fun x hx => (args_np x hx).2) hgu ?_
      cases hgn : getUndo no p with
      | none =>
        have hU : redoP true no p e = (zb 224, 2) := by rw [hR]; unfold undoP; rw [hgn]
        simp -dsimp -implicitDefEqProofs only [↓j0, ↓j1, ↓j7, ↓j10, ↓j12, ↓j13, ↓j15, j17, j18, j19, j20, j21, j22, j23, ↓j25, ↓j27, ↓j29, ↓j30, j33, ↓j38, ↓j39, ↓j41, ↓j44, ↓j54, ↓j55, ↓j57, ↓j78, j84, j85, ↓j124, j125, j127, ↓j145, ↓j146, ↓j147, ↓j149, ↓j153, partsAV, AV.proj, AV.offOf, AV.upd, AV.size, AV.sizeL, AV.layable, j163, j164, j170, j171, reduceCtorEq, ↓reduceIte, Nat.reduceAdd, Nat.reduceEqDiff, j182, j194, j197, j214, j218, j219, j240, j273, j391, j433, j439, hz, Option.isSome_none]
        exact ret (zb 224, 2) _ _ _ hU.symm rfl rfl rfl
      | some u =>
        obtain ⟨huo, hum, hul⟩ := getUndo_ok hp hgn
        have bad : stepU u e.rc = none → (zb 224, (2 : Int)) = redoP true no p e := fun h => by rw [hR]; unfold undoP; rw [hgn]; simp only [h]
        have f0 : ((0 : Int) != 0) = false := rfl
        have fs : (((e.rc.slot : Nat) : Int) != ((e.rc.slot : Nat) : Int)) = false := by simp
        have ws : IntKind.i64.wrap (e.rc.slot : Int) = (e.rc.slot : Int) := wrap_i64 (by omega) (by have := he.rc.slot; omega)
        simp -dsimp -implicitDefEqProofs only [↓j0, ↓j1, ↓j7, ↓j9, ↓j12, ↓j13, ↓j14, ↓j15, j17, j18, j19, j20, j21, j22, j23, ↓j25, ↓j27, ↓j29, ↓j30, j33, ↓j38, ↓j39, ↓j41, ↓j43, ↓j44, ↓j45, ↓j48, ↓j50, ↓j55, ↓j57, ↓j76, ↓j78, ↓j79, j84, j85, ↓j89, j130, ↓j145, ↓j146, ↓j148, ↓j149, ↓j153, j157, AV.proj, AV.offOf, AV.upd, AV.size, AV.sizeL, AV.layable, j163, j164, j166, j167, j170, j171, reduceCtorEq, ↓reduceIte, Nat.reduceAdd, Nat.reduceEqDiff, j182, j185, j193, j196, j197, ↓j225, j240, j251, j255, j316, j334, j391, j433, j461, hi, Option.isSome_some, Option.getD_some, ws]
        by_cases k3 : e.rc.kind = 3
        · have e3 : ((e.rc.kind : Int) == 3) = true := by rw [beq_iff_eq]; omega
          have hst : stepU u e.rc = if (addU u e.rc.old).2.2 = 0 ∧ (addU u e.rc.old).2.1 = (e.rc.slot : Int) then some (addU u e.rc.old).1 else none := by unfold stepU; rw [if_pos k3]
          have hao := addU_ok huo he.rc.old
          have has := raddU_spec u e.rc.old huo.len
          obtain ⟨⟨v, s, f⟩, hv⟩ : ∃ x, addU u e.rc.old = x := ⟨_, rfl⟩
          rw [hv] at hst hao has
          have hvo : v.Ok := hao
          simp -dsimp -implicitDefEqProofs only [↓j1, ↓j7, ↓j15, j17, j18, j20, ↓j25, ↓j27, ↓j29, ↓j43, ↓j45, ↓j53, ↓j76, ↓j79, j129, ↓j145, ↓j146, ↓j147, ↓j153, AV.proj, AV.offOf, AV.size, AV.sizeL, j163, j164, j166, j167, j171, ↓reduceIte, Nat.reduceAdd, Nat.reduceEqDiff, j182, j196, j197, j240, j294, j295, j337, j391, j392, hi, e3]
          refine CallTo.pure (args := [u.av, e.rc.old.av]) rfl fok26 (by simp -dsimp -implicitDefEqProofs only [↓j25, ↓j29, j173, j174, ↓reduceIte, Nat.reduceEqDiff]) args_uo has ?_
          by_cases c1 : f = 0
          · subst c1
            by_cases c2 : s = (e.rc.slot : Int)
            · subst c2
              have hs2 : stepU u e.rc = some v := by rw [hst]; rw [if_pos ⟨rfl, rfl⟩]
              have hS : redoP true no p e = (putUndo no ⟨e.lsn, v.olds⟩, 0) := by
                rw [hR]; unfold undoP; rw [hgn]; simp only [hs2, step_may hum hs2, if_true]
              have hpu := rputUndo_spec no hno ⟨e.lsn, v.olds⟩ ⟨he.lsn, hvo.len, hvo.olds⟩
              have hpl := putUndo_len (no := no) (u := ⟨e.lsn, v.olds⟩)
              obtain ⟨P, hP⟩ : ∃ P, putUndo no ⟨e.lsn, v.olds⟩ = P := ⟨_, rfl⟩
              obtain ⟨F, hF⟩ : ∃ F, mayP ⟨e.lsn, v.olds⟩ = F := ⟨_, rfl⟩
              rw [hP] at hS hpl
              rw [hP, hF] at hpu
              simp -dsimp -implicitDefEqProofs only [↓j0, ↓j1, ↓j2, ↓j7, ↓j9, ↓j12, ↓j13, ↓j15, j17, j18, j19, j20, j21, j22, j23, ↓j25, ↓j27, ↓j29, ↓j30, j32, j33, ↓j38, ↓j39, ↓j40, ↓j43, ↓j44, ↓j45, ↓j48, ↓j50, ↓j53, ↓j55, ↓j57, ↓j76, ↓j78, ↓j79, j83, j84, j85, ↓j89, j129, j130, ↓j145, ↓j146, ↓j148, ↓j149, ↓j151, ↓j153, j158, AV.proj, AV.offOf, AV.upd, AV.size, AV.sizeL, AV.layable, j163, j164, j166, j167, j169, j170, j171, j175, reduceCtorEq, ↓reduceIte, Nat.reduceAdd, Nat.reduceEqDiff, j182, j185, j193, j195, j196, j197, ↓j225, j240, j251, j255, j261, j269, j278, j279, j334, j344, j391, j392, j394, j461, hi, f0, fs, ws]
              refine CallTo.pure (args := [.int .u16 no, Ud.av ⟨e.lsn, v.olds⟩]) rfl fok29 (by simp -dsimp -implicitDefEqProofs only [↓j25, ↓j29, j173, j174, ↓reduceIte, Nat.reduceEqDiff]) notupN hpu ?_
              simp -dsimp -implicitDefEqProofs only [↓j0, ↓j1, ↓j7, ↓j10, ↓j12, ↓j15, j17, j18, j19, j20, j21, j22, j23, ↓j25, ↓j27, ↓j29, ↓j30, j33, ↓j38, ↓j39, ↓j41, ↓j43, ↓j44, ↓j57, ↓j76, ↓j78, j85, j129, ↓j145, ↓j146, ↓j153, AV.proj, AV.offOf, AV.upd, AV.size, AV.layable, j163, j164, j170, j171, reduceCtorEq, ↓reduceIte, Nat.reduceAdd, Nat.reduceEqDiff, j182, j240, j273, j274, j419, hz, hpl]
              exact ret (P, 0) _ _ _ hS.symm rfl rfl rfl
            · have f1 : (s != ((e.rc.slot : Nat) : Int)) = true := by simpa using c2
              simp -dsimp -implicitDefEqProofs only [↓j0, ↓j1, ↓j2, ↓j7, ↓j10, ↓j12, ↓j13, ↓j15, j17, j18, j19, j20, j21, j22, j23, ↓j25, ↓j27, ↓j29, ↓j30, j32, j33, ↓j38, ↓j39, ↓j40, ↓j43, ↓j44, ↓j45, ↓j48, ↓j50, ↓j54, ↓j55, ↓j57, ↓j76, ↓j78, ↓j79, j83, j84, j85, ↓j89, ↓j124, j125, j127, j130, ↓j145, ↓j146, ↓j147, ↓j148, ↓j149, ↓j151, ↓j153, j158, partsAV, AV.proj, AV.offOf, AV.upd, AV.size, AV.sizeL, AV.layable, j163, j164, j166, j167, j170, j171, j175, reduceCtorEq, ↓reduceIte, Nat.reduceAdd, Nat.reduceEqDiff, j182, j185, j193, j195, j196, j197, j214, j218, j219, ↓j225, j240, j251, j255, j273, j334, j391, j439, j461, hz, hi, f0, f1, ws]
              exact ret (zb 224, 2) _ _ _ (bad (by rw [hst, if_neg (fun h => c2 h.2)])) rfl rfl rfl
          · have f1 : (f != 0) = true := by simpa using c1
            simp -dsimp -implicitDefEqProofs only [↓j0, ↓j1, ↓j2, ↓j7, ↓j10, ↓j12, ↓j13, ↓j15, j17, j18, j19, j20, j21, j22, j23, ↓j25, ↓j27, ↓j29, ↓j30, j32, j33, ↓j38, ↓j39, ↓j40, ↓j44, ↓j48, ↓j54, ↓j55, ↓j57, ↓j78, j81, j83, j84, j85, ↓j89, ↓j124, j125, j127, ↓j145, ↓j146, ↓j147, ↓j148, ↓j149, ↓j151, ↓j153, j158, partsAV, AV.proj, AV.offOf, AV.upd, AV.size, AV.sizeL, AV.layable, j163, j164, j170, j171, j175, reduceCtorEq, ↓reduceIte, Nat.reduceAdd, Nat.reduceEqDiff, j182, j185, j193, j195, j197, j214, j218, j219, j240, j273, j391, j439, hz, f1]
            exact ret (zb 224, 2) _ _ _ (bad (by rw [hst, if_neg (fun h => c1 h.1)])) rfl rfl rfl
        have e3 : ((e.rc.kind : Int) == 3) = false := by rw [beq_eq_false_iff_ne]; omega
        by_cases k4 : e.rc.kind = 4
        · have e4 : ((e.rc.kind : Int) == 4) = true := by rw [beq_iff_eq]; omega
          have hst : stepU u e.rc = if (freeU u e.rc.slot).2 = 0 then some (freeU u e.rc.slot).1 else none := by unfold stepU; rw [if_neg k3, if_pos k4]
          have hao : (freeU u e.rc.slot).1.Ok := freeU_ok huo
          have has := rfreeU_spec u e.rc.slot he.rc.slot huo.len
          obtain ⟨⟨v, f⟩, hv⟩ : ∃ x, freeU u e.rc.slot = x := ⟨_, rfl⟩
          rw [hv] at hst hao has
          have hvo : v.Ok := hao
          by_cases c1 : f = 0
          · subst c1
            have hs2 : stepU u e.rc = some v := by rw [hst]; rw [if_pos rfl]
            have has : ACall Try.prog 27 [u.av, .int .u8 e.rc.slot] [] (.tuple [v.av, .bool true]) [] := has
            simp -dsimp -implicitDefEqProofs only [↓j0, ↓j1, ↓j7, ↓j12, ↓j13, ↓j15, j17, j18, j20, ↓j25, ↓j27, ↓j29, ↓j30, j33, ↓j39, ↓j43, ↓j45, ↓j48, ↓j53, ↓j76, ↓j79, ↓j89, j129, j130, ↓j145, ↓j146, ↓j147, ↓j148, ↓j149, ↓j153, j157, AV.proj, AV.offOf, AV.size, AV.sizeL, j163, j164, j166, j167, j171, ↓reduceIte, Nat.reduceAdd, Nat.reduceEqDiff, j182, j185, j196, j197, j240, j255, j334, j391, j392, hi, e3, e4]
            refine CallTo.pure (args := [u.av, .int .u8 e.rc.slot]) rfl fok27 (by simp -dsimp -implicitDefEqProofs only [↓j25, ↓j29, j173, j174, ↓reduceIte, Nat.reduceEqDiff]) notupU has ?_
            have hS : redoP true no p e = (putUndo no ⟨e.lsn, v.olds⟩, 0) := by
              rw [hR]; unfold undoP; rw [hgn]; simp only [hs2, step_may hum hs2, if_true]
            have hpu := rputUndo_spec no hno ⟨e.lsn, v.olds⟩ ⟨he.lsn, hvo.len, hvo.olds⟩
            have hpl := putUndo_len (no := no) (u := ⟨e.lsn, v.olds⟩)
            obtain ⟨P, hP⟩ : ∃ P, putUndo no ⟨e.lsn, v.olds⟩ = P := ⟨_, rfl⟩
            obtain ⟨F, hF⟩ : ∃ F, mayP ⟨e.lsn, v.olds⟩ = F := ⟨_, rfl⟩
            rw [hP] at hS hpl
            rw [hP, hF] at hpu
            simp -dsimp -implicitDefEqProofs only [↓j0, ↓j1, ↓j2, ↓j7, ↓j9, ↓j12, ↓j13, ↓j15, j17, j18, j19, j20, j21, j22, j23, ↓j25, ↓j27, ↓j29, ↓j30, j32, j33, ↓j38, ↓j39, ↓j40, ↓j43, ↓j44, ↓j45, ↓j48, ↓j50, ↓j53, ↓j55, ↓j57, ↓j76, ↓j78, ↓j79, j83, j84, j85, ↓j89, j129, j130, ↓j145, ↓j146, ↓j148, ↓j149, ↓j151, ↓j153, j158, AV.proj, AV.offOf, AV.upd, AV.size, AV.sizeL, AV.layable, j163, j164, j166, j167, j169, j170, j171, j175, reduceCtorEq, ↓reduceIte, Nat.reduceAdd, Nat.reduceEqDiff, j182, j185, j193, j195, j196, j197, ↓j225, j240, j251, j255, j261, j269, j278, j279, j334, j344, j391, j392, j394, j461, hi, f0, fs, ws]
            refine CallTo.pure (args := [.int .u16 no, Ud.av ⟨e.lsn, v.olds⟩]) rfl fok29 (by simp -dsimp -implicitDefEqProofs only [↓j25, ↓j29, j173, j174, ↓reduceIte, Nat.reduceEqDiff]) notupN hpu ?_
            simp -dsimp -implicitDefEqProofs only [↓j0, ↓j1, ↓j7, ↓j10, ↓j12, ↓j15, j17, j18, j19, j20, j21, j22, j23, ↓j25, ↓j27, ↓j29, ↓j30, j33, ↓j38, ↓j39, ↓j41, ↓j43, ↓j44, ↓j57, ↓j76, ↓j78, j85, j129, ↓j145, ↓j146, ↓j153, AV.proj, AV.offOf, AV.upd, AV.size, AV.layable, j163, j164, j170, j171, reduceCtorEq, ↓reduceIte, Nat.reduceAdd, Nat.reduceEqDiff, j182, j240, j273, j274, j419, hz, hpl]
            exact ret (P, 0) _ _ _ hS.symm rfl rfl rfl
          · have has : ACall Try.prog 27 [u.av, .int .u8 e.rc.slot] [] (.tuple [v.av, .bool false]) [] := by
              have h := has
              simp only [decide_eq_false c1] at h
              exact h
            simp -dsimp -implicitDefEqProofs only [↓j0, ↓j1, ↓j7, ↓j12, ↓j13, ↓j15, j17, j18, j20, ↓j25, ↓j27, ↓j29, ↓j30, j33, ↓j39, ↓j43, ↓j45, ↓j48, ↓j53, ↓j76, ↓j79, ↓j89, j129, j130, ↓j145, ↓j146, ↓j147, ↓j148, ↓j149, ↓j153, j157, AV.proj, AV.offOf, AV.size, AV.sizeL, j163, j164, j166, j167, j171, ↓reduceIte, Nat.reduceAdd, Nat.reduceEqDiff, j182, j185, j196, j197, j240, j255, j334, j391, j392, hi, e3, e4]
            refine CallTo.pure (args := [u.av, .int .u8 e.rc.slot]) rfl fok27 (by simp -dsimp -implicitDefEqProofs only [↓j25, ↓j29, j173, j174, ↓reduceIte, Nat.reduceEqDiff]) notupU has ?_
            simp -dsimp -implicitDefEqProofs only [↓j0, ↓j1, ↓j2, ↓j7, ↓j10, ↓j12, ↓j13, ↓j15, j17, j18, j19, j20, j21, j22, j23, ↓j25, ↓j27, ↓j29, ↓j30, j32, j33, ↓j38, ↓j39, ↓j40, ↓j44, ↓j54, ↓j55, ↓j57, ↓j78, j81, j84, j85, ↓j124, j125, j127, ↓j145, ↓j146, ↓j147, ↓j149, ↓j151, ↓j153, partsAV, AV.proj, AV.offOf, AV.upd, AV.size, AV.sizeL, AV.layable, j163, j164, j170, j171, j175, reduceCtorEq, ↓reduceIte, Nat.reduceAdd, Nat.reduceEqDiff, j182, j194, j197, j214, j218, j219, j240, j273, j391, j439, hz]
            exact ret (zb 224, 2) _ _ _ (bad (by rw [hst, if_neg c1])) rfl rfl rfl
        have e4 : ((e.rc.kind : Int) == 4) = false := by rw [beq_eq_false_iff_ne]; omega
        by_cases k5 : e.rc.kind = 5
        · have e5 : ((e.rc.kind : Int) == 5) = true := by rw [beq_iff_eq]; omega
          have hst : stepU u e.rc = if (cutU u e.rc.slot).2 = 0 then some (cutU u e.rc.slot).1 else none := by unfold stepU; rw [if_neg k3, if_neg k4, if_pos k5]
          have hao : (cutU u e.rc.slot).1.Ok := cutU_ok huo
          have has := rcutU_spec u e.rc.slot he.rc.slot huo.len
          obtain ⟨⟨v, f⟩, hv⟩ : ∃ x, cutU u e.rc.slot = x := ⟨_, rfl⟩
          rw [hv] at hst hao has
          have hvo : v.Ok := hao
          by_cases c1 : f = 0
          · subst c1
            have hs2 : stepU u e.rc = some v := by rw [hst]; rw [if_pos rfl]
            have has : ACall Try.prog 28 [u.av, .int .u8 e.rc.slot] [] (.tuple [v.av, .bool true]) [] := has
            simp -dsimp -implicitDefEqProofs only [↓j0, ↓j1, ↓j7, ↓j12, ↓j13, ↓j15, j17, j18, j20, ↓j25, ↓j27, ↓j29, ↓j30, j33, ↓j39, ↓j43, ↓j45, ↓j48, ↓j53, ↓j76, ↓j79, ↓j89, j129, j130, ↓j145, ↓j146, ↓j147, ↓j148, ↓j149, ↓j153, j157, AV.proj, AV.offOf, AV.size, AV.sizeL, j163, j164, j166, j167, j171, ↓reduceIte, Nat.reduceAdd, Nat.reduceEqDiff, j182, j185, j196, j197, j240, j255, j334, j391, j392, hi, e3, e4, e5]
            refine CallTo.pure (args := [u.av, .int .u8 e.rc.slot]) rfl fok28 (by simp -dsimp -implicitDefEqProofs only [↓j25, ↓j29, j173, j174, ↓reduceIte, Nat.reduceEqDiff]) notupU has ?_
            have hS : redoP true no p e = (putUndo no ⟨e.lsn, v.olds⟩, 0) := by
              rw [hR]; unfold undoP; rw [hgn]; simp only [hs2, step_may hum hs2, if_true]
            have hpu := rputUndo_spec no hno ⟨e.lsn, v.olds⟩ ⟨he.lsn, hvo.len, hvo.olds⟩
            have hpl := putUndo_len (no := no) (u := ⟨e.lsn, v.olds⟩)
            obtain ⟨P, hP⟩ : ∃ P, putUndo no ⟨e.lsn, v.olds⟩ = P := ⟨_, rfl⟩
            obtain ⟨F, hF⟩ : ∃ F, mayP ⟨e.lsn, v.olds⟩ = F := ⟨_, rfl⟩
            rw [hP] at hS hpl
            rw [hP, hF] at hpu
            simp -dsimp -implicitDefEqProofs only [↓j0, ↓j1, ↓j2, ↓j7, ↓j9, ↓j12, ↓j13, ↓j15, j17, j18, j19, j20, j21, j22, j23, ↓j25, ↓j27, ↓j29, ↓j30, j32, j33, ↓j38, ↓j39, ↓j40, ↓j43, ↓j44, ↓j45, ↓j48, ↓j50, ↓j53, ↓j55, ↓j57, ↓j76, ↓j78, ↓j79, j83, j84, j85, ↓j89, j129, j130, ↓j145, ↓j146, ↓j148, ↓j149, ↓j151, ↓j153, j158, AV.proj, AV.offOf, AV.upd, AV.size, AV.sizeL, AV.layable, j163, j164, j166, j167, j169, j170, j171, j175, reduceCtorEq, ↓reduceIte, Nat.reduceAdd, Nat.reduceEqDiff, j182, j185, j193, j195, j196, j197, ↓j225, j240, j251, j255, j261, j269, j278, j279, j334, j344, j391, j392, j394, j461, hi, f0, fs, ws]
            refine CallTo.pure (args := [.int .u16 no, Ud.av ⟨e.lsn, v.olds⟩]) rfl fok29 (by simp -dsimp -implicitDefEqProofs only [↓j25, ↓j29, j173, j174, ↓reduceIte, Nat.reduceEqDiff]) notupN hpu ?_
            simp -dsimp -implicitDefEqProofs only [↓j0, ↓j1, ↓j7, ↓j10, ↓j12, ↓j15, j17, j18, j19, j20, j21, j22, j23, ↓j25, ↓j27, ↓j29, ↓j30, j33, ↓j38, ↓j39, ↓j41, ↓j43, ↓j44, ↓j57, ↓j76, ↓j78, j85, j129, ↓j145, ↓j146, ↓j153, AV.proj, AV.offOf, AV.upd, AV.size, AV.layable, j163, j164, j170, j171, reduceCtorEq, ↓reduceIte, Nat.reduceAdd, Nat.reduceEqDiff, j182, j240, j273, j274, j419, hz, hpl]
            exact ret (P, 0) _ _ _ hS.symm rfl rfl rfl
          · have has : ACall Try.prog 28 [u.av, .int .u8 e.rc.slot] [] (.tuple [v.av, .bool false]) [] := by
              have h := has
              simp only [decide_eq_false c1] at h
              exact h
            simp -dsimp -implicitDefEqProofs only [↓j0, ↓j1, ↓j7, ↓j12, ↓j13, ↓j15, j17, j18, j20, ↓j25, ↓j27, ↓j29, ↓j30, j33, ↓j39, ↓j43, ↓j45, ↓j48, ↓j53, ↓j76, ↓j79, ↓j89, j129, j130, ↓j145, ↓j146, ↓j147, ↓j148, ↓j149, ↓j153, j157, AV.proj, AV.offOf, AV.size, AV.sizeL, j163, j164, j166, j167, j171, ↓reduceIte, Nat.reduceAdd, Nat.reduceEqDiff, j182, j185, j196, j197, j240, j255, j334, j391, j392, hi, e3, e4, e5]
            refine CallTo.pure (args := [u.av, .int .u8 e.rc.slot]) rfl fok28 (by simp -dsimp -implicitDefEqProofs only [↓j25, ↓j29, j173, j174, ↓reduceIte, Nat.reduceEqDiff]) notupU has ?_
            simp -dsimp -implicitDefEqProofs only [↓j0, ↓j1, ↓j2, ↓j7, ↓j10, ↓j12, ↓j13, ↓j15, j17, j18, j19, j20, j21, j22, j23, ↓j25, ↓j27, ↓j29, ↓j30, j32, j33, ↓j38, ↓j39, ↓j40, ↓j44, ↓j54, ↓j55, ↓j57, ↓j78, j81, j84, j85, ↓j124, j125, j127, ↓j145, ↓j146, ↓j147, ↓j149, ↓j151, ↓j153, partsAV, AV.proj, AV.offOf, AV.upd, AV.size, AV.sizeL, AV.layable, j163, j164, j170, j171, j175, reduceCtorEq, ↓reduceIte, Nat.reduceAdd, Nat.reduceEqDiff, j182, j194, j197, j214, j218, j219, j240, j273, j391, j439, hz]
            exact ret (zb 224, 2) _ _ _ (bad (by rw [hst, if_neg c1])) rfl rfl rfl
        have e5 : ((e.rc.kind : Int) == 5) = false := by rw [beq_eq_false_iff_ne]; omega
        have hs2 : stepU u e.rc = some u := by unfold stepU; rw [if_neg k3, if_neg k4, if_neg k5]
        have hS : redoP true no p e = (putUndo no ⟨e.lsn, u.olds⟩, 0) := by
          rw [hR]; unfold undoP; rw [hgn]; simp only [hs2, step_may hum hs2, if_true]
        have hpu := rputUndo_spec no hno ⟨e.lsn, u.olds⟩ ⟨he.lsn, huo.len, huo.olds⟩
        have hpl := putUndo_len (no := no) (u := ⟨e.lsn, u.olds⟩)
        obtain ⟨P, hP⟩ : ∃ P, putUndo no ⟨e.lsn, u.olds⟩ = P := ⟨_, rfl⟩
        obtain ⟨F, hF⟩ : ∃ F, mayP ⟨e.lsn, u.olds⟩ = F := ⟨_, rfl⟩
        rw [hP] at hS hpl
        rw [hP, hF] at hpu
        simp -dsimp -implicitDefEqProofs only [↓j0, ↓j1, ↓j2, ↓j7, ↓j9, ↓j12, ↓j13, ↓j15, j17, j18, j19, j20, j21, j22, j23, ↓j25, ↓j27, ↓j29, ↓j30, j32, j33, ↓j38, ↓j39, ↓j40, ↓j43, ↓j44, ↓j45, ↓j48, ↓j50, ↓j53, ↓j55, ↓j76, ↓j78, ↓j79, j83, j84, ↓j89, j129, j130, ↓j145, ↓j146, ↓j148, ↓j149, ↓j151, ↓j153, j157, j158, AV.proj, AV.offOf, AV.upd, AV.size, AV.sizeL, AV.layable, j163, j164, j166, j167, j169, j170, j171, j175, reduceCtorEq, ↓reduceIte, Nat.reduceAdd, Nat.reduceEqDiff, j182, j185, j193, j195, j196, j197, ↓j225, j240, j251, j255, j261, j269, j278, j279, j334, j344, j391, j392, j394, j461, hi, e3, e4, e5, f0, fs, ws]
        refine CallTo.pure (args := [.int .u16 no, Ud.av ⟨e.lsn, u.olds⟩]) rfl fok29 (by simp -dsimp -implicitDefEqProofs only [↓j25, ↓j29, j173, j174, ↓reduceIte, Nat.reduceEqDiff]) notupN hpu ?_
        simp -dsimp -implicitDefEqProofs only [↓j0, ↓j1, ↓j7, ↓j10, ↓j12, ↓j15, j17, j18, j19, j20, j21, j22, j23, ↓j25, ↓j27, ↓j29, ↓j30, j33, ↓j38, ↓j39, ↓j41, ↓j43, ↓j44, ↓j57, ↓j76, ↓j78, j85, j129, ↓j145, ↓j146, ↓j153, AV.proj, AV.offOf, AV.upd, AV.size, AV.layable, j163, j164, j170, j171, reduceCtorEq, ↓reduceIte, Nat.reduceAdd, Nat.reduceEqDiff, j182, j240, j273, j274, j419, hz, hpl]
        exact ret (P, 0) _ _ _ hS.symm rfl rfl rfl
end Go.Proofs.Ytimdepgenefkmaa
