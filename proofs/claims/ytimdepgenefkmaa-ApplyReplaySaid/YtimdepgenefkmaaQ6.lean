import Derived.Test.YtimdepgenefkmaaQ5
set_option maxRecDepth 8000
set_option linter.unusedVariables false
set_option linter.unusedSimpArgs false
namespace Go.Proofs.Ytimdepgenefkmaa
open Go Go.RowKit

def redoP (uu : Bool) (no : Nat) (p : List UInt8) (e : En) : List UInt8 × Int :=
  if mayR e.rc = false ∨ e.rc.kind = 6 ∨ ¬ (e.rc.undo = uu ∧ e.rc.no = no) then (zb 224, 1) else
  if uu then undoP no (if e.rc.kind = 1 then e.rc.image else p) e else
  if (getData no (if e.rc.kind = 1 then e.rc.image else p)).2 = false then (zb 224, 2) else
  if e.rc.kind = 2 then
    if (dApplyR (getData no p).1.body e.rc.delta).2 = 0 then (putData no ⟨e.lsn, e.rc.ts, e.rc.ppg, e.rc.psl, (dApplyR (getData no p).1.body e.rc.delta).1⟩, 0) else (zb 224, 2)
  else (putData no { (getData no (if e.rc.kind = 1 then e.rc.image else p)).1 with lsn := e.lsn }, 0)
theorem getData_dt {no : Nat} {p : List UInt8} (hp : p.length = 224) : (getData no p).1.Ok := by
  unfold getData
  split
  · exact dtOf_ok hp
  · exact zero_ok
theorem dApplyR_len {b d : List UInt8} (hb : b.length = 64) : (dApplyR b d).1.length = 64 := by
  unfold dApplyR
  split
  · exact eachP_len d _ _ _ b hb
  · exact zb_len 64
theorem dApplyR_two (b d : List UInt8) : (dApplyR b d).2 = 0 ∨ (dApplyR b d).2 = 2 := by
  unfold dApplyR
  split
  · exact .inl rfl
  · exact .inr rfl
theorem args_ipe {uu : Bool} {no : Nat} {p : List UInt8} {e : En} : ∀ x, x ∈ [idAV uu no, arrAV p, e.av] → AV.on (fun _ => False) x ∧ ∀ vs, x ≠ .tuple vs := fun x hx => by
  simp only [List.mem_cons, List.not_mem_nil, or_false] at hx
  rcases hx with rfl | rfl | rfl
  · exact ⟨⟨trivial, trivial, trivial⟩, fun vs h => by cases h⟩
  · exact ⟨on_bytes _ _, fun vs h => by cases h⟩
  · exact ⟨on_en _ _, fun vs h => by cases h⟩
theorem notupD {d : Dt} {k : IntKind} {n : Int} : ∀ x, x ∈ [AV.int k n, d.av] → ∀ vs, x ≠ .tuple vs := fun x hx vs h => by
  simp only [List.mem_cons, List.not_mem_nil, or_false] at hx
  rcases hx with rfl | rfl <;> cases h
theorem fok17 : fnOk Try.prog 17 = true := by kernel_rfl
theorem fok19 : fnOk Try.prog 19 = true := by kernel_rfl
theorem cellsEq_id (a b : Bool) (m n : Nat) : cellsEq [AV.bool a, .int .u16 m] [AV.bool b, .int .u16 n] = some (decide (a = b ∧ m = n)) := by
  have h := cellsEq_cons (x := AV.bool a) (y := AV.bool b) (a := a == b) rfl (cellsEq_cons (scEq_int (k := .u16) (a := m) (b := n)) cellsEq_nil)
  rw [h]
  congr 1
  rw [Bool.eq_iff_iff]
  simp only [Bool.and_eq_true, beq_iff_eq, decide_eq_true_eq, and_true]
  constructor <;> rintro ⟨h1, h2⟩ <;> exact ⟨h1, by omega⟩
theorem mayR_delta {r : Rc} (h : mayR r = true) : r.delta.length ≤ 66 := by
  unfold mayR at h
  simp only [Bool.and_eq_true, decide_eq_true_eq] at h
  exact h.2.2.2.1
set_option maxHeartbeats 3200000 in
theorem redo_spec (uu : Bool) (no : Nat) (hno : no < 65536) (p : List UInt8) (hp : p.length = 224) (e : En) (he : e.Ok) : ACall Try.prog 8 [idAV uu no, arrAV p, e.av] [] (pgAV (redoP uu no p e)) [] := by
  refine ACall.run (Z := Z) (N := 85) mixed hZ Try.func8 rfl rfl (by kernel_rfl) (by simp) args_ipe 0 ?_
  have hz := zb_len 224
  have hz6 := zb_len 64
  have hi := he.rc.image
  have ret : ∀ (r : List UInt8 × Int) (t : Env) (H : Heap) (m : Nat), r = redoP uu no p e → r.1.length = 224 → look t 6 = some (.ptr 3 0 []) → look t 7 = some (.int .i64 r.2) → Heap.get H 3 = some (.cells (arrAV r.1)) → Final Try.prog Try.f8 (pgAV (redoP uu no p e)) [] .ret ⟨85, t, H, m⟩ := fun r t H m hr hl h1 h2 h3 => by
    subst hr
    exact Final.many (.inr rfl) (rs := [.cell 6 26, .tmp 7]) (us := [arrAV (redoP uu no p e).1, .int .i64 (redoP uu no p e).2]) rfl ⟨⟨3, 0, [], _, h1, h3, rfl, rfl, by simp -dsimp -implicitDefEqProofs only [j129, j182, j240, j273, j274, hl]⟩, ⟨h2, fun vs h => by cases h⟩, trivial⟩ (by simp) ⟨.same _ (on_bytes _ _), .same _ trivial, trivial⟩
  have hms := mayR_spec e.rc he.rc
  have bad1 : (mayR e.rc = false ∨ e.rc.kind = 6 ∨ ¬ (e.rc.undo = uu ∧ e.rc.no = no)) → (zb 224, (1 : Int)) = redoP uu no p e := fun h => by unfold redoP; rw [if_pos h]
  simp -dsimp -implicitDefEqProofs only [↓j0, ↓j1, ↓j7, ↓j12, ↓j15, j17, j18, j19, j20, j21, j22, j23, ↓j25, ↓j27, ↓j29, ↓j30, j33, ↓j39, ↓j41, ↓j42, ↓j43, ↓j44, ↓j45, ↓j53, ↓j76, ↓j78, ↓j79, j129, ↓j145, ↓j146, ↓j153, AV.proj, AV.offOf, AV.upd, AV.size, AV.sizeL, AV.layable, argEnv, j163, j164, j166, j167, j170, j171, j172, reduceCtorEq, ↓reduceIte, Nat.reduceAdd, Nat.reduceEqDiff, j182, j196, j197, j240, j313, j314, j347, j419, j424, hz, hi]
  refine CallTo.pure (args := [e.rc.av]) rfl fok16 (by simp -dsimp -implicitDefEqProofs only [↓j25, ↓j29, j173, j174, ↓reduceIte]) (fun x hx => (args_rc x hx).2) hms ?_
  cases hm : mayR e.rc
  · simp -dsimp -implicitDefEqProofs only [↓j0, ↓j1, ↓j2, ↓j7, ↓j10, ↓j12, ↓j13, ↓j15, j17, j18, j19, j20, j21, j22, j23, ↓j25, ↓j27, ↓j29, ↓j30, j32, j33, ↓j38, ↓j39, ↓j40, ↓j44, ↓j54, ↓j55, ↓j78, j81, j84, ↓j124, j125, j127, ↓j145, ↓j146, ↓j147, ↓j149, ↓j151, ↓j153, partsAV, AV.proj, AV.offOf, AV.upd, AV.size, AV.layable, j163, j164, j170, j171, j175, reduceCtorEq, ↓reduceIte, Nat.reduceEqDiff, j182, j194, j214, j218, j219, j240, j273, j439, hz]
    exact ret (zb 224, 1) _ _ _ (bad1 (.inl hm)) hz rfl rfl rfl
  by_cases k6 : e.rc.kind = 6
  · have e6 : ((e.rc.kind : Int) == 6) = true := by rw [beq_iff_eq]; omega
    simp -dsimp -implicitDefEqProofs only [↓j0, ↓j1, ↓j2, ↓j7, ↓j10, ↓j12, ↓j13, ↓j15, j17, j18, j19, j20, j21, j22, j23, ↓j25, ↓j27, ↓j29, ↓j30, j32, j33, ↓j38, ↓j39, ↓j40, ↓j43, ↓j44, ↓j45, ↓j48, ↓j54, ↓j55, ↓j76, ↓j78, ↓j79, j81, j83, j84, ↓j89, ↓j124, j125, j127, j130, ↓j145, ↓j146, ↓j147, ↓j148, ↓j149, ↓j151, ↓j153, j157, partsAV, AV.proj, AV.offOf, AV.upd, AV.size, AV.sizeL, AV.layable, j163, j164, j167, j170, j171, j175, reduceCtorEq, ↓reduceIte, Nat.reduceEqDiff, j182, j185, j193, j195, j197, j214, j218, j219, j240, j255, j273, j316, j439, hz, e6]
    exact ret (zb 224, 1) _ _ _ (bad1 (.inr (.inl k6))) hz rfl rfl rfl
  have e6 : ((e.rc.kind : Int) == 6) = false := by rw [beq_eq_false_iff_ne]; omega
  have hce := cellsEq_id e.rc.undo uu e.rc.no no
  by_cases hid : e.rc.undo = uu ∧ e.rc.no = no
  case neg =>
    rw [decide_eq_false hid] at hce
    simp -dsimp -implicitDefEqProofs only [↓j0, ↓j1, ↓j2, ↓j7, ↓j10, ↓j12, ↓j13, ↓j15, j17, j18, j19, j20, j21, j22, j23, ↓j25, ↓j27, ↓j29, ↓j30, j32, j33, ↓j38, ↓j39, ↓j40, ↓j43, ↓j44, ↓j45, ↓j48, ↓j54, ↓j55, ↓j76, ↓j78, ↓j79, j83, j84, ↓j89, ↓j91, ↓j124, j125, j127, j129, j130, ↓j145, ↓j146, ↓j147, ↓j148, ↓j149, ↓j151, ↓j153, j157, partsAV, AV.proj, AV.offOf, AV.upd, AV.size, AV.sizeL, AV.layable, AV.flat, AV.flatL, j163, j164, j166, j167, j170, j171, j172, j173, j174, j175, reduceCtorEq, ↓reduceIte, Nat.reduceAdd, Nat.reduceEqDiff, j182, j185, j193, j194, j195, j196, j197, j212, kindOf, j214, j218, j219, j240, j255, j263, j264, j271, j272, j273, j316, j319, j439, hz, e6, hce]
    exact ret (zb 224, 1) _ _ _ (bad1 (.inr (.inr hid))) hz rfl rfl rfl
  rw [decide_eq_true hid] at hce
  have good : redoP uu no p e = if uu then undoP no (if e.rc.kind = 1 then e.rc.image else p) e else
      if (getData no (if e.rc.kind = 1 then e.rc.image else p)).2 = false then (zb 224, 2) else
      if e.rc.kind = 2 then
        if (dApplyR (getData no p).1.body e.rc.delta).2 = 0 then (putData no ⟨e.lsn, e.rc.ts, e.rc.ppg, e.rc.psl, (dApplyR (getData no p).1.body e.rc.delta).1⟩, 0) else (zb 224, 2)
      else (putData no { (getData no (if e.rc.kind = 1 then e.rc.image else p)).1 with lsn := e.lsn }, 0) := by
    unfold redoP
    rw [if_neg]
    rintro (h | h | h)
    · rw [hm] at h; cases h
    · exact k6 h
    · exact h hid
  have n2 : ((2 : Int) != 0) = true := rfl
  have n0 : ((0 : Int) != 0) = false := rfl
  by_cases k1 : e.rc.kind = 1
  · have e1 : ((e.rc.kind : Int) == 1) = true := by rw [beq_iff_eq]; omega
    have e2 : ((e.rc.kind : Int) == 2) = false := by rw [beq_eq_false_iff_ne]; omega
    have k2 : ¬ e.rc.kind = 2 := by omega
    cases uu
    · have hgs := getData_spec no hno e.rc.image hi
      have hdo := getData_dt (no := no) hi
      obtain ⟨⟨d, f⟩, hq⟩ : ∃ x, getData no e.rc.image = x := ⟨_, rfl⟩
      rw [hq] at hgs hdo
      have hdo : d.Ok := hdo
      have hdl := hdo.body
      cases f
      · have hg : redoP false no p e = (zb 224, 2) := by rw [good, if_neg Bool.false_ne_true, if_pos k1, hq]; rfl
        simp -dsimp -implicitDefEqProofs only [↓j0, ↓j1, ↓j2, ↓j7, ↓j9, ↓j12, ↓j13, ↓j15, j17, j18, j19, j20, j21, j22, j23, ↓j25, ↓j27, ↓j29, ↓j30, j32, j33, ↓j38, ↓j40, ↓j43, ↓j44, ↓j45, ↓j48, ↓j53, ↓j55, ↓j76, ↓j78, ↓j79, j83, j84, ↓j89, ↓j91, j129, j130, j131, ↓j145, ↓j146, ↓j147, ↓j148, ↓j149, ↓j151, ↓j153, j157, AV.proj, AV.offOf, AV.upd, AV.size, AV.sizeL, AV.layable, AV.flat, AV.flatL, j163, j164, j166, j167, j170, j171, j172, j173, j174, j175, reduceCtorEq, ↓reduceIte, Nat.reduceAdd, Nat.reduceEqDiff, j182, j185, j193, j195, j196, j197, j212, kindOf, j240, j253, j255, j261, j263, j264, j266, j269, j271, j272, j273, j274, j316, j319, j322, hp, hi, e6, hce, e1]
        refine CallTo.pure (args := [.int .u16 no, arrAV e.rc.image]) rfl fok18 (by simp -dsimp -implicitDefEqProofs only [↓j25, ↓j29, j173, j174, ↓reduceIte, Nat.reduceEqDiff]) (fun x hx => (args_np x hx).2) hgs ?_
        simp -dsimp -implicitDefEqProofs only [↓j0, ↓j1, ↓j7, ↓j10, ↓j12, ↓j13, ↓j15, j17, j18, j19, j20, j21, j22, j23, ↓j25, ↓j27, ↓j29, ↓j30, j33, ↓j38, ↓j39, ↓j41, ↓j44, ↓j48, ↓j54, ↓j57, ↓j78, j85, ↓j89, ↓j124, j125, j127, ↓j145, ↓j146, ↓j147, ↓j149, ↓j153, j158, partsAV, AV.proj, AV.offOf, AV.upd, AV.size, AV.sizeL, AV.layable, j163, j164, j170, j171, reduceCtorEq, ↓reduceIte, Nat.reduceAdd, Nat.reduceEqDiff, j182, j185, j195, j197, j214, j218, j219, j240, j273, j371, j431, j439, hz, hdl, hz6, n2]
        exact ret (zb 224, 2) _ _ _ hg.symm hz rfl rfl rfl
      · have hps := putData_spec no hno { d with lsn := e.lsn } ⟨he.lsn, hdo.ts, hdo.pg, hdo.body⟩
        have hpl : (putData no { d with lsn := e.lsn }).length = 224 := putData_len (d := { d with lsn := e.lsn }) ⟨he.lsn, hdo.ts, hdo.pg, hdo.body⟩
        have hg : redoP false no p e = (putData no { d with lsn := e.lsn }, 0) := by rw [good, if_neg Bool.false_ne_true, if_pos k1, hq, if_neg (by simp), if_neg k2]
        obtain ⟨Q, hQ⟩ : ∃ Q, putData no { d with lsn := e.lsn } = Q := ⟨_, rfl⟩
        rw [hQ] at hps hpl hg
        simp -dsimp -implicitDefEqProofs only [↓j0, ↓j1, ↓j2, ↓j7, ↓j9, ↓j12, ↓j13, ↓j15, j17, j18, j19, j20, j21, j22, j23, ↓j25, ↓j27, ↓j29, ↓j30, j32, j33, ↓j38, ↓j40, ↓j43, ↓j44, ↓j45, ↓j48, ↓j53, ↓j55, ↓j76, ↓j78, ↓j79, j83, j84, ↓j89, ↓j91, j129, j130, j131, ↓j145, ↓j146, ↓j147, ↓j148, ↓j149, ↓j151, ↓j153, j157, AV.proj, AV.offOf, AV.upd, AV.size, AV.sizeL, AV.layable, AV.flat, AV.flatL, j163, j164, j166, j167, j170, j171, j172, j173, j174, j175, reduceCtorEq, ↓reduceIte, Nat.reduceAdd, Nat.reduceEqDiff, j182, j185, j193, j195, j196, j197, j212, kindOf, j240, j253, j255, j261, j263, j264, j266, j269, j271, j272, j273, j274, j316, j319, j322, hp, hi, e6, hce, e1]
        refine CallTo.pure (args := [.int .u16 no, arrAV e.rc.image]) rfl fok18 (by simp -dsimp -implicitDefEqProofs only [↓j25, ↓j29, j173, j174, ↓reduceIte, Nat.reduceEqDiff]) (fun x hx => (args_np x hx).2) hgs ?_
        simp -dsimp -implicitDefEqProofs only [↓j0, ↓j1, ↓j7, ↓j9, ↓j12, ↓j13, ↓j15, j17, j18, j19, j20, j21, j22, j23, ↓j25, ↓j27, ↓j29, ↓j30, j33, ↓j38, ↓j39, ↓j41, ↓j43, ↓j44, ↓j45, ↓j48, ↓j53, ↓j57, ↓j76, ↓j78, ↓j79, j85, ↓j89, j129, j130, ↓j145, ↓j146, ↓j148, ↓j149, ↓j153, j157, j158, AV.proj, AV.offOf, AV.upd, AV.size, AV.sizeL, AV.layable, j163, j164, j166, j167, j169, j170, j171, reduceCtorEq, ↓reduceIte, Nat.reduceAdd, Nat.reduceEqDiff, j182, j185, j196, j197, j240, j243, j255, j261, j269, j278, j279, j316, j344, j371, j372, j374, j431, hdl, n0, e2]
        refine CallTo.pure (args := [.int .u16 no, Dt.av { d with lsn := e.lsn }]) rfl fok20 (by simp -dsimp -implicitDefEqProofs only [↓j25, ↓j29, j173, j174, ↓reduceIte, Nat.reduceEqDiff]) notupD hps ?_
        simp -dsimp -implicitDefEqProofs only [↓j0, ↓j1, ↓j10, j17, j18, j19, j20, j21, j22, j23, ↓j25, ↓j27, ↓j29, ↓j30, j33, ↓j39, ↓j44, ↓j78, ↓j145, ↓j146, ↓j153, AV.proj, AV.offOf, AV.upd, AV.size, AV.layable, j170, j171, reduceCtorEq, ↓reduceIte, Nat.reduceEqDiff, j182, j240, j273, hz, hpl]
        exact ret (Q, 0) _ _ _ hg.symm hpl rfl rfl rfl
    · have hus := undo_spec no hno e.rc.image hi e he
      have hul := undoP_len (no := no) (p := e.rc.image) (e := e)
      obtain ⟨⟨q, f⟩, hq⟩ : ∃ x, undoP no e.rc.image e = x := ⟨_, rfl⟩
      rw [hq] at hus hul
      have hg : redoP true no p e = (q, f) := by rw [good, if_pos rfl, if_pos k1, hq]
      have hul : q.length = 224 := hul
      simp -dsimp -implicitDefEqProofs only [↓j0, ↓j1, ↓j2, ↓j7, ↓j9, ↓j12, ↓j13, ↓j15, j17, j18, j19, j20, j21, j22, j23, ↓j25, ↓j27, ↓j29, ↓j30, j32, j33, ↓j38, ↓j40, ↓j43, ↓j44, ↓j45, ↓j48, ↓j53, ↓j55, ↓j76, ↓j78, ↓j79, j83, j84, ↓j89, ↓j91, j129, j130, j131, ↓j145, ↓j146, ↓j147, ↓j148, ↓j149, ↓j151, ↓j153, j157, AV.proj, AV.offOf, AV.upd, AV.size, AV.sizeL, AV.layable, AV.flat, AV.flatL, j163, j164, j166, j167, j170, j171, j172, j173, j174, j175, reduceCtorEq, ↓reduceIte, Nat.reduceAdd, Nat.reduceEqDiff, j182, j185, j193, j195, j196, j197, j212, kindOf, j240, j253, j255, j261, j263, j264, j266, j269, j271, j272, j273, j274, j316, j319, j322, j341, j342, hp, hi, e6, hce, e1]
      refine CallTo.pure (args := [.int .u16 no, arrAV e.rc.image, e.av]) rfl fok17 (by simp -dsimp -implicitDefEqProofs only [↓j25, ↓j29, j173, j174, ↓reduceIte, Nat.reduceEqDiff]) (fun x hx => (args_npe x hx).2) hus ?_
      simp -dsimp -implicitDefEqProofs only [↓j0, ↓j1, ↓j10, j17, j18, j19, j20, j21, j22, j23, ↓j25, ↓j27, ↓j29, ↓j39, ↓j44, ↓j57, ↓j78, j85, ↓j145, ↓j146, ↓j153, AV.proj, AV.offOf, AV.upd, AV.size, AV.layable, j163, j164, j170, j171, reduceCtorEq, ↓reduceIte, Nat.reduceEqDiff, j182, j240, j273, hz, hul]
      exact ret (q, f) _ _ _ hg.symm hul rfl rfl rfl
  · have e1 : ((e.rc.kind : Int) == 1) = false := by rw [beq_eq_false_iff_ne]; omega
    cases uu
    · have hgs := getData_spec no hno p hp
      have hdo := getData_dt (no := no) hp
      obtain ⟨⟨d, f⟩, hq⟩ : ∃ x, getData no p = x := ⟨_, rfl⟩
      rw [hq] at hgs hdo
      have hdo : d.Ok := hdo
      have hdl := hdo.body
      cases f
      · have hg : redoP false no p e = (zb 224, 2) := by rw [good, if_neg Bool.false_ne_true, if_neg k1, hq]; rfl
        simp -dsimp -implicitDefEqProofs only [↓j0, ↓j1, ↓j2, ↓j7, ↓j9, ↓j12, ↓j13, ↓j15, j17, j18, j20, ↓j25, ↓j27, ↓j29, ↓j30, j32, j33, ↓j38, ↓j40, ↓j43, ↓j45, ↓j48, ↓j53, ↓j55, ↓j76, ↓j79, j83, j84, ↓j89, ↓j91, j129, j130, j131, ↓j145, ↓j146, ↓j148, ↓j149, ↓j151, ↓j153, j157, AV.proj, AV.offOf, AV.size, AV.sizeL, AV.flat, AV.flatL, j163, j164, j166, j167, j170, j171, j172, j173, j174, j175, reduceCtorEq, ↓reduceIte, Nat.reduceAdd, Nat.reduceEqDiff, j182, j185, j193, j195, j196, j197, j212, kindOf, j240, j253, j255, j261, j263, j264, j266, j269, j271, j272, j273, j274, j316, j319, hp, e6, hce, e1]
        refine CallTo.pure (args := [.int .u16 no, arrAV p]) rfl fok18 (by simp -dsimp -implicitDefEqProofs only [↓j25, ↓j29, j173, j174, ↓reduceIte, Nat.reduceEqDiff]) (fun x hx => (args_np x hx).2) hgs ?_
        simp -dsimp -implicitDefEqProofs only [↓j0, ↓j1, ↓j7, ↓j10, ↓j12, ↓j13, ↓j15, j17, j18, j19, j20, j21, j22, j23, ↓j25, ↓j27, ↓j29, ↓j30, j33, ↓j38, ↓j39, ↓j41, ↓j44, ↓j48, ↓j54, ↓j57, ↓j78, j85, ↓j89, ↓j124, j125, j127, ↓j145, ↓j146, ↓j147, ↓j149, ↓j153, j158, partsAV, AV.proj, AV.offOf, AV.upd, AV.size, AV.sizeL, AV.layable, j163, j164, j170, j171, reduceCtorEq, ↓reduceIte, Nat.reduceAdd, Nat.reduceEqDiff, j182, j185, j195, j197, j214, j218, j219, j240, j273, j371, j431, j439, hz, hdl, hz6, n2]
        exact ret (zb 224, 2) _ _ _ hg.symm hz rfl rfl rfl
      · by_cases k2 : e.rc.kind = 2
        · have e2 : ((e.rc.kind : Int) == 2) = true := by rw [beq_iff_eq]; omega
          have has := dapply_spec d.body e.rc.delta hdo.body (by have := mayR_delta hm; omega)
          have hbl := dApplyR_len (d := e.rc.delta) hdo.body
          have htw := dApplyR_two d.body e.rc.delta
          have hg : redoP false no p e = if (dApplyR d.body e.rc.delta).2 = 0 then (putData no ⟨e.lsn, e.rc.ts, e.rc.ppg, e.rc.psl, (dApplyR d.body e.rc.delta).1⟩, 0) else (zb 224, 2) := by
            rw [good, if_neg Bool.false_ne_true, if_neg k1, hq, if_neg (by simp), if_pos k2]
          obtain ⟨⟨b, g⟩, hb⟩ : ∃ x, dApplyR d.body e.rc.delta = x := ⟨_, rfl⟩
          rw [hb] at has hbl htw hg
          have hbl : b.length = 64 := hbl
          have hpl : (putData no ⟨e.lsn, e.rc.ts, e.rc.ppg, e.rc.psl, b⟩).length = 224 := putData_len ⟨he.lsn, he.rc.ts, he.rc.ppg, hbl⟩
          have hps := putData_spec no hno ⟨e.lsn, e.rc.ts, e.rc.ppg, e.rc.psl, b⟩ ⟨he.lsn, he.rc.ts, he.rc.ppg, hbl⟩
          obtain ⟨Q, hQ⟩ : ∃ Q, putData no ⟨e.lsn, e.rc.ts, e.rc.ppg, e.rc.psl, b⟩ = Q := ⟨_, rfl⟩
          simp only [hQ] at hg hpl hps
          simp -dsimp -implicitDefEqProofs only [↓j0, ↓j1, ↓j2, ↓j7, ↓j9, ↓j12, ↓j13, ↓j15, j17, j18, j20, ↓j25, ↓j27, ↓j29, ↓j30, j32, j33, ↓j38, ↓j40, ↓j43, ↓j45, ↓j48, ↓j53, ↓j55, ↓j76, ↓j79, j83, j84, ↓j89, ↓j91, j129, j130, j131, ↓j145, ↓j146, ↓j148, ↓j149, ↓j151, ↓j153, j157, AV.proj, AV.offOf, AV.size, AV.sizeL, AV.flat, AV.flatL, j163, j164, j166, j167, j170, j171, j172, j173, j174, j175, reduceCtorEq, ↓reduceIte, Nat.reduceAdd, Nat.reduceEqDiff, j182, j185, j193, j195, j196, j197, j212, kindOf, j240, j253, j255, j261, j263, j264, j266, j269, j271, j272, j273, j274, j316, j319, hp, e6, hce, e1]
          refine CallTo.pure (args := [.int .u16 no, arrAV p]) rfl fok18 (by simp -dsimp -implicitDefEqProofs only [↓j25, ↓j29, j173, j174, ↓reduceIte, Nat.reduceEqDiff]) (fun x hx => (args_np x hx).2) hgs ?_
          simp -dsimp -implicitDefEqProofs only [↓j0, ↓j1, ↓j7, ↓j9, ↓j12, ↓j13, ↓j15, j17, j18, j19, j20, j21, j22, j23, ↓j25, ↓j27, ↓j29, ↓j30, j33, ↓j38, ↓j39, ↓j41, ↓j43, ↓j44, ↓j45, ↓j48, ↓j53, ↓j57, ↓j76, ↓j78, ↓j79, j85, ↓j89, j129, j130, j132, ↓j145, ↓j146, ↓j147, ↓j148, ↓j149, ↓j153, j157, j158, AV.proj, AV.offOf, AV.upd, AV.size, AV.sizeL, AV.layable, j163, j164, j166, j167, j170, j171, reduceCtorEq, ↓reduceIte, Nat.reduceAdd, Nat.reduceEqDiff, j182, j185, j196, j197, j240, j243, j255, j258, j316, j331, j366, j367, j371, j383, j431, hi, hdl, n0, e2]
          refine CallTo.pure (args := [arrAV d.body, .str ⟨e.rc.delta.toArray⟩]) rfl fok19 (by simp -dsimp -implicitDefEqProofs only [↓j25, ↓j29, j173, j174, ↓reduceIte, Nat.reduceEqDiff]) (fun x hx => (args_dapp x hx).2) has ?_
          rcases htw with htw | htw
          · have htw : g = 0 := htw
            subst htw
            have g0 : (((0 : Nat) : Int) != 0) = false := rfl
            simp -dsimp -implicitDefEqProofs only [↓j0, ↓j1, ↓j3, ↓j4, ↓j7, ↓j8, ↓j9, ↓j12, ↓j13, ↓j15, j17, j18, j19, j20, j21, j22, j23, j24, ↓j25, ↓j27, ↓j29, ↓j30, j33, ↓j38, ↓j39, ↓j41, ↓j43, ↓j44, ↓j45, ↓j48, ↓j57, ↓j76, ↓j78, ↓j79, j85, ↓j89, j129, j130, ↓j145, ↓j146, ↓j148, ↓j149, ↓j153, j158, AV.proj, AV.offOf, AV.upd, AV.size, AV.sizeL, AV.layable, j163, j164, j166, j167, j168, j169, j170, j171, j172, j173, j174, reduceCtorEq, ↓reduceIte, Nat.reduceAdd, Nat.reduceEqDiff, j182, j185, j196, j197, j240, j243, j281, j282, j284, j285, j325, j328, j366, j367, j377, j380, j383, j430, hi, hdl, hbl, g0]
            refine ⟨by kernel_rfl, ?_⟩
            simp -dsimp -implicitDefEqProofs only [↓j0, ↓j1, ↓j7, ↓j12, ↓j15, j17, j18, j19, j20, j21, j22, j23, ↓j25, ↓j27, ↓j29, ↓j43, ↓j44, ↓j45, ↓j53, ↓j76, ↓j78, ↓j79, j129, j130, ↓j145, ↓j146, ↓j153, AV.proj, AV.offOf, AV.upd, AV.size, AV.sizeL, AV.layable, j163, j164, j166, j167, j169, j170, j171, reduceCtorEq, ↓reduceIte, Nat.reduceAdd, Nat.reduceEqDiff, j182, j196, j197, j240, j261, j269, j278, j279, j344, j371, j372, j374, hbl]
            refine CallTo.pure (args := [.int .u16 no, Dt.av ⟨e.lsn, e.rc.ts, e.rc.ppg, e.rc.psl, b⟩]) rfl fok20 (by simp -dsimp -implicitDefEqProofs only [↓j25, ↓j29, j173, j174, ↓reduceIte, Nat.reduceEqDiff]) notupD hps ?_
            simp -dsimp -implicitDefEqProofs only [↓j0, ↓j1, ↓j10, j17, j18, j19, j20, j21, j22, j23, ↓j25, ↓j27, ↓j29, ↓j30, j33, ↓j39, ↓j44, ↓j78, ↓j145, ↓j146, ↓j153, AV.proj, AV.offOf, AV.upd, AV.size, AV.layable, j170, j171, reduceCtorEq, ↓reduceIte, Nat.reduceEqDiff, j182, j240, j273, hz, hpl]
            exact ret (Q, 0) _ _ _ (by rw [hg, if_pos rfl]) hpl rfl rfl rfl
          · have htw : g = 2 := htw
            subst htw
            have g0 : (((2 : Nat) : Int) != 0) = true := rfl
            simp -dsimp -implicitDefEqProofs only [↓j0, ↓j1, ↓j7, ↓j10, ↓j12, ↓j13, ↓j15, j17, j18, j19, j20, j21, j22, j23, ↓j25, ↓j27, ↓j29, ↓j30, j33, ↓j38, ↓j39, ↓j41, ↓j44, ↓j48, ↓j54, ↓j57, ↓j78, j85, ↓j89, ↓j124, j125, j127, ↓j145, ↓j146, ↓j147, ↓j149, ↓j153, j158, partsAV, AV.proj, AV.offOf, AV.upd, AV.size, AV.layable, j163, j164, j170, j171, reduceCtorEq, ↓reduceIte, Nat.reduceAdd, Nat.reduceEqDiff, j182, j185, j214, j218, j219, j240, j243, j273, j366, j430, j439, hz, hbl, g0]
            exact ret (zb 224, 2) _ _ _ (by rw [hg, if_neg (by decide)]) hz rfl rfl rfl
        · have e2 : ((e.rc.kind : Int) == 2) = false := by rw [beq_eq_false_iff_ne]; omega
          have hps := putData_spec no hno { d with lsn := e.lsn } ⟨he.lsn, hdo.ts, hdo.pg, hdo.body⟩
          have hpl : (putData no { d with lsn := e.lsn }).length = 224 := putData_len (d := { d with lsn := e.lsn }) ⟨he.lsn, hdo.ts, hdo.pg, hdo.body⟩
          have hg : redoP false no p e = (putData no { d with lsn := e.lsn }, 0) := by rw [good, if_neg Bool.false_ne_true, if_neg k1, hq, if_neg (by simp), if_neg k2]
          obtain ⟨Q, hQ⟩ : ∃ Q, putData no { d with lsn := e.lsn } = Q := ⟨_, rfl⟩
          rw [hQ] at hps hpl hg
          simp -dsimp -implicitDefEqProofs only [↓j0, ↓j1, ↓j2, ↓j7, ↓j9, ↓j12, ↓j13, ↓j15, j17, j18, j20, ↓j25, ↓j27, ↓j29, ↓j30, j32, j33, ↓j38, ↓j40, ↓j43, ↓j45, ↓j48, ↓j53, ↓j55, ↓j76, ↓j79, j83, j84, ↓j89, ↓j91, j129, j130, j131, ↓j145, ↓j146, ↓j148, ↓j149, ↓j151, ↓j153, j157, AV.proj, AV.offOf, AV.size, AV.sizeL, AV.flat, AV.flatL, j163, j164, j166, j167, j170, j171, j172, j173, j174, j175, reduceCtorEq, ↓reduceIte, Nat.reduceAdd, Nat.reduceEqDiff, j182, j185, j193, j195, j196, j197, j212, kindOf, j240, j253, j255, j261, j263, j264, j266, j269, j271, j272, j273, j274, j316, j319, hp, e6, hce, e1]
          refine CallTo.pure (args := [.int .u16 no, arrAV p]) rfl fok18 (by simp -dsimp -implicitDefEqProofs only [↓j25, ↓j29, j173, j174, ↓reduceIte, Nat.reduceEqDiff]) (fun x hx => (args_np x hx).2) hgs ?_
          simp -dsimp -implicitDefEqProofs only [↓j0, ↓j1, ↓j7, ↓j9, ↓j12, ↓j13, ↓j15, j17, j18, j19, j20, j21, j22, j23, ↓j25, ↓j27, ↓j29, ↓j30, j33, ↓j38, ↓j39, ↓j41, ↓j43, ↓j44, ↓j45, ↓j48, ↓j53, ↓j57, ↓j76, ↓j78, ↓j79, j85, ↓j89, j129, j130, ↓j145, ↓j146, ↓j148, ↓j149, ↓j153, j157, j158, AV.proj, AV.offOf, AV.upd, AV.size, AV.sizeL, AV.layable, j163, j164, j166, j167, j169, j170, j171, reduceCtorEq, ↓reduceIte, Nat.reduceAdd, Nat.reduceEqDiff, j182, j185, j196, j197, j240, j243, j255, j261, j269, j278, j279, j316, j344, j371, j372, j374, j431, hdl, n0, e2]
          refine CallTo.pure (args := [.int .u16 no, Dt.av { d with lsn := e.lsn }]) rfl fok20 (by simp -dsimp -implicitDefEqProofs only [↓j25, ↓j29, j173, j174, ↓reduceIte, Nat.reduceEqDiff]) notupD hps ?_
          simp -dsimp -implicitDefEqProofs only [↓j0, ↓j1, ↓j10, j17, j18, j19, j20, j21, j22, j23, ↓j25, ↓j27, ↓j29, ↓j30, j33, ↓j39, ↓j44, ↓j78, ↓j145, ↓j146, ↓j153, AV.proj, AV.offOf, AV.upd, AV.size, AV.layable, j170, j171, reduceCtorEq, ↓reduceIte, Nat.reduceEqDiff, j182, j240, j273, hz, hpl]
          exact ret (Q, 0) _ _ _ hg.symm hpl rfl rfl rfl
    · have hus := undo_spec no hno p hp e he
      have hul := undoP_len (no := no) (p := p) (e := e)
      obtain ⟨⟨q, f⟩, hq⟩ : ∃ x, undoP no p e = x := ⟨_, rfl⟩
      rw [hq] at hus hul
      have hg : redoP true no p e = (q, f) := by rw [good, if_pos rfl, if_neg k1, hq]
      have hul : q.length = 224 := hul
      simp -dsimp -implicitDefEqProofs only [↓j0, ↓j1, ↓j2, ↓j7, ↓j9, ↓j12, ↓j13, ↓j15, j17, j18, j20, ↓j25, ↓j27, ↓j29, ↓j30, j32, j33, ↓j38, ↓j40, ↓j43, ↓j45, ↓j48, ↓j53, ↓j55, ↓j76, ↓j79, j83, j84, ↓j89, ↓j91, j129, j130, j131, ↓j145, ↓j146, ↓j147, ↓j148, ↓j149, ↓j151, ↓j153, j157, AV.proj, AV.offOf, AV.size, AV.sizeL, AV.flat, AV.flatL, j163, j164, j166, j167, j170, j171, j172, j173, j174, j175, reduceCtorEq, ↓reduceIte, Nat.reduceAdd, Nat.reduceEqDiff, j182, j185, j193, j195, j196, j197, j212, kindOf, j240, j253, j255, j261, j263, j264, j266, j269, j271, j272, j273, j274, j316, j319, j341, j342, hp, hi, e6, hce, e1]
      refine CallTo.pure (args := [.int .u16 no, arrAV p, e.av]) rfl fok17 (by simp -dsimp -implicitDefEqProofs only [↓j25, ↓j29, j173, j174, ↓reduceIte, Nat.reduceEqDiff]) (fun x hx => (args_npe x hx).2) hus ?_
      simp -dsimp -implicitDefEqProofs only [↓j0, ↓j1, ↓j10, j17, j18, j19, j20, j21, j22, j23, ↓j25, ↓j27, ↓j29, ↓j39, ↓j44, ↓j57, ↓j78, j85, ↓j145, ↓j146, ↓j153, AV.proj, AV.offOf, AV.upd, AV.size, AV.layable, j163, j164, j170, j171, reduceCtorEq, ↓reduceIte, Nat.reduceEqDiff, j182, j240, j273, hz, hul]
      exact ret (q, f) _ _ _ hg.symm hul rfl rfl rfl
end Go.Proofs.Ytimdepgenefkmaa
