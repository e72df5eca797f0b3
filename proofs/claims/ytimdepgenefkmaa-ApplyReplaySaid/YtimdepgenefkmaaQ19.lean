import Derived.Test.YtimdepgenefkmaaQ8
set_option maxRecDepth 8000
set_option linter.unusedVariables false
set_option linter.unusedSimpArgs false
namespace Go.Proofs.Ytimdepgenefkmaa
open Go Go.RowKit

def plainR (r : Rc) : Bool := ((r.ts : Int) == 0) && ((((r.ppg : Int) == 0) && ((r.psl.toNat : Int) == 0)) && strEq ⟨r.delta.toArray⟩ ⟨#[]⟩)
def docMay (r : Rc) : Bool :=
  if r.kind = 1 then plainR r && (((r.slot : Int) == 0) && r.old.eqb .zero) else
  if r.kind = 2 then !r.undo && ((r.image == zb 224) && (((r.slot : Int) == 0) && (r.old.eqb .zero && decide (r.delta.length ≤ 66)))) else
  if r.kind = 3 then r.undo && ((r.image == zb 224) && (plainR r && (r.old.live && decide (r.old.delta.length ≤ 66)))) else
  if r.kind = 4 ∨ r.kind = 5 then r.undo && ((r.image == zb 224) && (plainR r && r.old.eqb .zero)) else
  if r.kind = 6 then (!r.undo && ((r.no : Int) == 0)) && ((r.image == zb 224) && ((((r.ppg : Int) == 0) && ((r.psl.toNat : Int) == 0)) && (strEq ⟨r.delta.toArray⟩ ⟨#[]⟩ && (((r.slot : Int) == 0) && r.old.eqb .zero)))) else false
theorem str_nil {l : List UInt8} : strEq ⟨l.toArray⟩ ⟨#[]⟩ = true ↔ l = [] := by
  rw [strEq_iff]
  constructor
  · intro h
    have := congrArg (fun x => x.data.toList) h
    simpa using this
  · rintro rfl; rfl
theorem psl_zero' {b : UInt8} : b.toNat = 0 ↔ b = 0 := ⟨fun h => UInt8.toNat_inj.1 (by simpa using h), fun h => by rw [h]; rfl⟩
theorem cast_zero {n : Nat} : ((n : Int) = 0) ↔ n = 0 := by omega
theorem nat_zero {n : Nat} : ((n : Int) == 0) = true ↔ n = 0 := by
  rw [beq_iff_eq]; omega
theorem may_doc {r : Rc} : mayR r = docMay r := by
  rw [Bool.eq_iff_iff]
  unfold mayR docMay
  simp only [Bool.and_eq_true, decide_eq_true_eq, Rc.eqb_iff]
  by_cases k1 : r.kind = 1
  · rw [if_pos k1]
    obtain ⟨a1, a2, a3, a4, a5, a6, a7, a8, a9, a10⟩ := r
    simp only at k1
    subst k1
    simp only [bareP, if_true, Rc.zero, plainR, Bool.and_eq_true, Rc.mk.injEq, Od.eqb_iff, str_nil, psl_zero', nat_zero, cast_zero]
    constructor
    · rintro ⟨_, _, ⟨_, _, _, _, h1, h2, h3, h4, h5, h6⟩, _, _⟩
      exact ⟨⟨h1.symm, ⟨h2.symm, h3.symm⟩, h4.symm⟩, h5.symm, h6.symm⟩
    · rintro ⟨⟨rfl, ⟨rfl, rfl⟩, rfl⟩, rfl, rfl⟩
      exact ⟨by decide, by decide, (by simp), by simp, by simp [Od.zero]⟩
  rw [if_neg k1]
  by_cases k2 : r.kind = 2
  · rw [if_pos k2]
    obtain ⟨a1, a2, a3, a4, a5, a6, a7, a8, a9, a10⟩ := r
    simp only at k2
    subst k2
    simp only [bareP, if_true, Rc.zero, plainR, Bool.and_eq_true, Rc.mk.injEq, Od.eqb_iff, str_nil, psl_zero', nat_zero, cast_zero, Bool.not_eq_true', beq_iff_eq, decide_eq_true_eq, show ¬ ((2 : Nat) = 1) by decide, if_false]
    constructor
    · rintro ⟨_, _, ⟨_, h1, _, h2, _, _, _, _, h3, h4⟩, h5, _⟩
      exact ⟨h1.symm, h2.symm, h3.symm, h4.symm, h5⟩
    · rintro ⟨rfl, rfl, rfl, rfl, h⟩
      exact ⟨by decide, by decide, (by simp), h, by simp [Od.zero]⟩
  rw [if_neg k2]
  by_cases k3 : r.kind = 3
  · rw [if_pos k3]
    obtain ⟨a1, a2, a3, a4, a5, a6, a7, a8, a9, ⟨b1, b2, b3, b4, b5, b6⟩⟩ := r
    simp only at k3
    subst k3
    simp only [bareP, if_true, Rc.zero, plainR, Bool.and_eq_true, Rc.mk.injEq, Od.mk.injEq, str_nil, psl_zero', nat_zero, cast_zero, beq_iff_eq, decide_eq_true_eq, show ¬ ((3 : Nat) = 1) by decide, show ¬ ((3 : Nat) = 2) by decide, if_false]
    constructor
    · rintro ⟨_, _, ⟨_, h1, _, h2, h3, h4, h5, h6, _, h7, _⟩, _, h8⟩
      exact ⟨h1.symm, h2.symm, ⟨h3.symm, ⟨h4.symm, h5.symm⟩, h6.symm⟩, h7.symm, h8⟩
    · rintro ⟨rfl, rfl, ⟨rfl, ⟨rfl, rfl⟩, rfl⟩, rfl, h⟩
      exact ⟨by decide, by decide, (by simp), by simp, h⟩
  rw [if_neg k3]
  by_cases k4 : r.kind = 4 ∨ r.kind = 5
  · rw [if_pos k4]
    have hb : bareP r = { Rc.zero with kind := r.kind, undo := true, no := r.no, slot := r.slot } := by rw [bareP, if_neg k1, if_neg k2, if_neg k3, if_pos k4]
    rw [hb]
    have k41 : 1 ≤ r.kind := by omega
    have k42 : r.kind ≤ 6 := by omega
    obtain ⟨a1, a2, a3, a4, a5, a6, a7, a8, a9, a10⟩ := r
    simp only [Rc.zero, plainR, Bool.and_eq_true, Rc.mk.injEq, Od.eqb_iff, str_nil, psl_zero', nat_zero, cast_zero, beq_iff_eq] at k41 k42 ⊢
    constructor
    · rintro ⟨_, _, ⟨_, h1, _, h2, h3, h4, h5, h6, _, h7⟩, _, _⟩
      exact ⟨h1.symm, h2.symm, ⟨h3.symm, ⟨h4.symm, h5.symm⟩, h6.symm⟩, h7.symm⟩
    · rintro ⟨rfl, rfl, ⟨rfl, ⟨rfl, rfl⟩, rfl⟩, rfl⟩
      exact ⟨k41, k42, (by simp), by simp, by simp [Od.zero]⟩
  rw [if_neg k4]
  by_cases k6 : r.kind = 6
  · rw [if_pos k6]
    have hb : bareP r = { Rc.zero with kind := r.kind, ts := r.ts } := by rw [bareP, if_neg k1, if_neg k2, if_neg k3, if_neg k4, if_pos k6]
    rw [hb]
    obtain ⟨a1, a2, a3, a4, a5, a6, a7, a8, a9, a10⟩ := r
    simp only at k6
    subst k6
    simp only [Rc.zero, Bool.and_eq_true, Rc.mk.injEq, Od.eqb_iff, str_nil, psl_zero', nat_zero, cast_zero, beq_iff_eq, Bool.not_eq_true']
    constructor
    · rintro ⟨_, _, ⟨_, h1, h2, h3, _, h4, h5, h6, h7, h8⟩, _, _⟩
      exact ⟨⟨h1.symm, h2.symm⟩, h3.symm, ⟨h4.symm, h5.symm⟩, h6.symm, h7.symm, h8.symm⟩
    · rintro ⟨⟨rfl, rfl⟩, rfl, ⟨rfl, rfl⟩, rfl, rfl, rfl⟩
      exact ⟨by decide, by decide, (by simp), by simp, by simp [Od.zero]⟩
  rw [if_neg k6]
  constructor
  · rintro ⟨h1, h2, _⟩; omega
  · intro h; cases h
theorem fok21 : fnOk Try.prog 21 = true := by kernel_rfl
theorem kinds_224 {l : List UInt8} (h : l.length = 224) : (l.map byteAV).map kindOf = List.replicate 224 (some K3.i) := by rw [kinds_map, h]
set_option maxHeartbeats 3200000 in
theorem docMay_spec (r : Rc) (h : r.Ok) : ACall Try.prog 21 [r.av] [] (.bool (mayR r)) [] := by
  rw [may_doc]
  refine ACall.run (Z := Z) (N := 128) mixed hZ Try.func21 rfl rfl (by kernel_rfl) (by simp) args_rc 0 ?_
  have hz := zb_len 224
  have hi := h.image
  have ret : ∀ (b : Bool) (t : Env) (H : Heap) (m : Nat), b = docMay r → look t 2 = some (.bool b) → Final Try.prog Try.f21 (.bool (docMay r)) [] .ret ⟨128, t, H, m⟩ := fun b t H m hb h1 => by
    subst hb
    exact Final.one (.inr rfl) (r := .tmp 2) rfl ⟨h1, fun vs h => by cases h⟩ (fun vs h => by cases h) (fun vs h => by cases h) (.same _ trivial)
  have hci := cellsEq_bytes (l := r.image) (k := zb 224) (by omega)
  have hco := cellsEq_od r.old .zero
  have hco : cellsEq [AV.bool r.old.live, .int .u16 r.old.page, .int .u32 r.old.ts, .int .u16 r.old.npg, .int .u8 r.old.nsl.toNat, .str ⟨r.old.delta.toArray⟩] [AV.bool false, .int .u16 0, .int .u32 0, .int .u16 0, .int .u8 0, .str ⟨#[]⟩] = some (r.old.eqb .zero) := hco
  have hcp : cellsEq [AV.int .u16 r.ppg, .int .u8 r.psl.toNat] [AV.int .u16 0, .int .u8 0] = some (((r.ppg : Int) == 0) && ((r.psl.toNat : Int) == 0)) := by
    rw [cellsEq_cons scEq_int (cellsEq_cons scEq_int cellsEq_nil), Bool.and_true]
  have hcd : cellsEq [AV.bool r.undo, .int .u16 r.no] [AV.bool false, .int .u16 0] = some (!r.undo && ((r.no : Int) == 0)) := by
    rw [cellsEq_cons (a := r.undo == false) rfl (cellsEq_cons scEq_int cellsEq_nil), Bool.and_true]; cases r.undo <;> rfl
  have hkb := kinds_224 hi
  have d1 : decide ((r.delta.length : Int) ≤ 66) = decide (r.delta.length ≤ 66) := by rw [decide_eq_decide]; omega
  have d2 : decide ((r.old.delta.length : Int) ≤ 66) = decide (r.old.delta.length ≤ 66) := by rw [decide_eq_decide]; omega
  have hP : plainR r = (((r.ts : Int) == 0) && ((((r.ppg : Int) == 0) && ((r.psl.toNat : Int) == 0)) && strEq ⟨r.delta.toArray⟩ ⟨#[]⟩)) := rfl
  have hM : docMay r = if r.kind = 1 then plainR r && (((r.slot : Int) == 0) && r.old.eqb .zero) else
    if r.kind = 2 then !r.undo && ((r.image == zb 224) && (((r.slot : Int) == 0) && (r.old.eqb .zero && decide (r.delta.length ≤ 66)))) else
    if r.kind = 3 then r.undo && ((r.image == zb 224) && (plainR r && (r.old.live && decide (r.old.delta.length ≤ 66)))) else
    if r.kind = 4 ∨ r.kind = 5 then r.undo && ((r.image == zb 224) && (plainR r && r.old.eqb .zero)) else
    if r.kind = 6 then (!r.undo && ((r.no : Int) == 0)) && ((r.image == zb 224) && ((((r.ppg : Int) == 0) && ((r.psl.toNat : Int) == 0)) && (strEq ⟨r.delta.toArray⟩ ⟨#[]⟩ && (((r.slot : Int) == 0) && r.old.eqb .zero)))) else false := rfl
  obtain ⟨im, him⟩ : ∃ b, (r.image == zb 224) = b := ⟨_, rfl⟩
  obtain ⟨od, hod⟩ : ∃ b, r.old.eqb .zero = b := ⟨_, rfl⟩
  obtain ⟨pv, hpv⟩ : ∃ b, (((r.ppg : Int) == 0) && ((r.psl.toNat : Int) == 0)) = b := ⟨_, rfl⟩
  obtain ⟨un, hun⟩ : ∃ b, r.undo = b := ⟨_, rfl⟩
  obtain ⟨dd, hdd⟩ : ∃ b, (!r.undo && ((r.no : Int) == 0)) = b := ⟨_, rfl⟩
  obtain ⟨t0, ht0⟩ : ∃ b, ((r.ts : Int) == 0) = b := ⟨_, rfl⟩
  obtain ⟨s0, hs0⟩ : ∃ b, ((r.slot : Int) == 0) = b := ⟨_, rfl⟩
  obtain ⟨dl, hdl⟩ : ∃ b, strEq ⟨r.delta.toArray⟩ ⟨#[]⟩ = b := ⟨_, rfl⟩
  obtain ⟨b1, hb1⟩ : ∃ b, decide (r.delta.length ≤ 66) = b := ⟨_, rfl⟩
  obtain ⟨b2, hb2⟩ : ∃ b, decide (r.old.delta.length ≤ 66) = b := ⟨_, rfl⟩
  obtain ⟨lv, hlv⟩ : ∃ b, r.old.live = b := ⟨_, rfl⟩
  rw [him] at hci; rw [hod] at hco; rw [hpv] at hcp; rw [hdd] at hcd; rw [hb1] at d1; rw [hb2] at d2
  rw [ht0, hpv, hdl] at hP
  rw [hP, hs0, hod, him, hb1, hb2, hlv, hun] at hM
  rw [hlv] at hco
  rw [hun] at hcd
  rw [show (!un && ((r.no : Int) == 0)) = dd by rw [← hun]; exact hdd, hpv, hdl] at hM
  simp -dsimp -implicitDefEqProofs only [↓j0, ↓j1, ↓j7, ↓j12, ↓j15, j17, j18, j20, ↓j25, ↓j27, ↓j29, ↓j30, j32, ↓j39, ↓j42, ↓j43, ↓j45, ↓j48, ↓j54, ↓j76, ↓j79, ↓j91, ↓j124, j125, j127, j129, ↓j145, ↓j146, ↓j153, partsAV, AV.proj, AV.offOf, AV.size, AV.sizeL, AV.layable, argEnv, j163, j164, j166, j167, j171, j172, ↓reduceIte, Nat.reduceAdd, Nat.reduceEqDiff, j182, j184, j196, j197, j211, j214, j218, j219, j240, j241, j273, j274, j276, j277, j322, j439, hi, hci]
  refine ⟨hkb, ?_⟩
  -- WALK
  by_cases k1 : r.kind = 1
  · have e1 : ((r.kind : Int) == 1) = true := by rw [beq_iff_eq]; omega
    rw [if_pos k1] at hM
    cases t0
    · skip
      simp -dsimp -implicitDefEqProofs only [↓j0, ↓j1, ↓j2, ↓j7, ↓j10, ↓j12, ↓j13, ↓j14, ↓j15, j17, j18, j20, ↓j25, ↓j27, ↓j29, ↓j30, j32, j33, ↓j38, ↓j39, ↓j40, ↓j43, ↓j45, ↓j48, ↓j54, ↓j76, ↓j79, j82, ↓j89, ↓j91, ↓j124, j125, j127, j129, j130, j131, ↓j145, ↓j146, ↓j147, ↓j148, ↓j149, ↓j150, ↓j153, j157, partsAV, AV.proj, AV.offOf, AV.size, AV.sizeL, AV.layable, AV.flat, AV.flatL, j163, j164, j166, j167, j170, j171, j172, j173, j174, j175, ↓reduceIte, Nat.reduceAdd, Nat.reduceEqDiff, j182, j185, j195, j196, j197, j211, kindOf, j214, j218, j219, j240, j253, j255, j266, j282, j294, j295, j311, j312, j316, j319, j325, j337, j441, hi, hco, ht0, hun, hlv, e1]
      exact ret false _ _ _ (by rw [hM]; rfl) rfl
    · skip
      cases pv
      · skip
        simp -dsimp -implicitDefEqProofs only [↓j0, ↓j1, ↓j2, ↓j7, ↓j10, ↓j12, ↓j13, ↓j14, ↓j15, j17, j18, j20, ↓j25, ↓j27, ↓j29, ↓j30, j32, j33, ↓j38, ↓j39, ↓j40, ↓j43, ↓j45, ↓j48, ↓j54, ↓j76, ↓j79, j82, j83, ↓j89, ↓j91, ↓j124, j125, j127, j129, j130, j131, ↓j145, ↓j146, ↓j147, ↓j148, ↓j149, ↓j150, ↓j153, j157, partsAV, AV.proj, AV.offOf, AV.size, AV.sizeL, AV.layable, AV.flat, AV.flatL, j163, j164, j166, j167, j170, j171, j172, j173, j174, j175, ↓reduceIte, Nat.reduceAdd, Nat.reduceEqDiff, j182, j185, j195, j196, j197, j211, kindOf, j214, j218, j219, j240, j253, j255, j266, j282, j284, j285, j292, j293, j294, j295, j311, j312, j316, j319, j325, j328, j337, j440, j441, hi, hco, hcp, ht0, hun, hlv, e1]
        exact ret false _ _ _ (by rw [hM]; rfl) rfl
      · skip
        cases dl
        · skip
          simp -dsimp -implicitDefEqProofs only [↓j0, ↓j1, ↓j2, ↓j7, ↓j10, ↓j12, ↓j13, ↓j14, ↓j15, j17, j18, j20, ↓j25, ↓j27, ↓j29, ↓j30, j32, j33, j34, ↓j38, ↓j39, ↓j40, ↓j43, ↓j45, ↓j48, ↓j54, ↓j76, ↓j79, j82, j83, ↓j89, ↓j91, j115, ↓j120, ↓j124, j125, j127, j129, j130, j131, j132, ↓j145, ↓j146, ↓j147, ↓j148, ↓j149, ↓j150, ↓j153, j157, partsAV, AV.proj, AV.offOf, AV.size, AV.sizeL, AV.layable, AV.flat, AV.flatL, j163, j164, j166, j167, j170, j171, j172, j173, j174, j175, ↓reduceIte, Nat.reduceAdd, Nat.reduceEqDiff, j182, j185, j195, j196, j197, j211, kindOf, j214, j218, j219, j240, j253, j255, j258, j266, j282, j284, j285, j292, j293, j294, j295, j311, j312, j316, j319, j325, j328, j331, j337, j440, j441, hi, hco, hcp, ht0, hdl, hun, hlv, e1]
          exact ret false _ _ _ (by rw [hM]; rfl) rfl
        · skip
          cases s0
          · skip
            simp -dsimp -implicitDefEqProofs only [↓j0, ↓j1, ↓j2, ↓j7, ↓j10, ↓j12, ↓j13, ↓j14, ↓j15, j17, j18, j20, ↓j25, ↓j27, ↓j29, ↓j30, j32, j33, j34, ↓j38, ↓j39, ↓j40, ↓j43, ↓j45, ↓j48, ↓j54, ↓j76, ↓j79, j82, j83, ↓j89, ↓j91, j115, ↓j120, ↓j124, j125, j127, j129, j130, j131, j132, ↓j145, ↓j146, ↓j147, ↓j148, ↓j149, ↓j150, ↓j153, j157, partsAV, AV.proj, AV.offOf, AV.size, AV.sizeL, AV.layable, AV.flat, AV.flatL, j163, j164, j166, j167, j170, j171, j172, j173, j174, j175, ↓reduceIte, Nat.reduceAdd, Nat.reduceEqDiff, j182, j185, j195, j196, j197, j211, kindOf, j214, j218, j219, j240, j253, j255, j258, j266, j282, j284, j285, j292, j293, j294, j295, j311, j312, j316, j319, j325, j328, j331, j334, j337, j440, j441, hi, hco, hcp, ht0, hs0, hdl, hun, hlv, e1]
            exact ret false _ _ _ (by rw [hM]; rfl) rfl
          · skip
            cases od
            · skip
              simp -dsimp -implicitDefEqProofs only [↓j0, ↓j1, ↓j2, ↓j7, ↓j10, ↓j12, ↓j13, ↓j14, ↓j15, j17, j18, j20, ↓j25, ↓j27, ↓j29, ↓j30, j32, j33, j34, ↓j38, ↓j39, ↓j40, ↓j43, ↓j45, ↓j48, ↓j54, ↓j76, ↓j79, j83, ↓j89, ↓j91, j115, ↓j120, ↓j124, j125, j127, j129, j130, j131, j132, ↓j145, ↓j146, ↓j147, ↓j149, ↓j150, ↓j153, j157, partsAV, AV.proj, AV.offOf, AV.size, AV.sizeL, AV.layable, AV.flat, AV.flatL, j163, j164, j166, j167, j170, j171, j172, j173, j174, j175, ↓reduceIte, Nat.reduceAdd, Nat.reduceEqDiff, j182, j185, j195, j196, j197, j211, kindOf, j214, j218, j219, j240, j253, j255, j258, j266, j282, j284, j285, j292, j293, j294, j295, j311, j312, j316, j319, j325, j328, j331, j334, j337, j440, j441, hi, hco, hcp, ht0, hs0, hdl, hun, hlv, e1]
              exact ret false _ _ _ (by rw [hM]; rfl) rfl
            · skip
              simp -dsimp -implicitDefEqProofs only [↓j0, ↓j1, ↓j2, ↓j7, ↓j10, ↓j12, ↓j13, ↓j14, ↓j15, j17, j18, j20, ↓j25, ↓j27, ↓j29, ↓j30, j32, j33, j34, ↓j38, ↓j39, ↓j40, ↓j43, ↓j45, ↓j48, ↓j54, ↓j76, ↓j79, j83, ↓j89, ↓j91, j115, ↓j120, ↓j124, j125, j127, j129, j130, j131, j132, ↓j145, ↓j146, ↓j147, ↓j149, ↓j150, ↓j153, j157, partsAV, AV.proj, AV.offOf, AV.size, AV.sizeL, AV.layable, AV.flat, AV.flatL, j163, j164, j166, j167, j170, j171, j172, j173, j174, j175, ↓reduceIte, Nat.reduceAdd, Nat.reduceEqDiff, j182, j185, j195, j196, j197, j211, kindOf, j214, j218, j219, j240, j253, j255, j258, j266, j282, j284, j285, j292, j293, j294, j295, j311, j312, j316, j319, j325, j328, j331, j334, j337, j440, j441, hi, hco, hcp, ht0, hs0, hdl, hun, hlv, e1]
              exact ret true _ _ _ (by rw [hM]; rfl) rfl
  have e1 : ((r.kind : Int) == 1) = false := by rw [beq_eq_false_iff_ne]; omega
  by_cases k2 : r.kind = 2
  · have e2 : ((r.kind : Int) == 2) = true := by rw [beq_iff_eq]; omega
    rw [if_neg k1, if_pos k2] at hM
    cases t0
    · skip
      cases un
      · skip
        cases im
        · skip
          simp -dsimp -implicitDefEqProofs only [↓j0, ↓j1, ↓j2, ↓j7, ↓j10, ↓j12, ↓j13, ↓j14, ↓j15, j17, j18, j20, ↓j25, ↓j27, ↓j29, ↓j30, j32, j33, ↓j38, ↓j39, ↓j40, ↓j43, ↓j45, ↓j48, ↓j54, ↓j55, ↓j76, ↓j79, j82, j83, j84, ↓j89, ↓j91, ↓j124, j125, j127, j129, j130, j131, ↓j145, ↓j146, ↓j147, ↓j148, ↓j149, ↓j150, ↓j153, j157, partsAV, AV.proj, AV.offOf, AV.size, AV.sizeL, AV.layable, AV.flat, AV.flatL, j163, j164, j166, j167, j170, j171, j172, j173, j174, j175, ↓reduceIte, Nat.reduceAdd, Nat.reduceEqDiff, j182, j185, j194, j195, j196, j197, j211, kindOf, j214, j218, j219, j240, j253, j255, j266, j282, j294, j295, j311, j312, j316, j319, j325, j337, j441, hi, hco, ht0, hun, hlv, e1, e2]
          exact ret false _ _ _ (by rw [hM]; rfl) rfl
        · skip
          cases s0
          · skip
            simp -dsimp -implicitDefEqProofs only [↓j0, ↓j1, ↓j2, ↓j7, ↓j10, ↓j12, ↓j13, ↓j14, ↓j15, j17, j18, j20, ↓j25, ↓j27, ↓j29, ↓j30, j32, j33, ↓j38, ↓j39, ↓j40, ↓j43, ↓j45, ↓j48, ↓j54, ↓j55, ↓j76, ↓j79, j82, j83, j84, ↓j89, ↓j91, ↓j124, j125, j127, j129, j130, j131, ↓j145, ↓j146, ↓j147, ↓j148, ↓j149, ↓j150, ↓j153, j157, partsAV, AV.proj, AV.offOf, AV.size, AV.sizeL, AV.layable, AV.flat, AV.flatL, j163, j164, j166, j167, j170, j171, j172, j173, j174, j175, ↓reduceIte, Nat.reduceAdd, Nat.reduceEqDiff, j182, j185, j194, j195, j196, j197, j211, kindOf, j214, j218, j219, j240, j253, j255, j266, j282, j294, j295, j311, j312, j316, j319, j325, j334, j337, j441, hi, hco, ht0, hs0, hun, hlv, e1, e2]
            exact ret false _ _ _ (by rw [hM]; rfl) rfl
          · skip
            cases od
            · skip
              simp -dsimp -implicitDefEqProofs only [↓j0, ↓j1, ↓j2, ↓j7, ↓j10, ↓j12, ↓j13, ↓j14, ↓j15, j17, j18, j20, ↓j25, ↓j27, ↓j29, ↓j30, j32, j33, ↓j38, ↓j39, ↓j40, ↓j43, ↓j45, ↓j48, ↓j54, ↓j55, ↓j76, ↓j79, j82, j83, j84, ↓j89, ↓j91, ↓j124, j125, j127, j129, j130, j131, ↓j145, ↓j146, ↓j147, ↓j148, ↓j149, ↓j150, ↓j153, j157, partsAV, AV.proj, AV.offOf, AV.size, AV.sizeL, AV.layable, AV.flat, AV.flatL, j163, j164, j166, j167, j170, j171, j172, j173, j174, j175, ↓reduceIte, Nat.reduceAdd, Nat.reduceEqDiff, j182, j185, j194, j195, j196, j197, j211, kindOf, j214, j218, j219, j240, j253, j255, j266, j282, j294, j295, j311, j312, j316, j319, j325, j334, j337, j441, hi, hco, ht0, hs0, hun, hlv, e1, e2]
              exact ret false _ _ _ (by rw [hM]; rfl) rfl
            · skip
              cases b1
              · skip
                simp -dsimp -implicitDefEqProofs only [↓j0, ↓j1, ↓j2, ↓j7, ↓j10, ↓j12, ↓j13, ↓j14, ↓j15, j17, j18, j20, ↓j25, ↓j27, ↓j29, ↓j30, j32, j33, ↓j38, ↓j39, ↓j40, ↓j43, ↓j45, ↓j48, ↓j54, ↓j55, ↓j58, ↓j59, ↓j76, ↓j79, j82, j83, j84, ↓j89, ↓j91, ↓j124, j125, j127, j129, j130, j131, j132, j141, ↓j145, ↓j146, ↓j147, ↓j148, ↓j149, ↓j150, ↓j153, j157, j160, partsAV, AV.proj, AV.offOf, AV.size, AV.sizeL, AV.layable, AV.flat, AV.flatL, j163, j164, j166, j167, j170, j171, j172, j173, j174, j175, ↓reduceIte, Nat.reduceAdd, Nat.reduceEqDiff, j182, j185, j194, j195, j196, j197, j211, kindOf, j214, j218, j219, j240, j253, j255, j258, j259, j266, j282, j294, j295, j311, j312, j316, j319, j325, j331, j334, j337, j441, hi, hco, d1, ht0, hs0, hun, hlv, str_bytes, e1, e2]
                exact ret false _ _ _ (by rw [hM]; rfl) rfl
              · skip
                simp -dsimp -implicitDefEqProofs only [↓j0, ↓j1, ↓j2, ↓j7, ↓j10, ↓j12, ↓j13, ↓j14, ↓j15, j17, j18, j20, ↓j25, ↓j27, ↓j29, ↓j30, j32, j33, ↓j38, ↓j39, ↓j40, ↓j43, ↓j45, ↓j48, ↓j54, ↓j55, ↓j58, ↓j59, ↓j76, ↓j79, j82, j83, j84, ↓j89, ↓j91, ↓j124, j125, j127, j129, j130, j131, j132, j141, ↓j145, ↓j146, ↓j147, ↓j148, ↓j149, ↓j150, ↓j153, j157, j160, partsAV, AV.proj, AV.offOf, AV.size, AV.sizeL, AV.layable, AV.flat, AV.flatL, j163, j164, j166, j167, j170, j171, j172, j173, j174, j175, ↓reduceIte, Nat.reduceAdd, Nat.reduceEqDiff, j182, j185, j194, j195, j196, j197, j211, kindOf, j214, j218, j219, j240, j253, j255, j258, j259, j266, j282, j294, j295, j311, j312, j316, j319, j325, j331, j334, j337, j441, hi, hco, d1, ht0, hs0, hun, hlv, str_bytes, e1, e2]
                exact ret true _ _ _ (by rw [hM]; rfl) rfl
      · skip
        simp -dsimp -implicitDefEqProofs only [↓j0, ↓j1, ↓j2, ↓j7, ↓j10, ↓j12, ↓j13, ↓j14, ↓j15, j17, j18, j20, ↓j25, ↓j27, ↓j29, ↓j30, j32, j33, ↓j38, ↓j39, ↓j40, ↓j43, ↓j45, ↓j48, ↓j54, ↓j55, ↓j76, ↓j79, j82, j84, ↓j89, ↓j91, ↓j124, j125, j127, j129, j130, j131, ↓j145, ↓j146, ↓j147, ↓j148, ↓j149, ↓j150, ↓j153, j157, partsAV, AV.proj, AV.offOf, AV.size, AV.sizeL, AV.layable, AV.flat, AV.flatL, j163, j164, j166, j167, j170, j171, j172, j173, j174, j175, ↓reduceIte, Nat.reduceAdd, Nat.reduceEqDiff, j182, j185, j193, j195, j196, j197, j211, kindOf, j214, j218, j219, j240, j253, j255, j266, j282, j294, j295, j311, j312, j316, j319, j325, j337, j441, hi, hco, ht0, hun, hlv, e1, e2]
        exact ret false _ _ _ (by rw [hM]; rfl) rfl
    · skip
      cases pv
      · skip
        cases un
        · skip
          cases im
          · skip
            simp -dsimp -implicitDefEqProofs only [↓j0, ↓j1, ↓j2, ↓j7, ↓j10, ↓j12, ↓j13, ↓j14, ↓j15, j17, j18, j20, ↓j25, ↓j27, ↓j29, ↓j30, j32, j33, ↓j38, ↓j39, ↓j40, ↓j43, ↓j45, ↓j48, ↓j54, ↓j55, ↓j76, ↓j79, j82, j83, j84, ↓j89, ↓j91, ↓j124, j125, j127, j129, j130, j131, ↓j145, ↓j146, ↓j147, ↓j148, ↓j149, ↓j150, ↓j153, j157, partsAV, AV.proj, AV.offOf, AV.size, AV.sizeL, AV.layable, AV.flat, AV.flatL, j163, j164, j166, j167, j170, j171, j172, j173, j174, j175, ↓reduceIte, Nat.reduceAdd, Nat.reduceEqDiff, j182, j185, j194, j195, j196, j197, j211, kindOf, j214, j218, j219, j240, j253, j255, j266, j282, j284, j285, j292, j293, j294, j295, j311, j312, j316, j319, j325, j328, j337, j440, j441, hi, hco, hcp, ht0, hun, hlv, e1, e2]
            exact ret false _ _ _ (by rw [hM]; rfl) rfl
          · skip
            cases s0
            · skip
              simp -dsimp -implicitDefEqProofs only [↓j0, ↓j1, ↓j2, ↓j7, ↓j10, ↓j12, ↓j13, ↓j14, ↓j15, j17, j18, j20, ↓j25, ↓j27, ↓j29, ↓j30, j32, j33, ↓j38, ↓j39, ↓j40, ↓j43, ↓j45, ↓j48, ↓j54, ↓j55, ↓j76, ↓j79, j82, j83, j84, ↓j89, ↓j91, ↓j124, j125, j127, j129, j130, j131, ↓j145, ↓j146, ↓j147, ↓j148, ↓j149, ↓j150, ↓j153, j157, partsAV, AV.proj, AV.offOf, AV.size, AV.sizeL, AV.layable, AV.flat, AV.flatL, j163, j164, j166, j167, j170, j171, j172, j173, j174, j175, ↓reduceIte, Nat.reduceAdd, Nat.reduceEqDiff, j182, j185, j194, j195, j196, j197, j211, kindOf, j214, j218, j219, j240, j253, j255, j266, j282, j284, j285, j292, j293, j294, j295, j311, j312, j316, j319, j325, j328, j334, j337, j440, j441, hi, hco, hcp, ht0, hs0, hun, hlv, e1, e2]
              exact ret false _ _ _ (by rw [hM]; rfl) rfl
            · skip
              cases od
              · skip
                simp -dsimp -implicitDefEqProofs only [↓j0, ↓j1, ↓j2, ↓j7, ↓j10, ↓j12, ↓j13, ↓j14, ↓j15, j17, j18, j20, ↓j25, ↓j27, ↓j29, ↓j30, j32, j33, ↓j38, ↓j39, ↓j40, ↓j43, ↓j45, ↓j48, ↓j54, ↓j55, ↓j76, ↓j79, j82, j83, j84, ↓j89, ↓j91, ↓j124, j125, j127, j129, j130, j131, ↓j145, ↓j146, ↓j147, ↓j148, ↓j149, ↓j150, ↓j153, j157, partsAV, AV.proj, AV.offOf, AV.size, AV.sizeL, AV.layable, AV.flat, AV.flatL, j163, j164, j166, j167, j170, j171, j172, j173, j174, j175, ↓reduceIte, Nat.reduceAdd, Nat.reduceEqDiff, j182, j185, j194, j195, j196, j197, j211, kindOf, j214, j218, j219, j240, j253, j255, j266, j282, j284, j285, j292, j293, j294, j295, j311, j312, j316, j319, j325, j328, j334, j337, j440, j441, hi, hco, hcp, ht0, hs0, hun, hlv, e1, e2]
                exact ret false _ _ _ (by rw [hM]; rfl) rfl
              · skip
                cases b1
                · skip
                  simp -dsimp -implicitDefEqProofs only [↓j0, ↓j1, ↓j2, ↓j7, ↓j10, ↓j12, ↓j13, ↓j14, ↓j15, j17, j18, j20, ↓j25, ↓j27, ↓j29, ↓j30, j32, j33, ↓j38, ↓j39, ↓j40, ↓j43, ↓j45, ↓j48, ↓j54, ↓j55, ↓j58, ↓j59, ↓j76, ↓j79, j82, j83, j84, ↓j89, ↓j91, ↓j124, j125, j127, j129, j130, j131, j132, j141, ↓j145, ↓j146, ↓j147, ↓j148, ↓j149, ↓j150, ↓j153, j157, j160, partsAV, AV.proj, AV.offOf, AV.size, AV.sizeL, AV.layable, AV.flat, AV.flatL, j163, j164, j166, j167, j170, j171, j172, j173, j174, j175, ↓reduceIte, Nat.reduceAdd, Nat.reduceEqDiff, j182, j185, j194, j195, j196, j197, j211, kindOf, j214, j218, j219, j240, j253, j255, j258, j259, j266, j282, j284, j285, j292, j293, j294, j295, j311, j312, j316, j319, j325, j328, j331, j334, j337, j440, j441, hi, hco, hcp, d1, ht0, hs0, hun, hlv, str_bytes, e1, e2]
                  exact ret false _ _ _ (by rw [hM]; rfl) rfl
                · skip
                  simp -dsimp -implicitDefEqProofs only [↓j0, ↓j1, ↓j2, ↓j7, ↓j10, ↓j12, ↓j13, ↓j14, ↓j15, j17, j18, j20, ↓j25, ↓j27, ↓j29, ↓j30, j32, j33, ↓j38, ↓j39, ↓j40, ↓j43, ↓j45, ↓j48, ↓j54, ↓j55, ↓j58, ↓j59, ↓j76, ↓j79, j82, j83, j84, ↓j89, ↓j91, ↓j124, j125, j127, j129, j130, j131, j132, j141, ↓j145, ↓j146, ↓j147, ↓j148, ↓j149, ↓j150, ↓j153, j157, j160, partsAV, AV.proj, AV.offOf, AV.size, AV.sizeL, AV.layable, AV.flat, AV.flatL, j163, j164, j166, j167, j170, j171, j172, j173, j174, j175, ↓reduceIte, Nat.reduceAdd, Nat.reduceEqDiff, j182, j185, j194, j195, j196, j197, j211, kindOf, j214, j218, j219, j240, j253, j255, j258, j259, j266, j282, j284, j285, j292, j293, j294, j295, j311, j312, j316, j319, j325, j328, j331, j334, j337, j440, j441, hi, hco, hcp, d1, ht0, hs0, hun, hlv, str_bytes, e1, e2]
                  exact ret true _ _ _ (by rw [hM]; rfl) rfl
        · skip
          simp -dsimp -implicitDefEqProofs only [↓j0, ↓j1, ↓j2, ↓j7, ↓j10, ↓j12, ↓j13, ↓j14, ↓j15, j17, j18, j20, ↓j25, ↓j27, ↓j29, ↓j30, j32, j33, ↓j38, ↓j39, ↓j40, ↓j43, ↓j45, ↓j48, ↓j54, ↓j55, ↓j76, ↓j79, j82, j83, j84, ↓j89, ↓j91, ↓j124, j125, j127, j129, j130, j131, ↓j145, ↓j146, ↓j147, ↓j148, ↓j149, ↓j150, ↓j153, j157, partsAV, AV.proj, AV.offOf, AV.size, AV.sizeL, AV.layable, AV.flat, AV.flatL, j163, j164, j166, j167, j170, j171, j172, j173, j174, j175, ↓reduceIte, Nat.reduceAdd, Nat.reduceEqDiff, j182, j185, j193, j195, j196, j197, j211, kindOf, j214, j218, j219, j240, j253, j255, j266, j282, j284, j285, j292, j293, j294, j295, j311, j312, j316, j319, j325, j328, j337, j440, j441, hi, hco, hcp, ht0, hun, hlv, e1, e2]
          exact ret false _ _ _ (by rw [hM]; rfl) rfl
      · skip
        cases dl
        · skip
          cases un
          · skip
            cases im
            · skip
              simp -dsimp -implicitDefEqProofs only [↓j0, ↓j1, ↓j2, ↓j7, ↓j10, ↓j12, ↓j13, ↓j14, ↓j15, j17, j18, j20, ↓j25, ↓j27, ↓j29, ↓j30, j32, j33, j34, ↓j38, ↓j39, ↓j40, ↓j43, ↓j45, ↓j48, ↓j54, ↓j55, ↓j76, ↓j79, j82, j83, j84, ↓j89, ↓j91, j115, ↓j120, ↓j124, j125, j127, j129, j130, j131, j132, ↓j145, ↓j146, ↓j147, ↓j148, ↓j149, ↓j150, ↓j153, j157, partsAV, AV.proj, AV.offOf, AV.size, AV.sizeL, AV.layable, AV.flat, AV.flatL, j163, j164, j166, j167, j170, j171, j172, j173, j174, j175, ↓reduceIte, Nat.reduceAdd, Nat.reduceEqDiff, j182, j185, j194, j195, j196, j197, j211, kindOf, j214, j218, j219, j240, j253, j255, j258, j266, j282, j284, j285, j292, j293, j294, j295, j311, j312, j316, j319, j325, j328, j331, j337, j440, j441, hi, hco, hcp, ht0, hdl, hun, hlv, e1, e2]
              exact ret false _ _ _ (by rw [hM]; rfl) rfl
            · skip
              cases s0
              · skip
                simp -dsimp -implicitDefEqProofs only [↓j0, ↓j1, ↓j2, ↓j7, ↓j10, ↓j12, ↓j13, ↓j14, ↓j15, j17, j18, j20, ↓j25, ↓j27, ↓j29, ↓j30, j32, j33, j34, ↓j38, ↓j39, ↓j40, ↓j43, ↓j45, ↓j48, ↓j54, ↓j55, ↓j76, ↓j79, j82, j83, j84, ↓j89, ↓j91, j115, ↓j120, ↓j124, j125, j127, j129, j130, j131, j132, ↓j145, ↓j146, ↓j147, ↓j148, ↓j149, ↓j150, ↓j153, j157, partsAV, AV.proj, AV.offOf, AV.size, AV.sizeL, AV.layable, AV.flat, AV.flatL, j163, j164, j166, j167, j170, j171, j172, j173, j174, j175, ↓reduceIte, Nat.reduceAdd, Nat.reduceEqDiff, j182, j185, j194, j195, j196, j197, j211, kindOf, j214, j218, j219, j240, j253, j255, j258, j266, j282, j284, j285, j292, j293, j294, j295, j311, j312, j316, j319, j325, j328, j331, j334, j337, j440, j441, hi, hco, hcp, ht0, hs0, hdl, hun, hlv, e1, e2]
                exact ret false _ _ _ (by rw [hM]; rfl) rfl
              · skip
                cases od
                · skip
                  simp -dsimp -implicitDefEqProofs only [↓j0, ↓j1, ↓j2, ↓j7, ↓j10, ↓j12, ↓j13, ↓j14, ↓j15, j17, j18, j20, ↓j25, ↓j27, ↓j29, ↓j30, j32, j33, j34, ↓j38, ↓j39, ↓j40, ↓j43, ↓j45, ↓j48, ↓j54, ↓j55, ↓j76, ↓j79, j82, j83, j84, ↓j89, ↓j91, j115, ↓j120, ↓j124, j125, j127, j129, j130, j131, j132, ↓j145, ↓j146, ↓j147, ↓j148, ↓j149, ↓j150, ↓j153, j157, partsAV, AV.proj, AV.offOf, AV.size, AV.sizeL, AV.layable, AV.flat, AV.flatL, j163, j164, j166, j167, j170, j171, j172, j173, j174, j175, ↓reduceIte, Nat.reduceAdd, Nat.reduceEqDiff, j182, j185, j194, j195, j196, j197, j211, kindOf, j214, j218, j219, j240, j253, j255, j258, j266, j282, j284, j285, j292, j293, j294, j295, j311, j312, j316, j319, j325, j328, j331, j334, j337, j440, j441, hi, hco, hcp, ht0, hs0, hdl, hun, hlv, e1, e2]
                  exact ret false _ _ _ (by rw [hM]; rfl) rfl
                · skip
                  cases b1
                  · skip
                    simp -dsimp -implicitDefEqProofs only [↓j0, ↓j1, ↓j2, ↓j7, ↓j10, ↓j12, ↓j13, ↓j14, ↓j15, j17, j18, j20, ↓j25, ↓j27, ↓j29, ↓j30, j32, j33, j34, ↓j38, ↓j39, ↓j40, ↓j43, ↓j45, ↓j48, ↓j54, ↓j55, ↓j58, ↓j59, ↓j76, ↓j79, j83, j84, ↓j89, ↓j91, j115, ↓j120, ↓j124, j125, j127, j129, j130, j131, j132, j141, ↓j145, ↓j146, ↓j147, ↓j148, ↓j149, ↓j150, ↓j153, j157, j160, partsAV, AV.proj, AV.offOf, AV.size, AV.sizeL, AV.layable, AV.flat, AV.flatL, j163, j164, j166, j167, j170, j171, j172, j173, j174, j175, ↓reduceIte, Nat.reduceAdd, Nat.reduceEqDiff, j182, j185, j194, j195, j196, j197, j211, kindOf, j214, j218, j219, j240, j253, j255, j258, j259, j266, j282, j284, j285, j292, j293, j294, j295, j311, j312, j316, j319, j325, j328, j331, j334, j337, j440, j441, hi, hco, hcp, d1, ht0, hs0, hdl, hun, hlv, str_bytes, e1, e2]
                    exact ret false _ _ _ (by rw [hM]; rfl) rfl
                  · skip
                    simp -dsimp -implicitDefEqProofs only [↓j0, ↓j1, ↓j2, ↓j7, ↓j10, ↓j12, ↓j13, ↓j14, ↓j15, j17, j18, j20, ↓j25, ↓j27, ↓j29, ↓j30, j32, j33, j34, ↓j38, ↓j39, ↓j40, ↓j43, ↓j45, ↓j48, ↓j54, ↓j55, ↓j58, ↓j59, ↓j76, ↓j79, j83, j84, ↓j89, ↓j91, j115, ↓j120, ↓j124, j125, j127, j129, j130, j131, j132, j141, ↓j145, ↓j146, ↓j147, ↓j148, ↓j149, ↓j150, ↓j153, j157, j160, partsAV, AV.proj, AV.offOf, AV.size, AV.sizeL, AV.layable, AV.flat, AV.flatL, j163, j164, j166, j167, j170, j171, j172, j173, j174, j175, ↓reduceIte, Nat.reduceAdd, Nat.reduceEqDiff, j182, j185, j194, j195, j196, j197, j211, kindOf, j214, j218, j219, j240, j253, j255, j258, j259, j266, j282, j284, j285, j292, j293, j294, j295, j311, j312, j316, j319, j325, j328, j331, j334, j337, j440, j441, hi, hco, hcp, d1, ht0, hs0, hdl, hun, hlv, str_bytes, e1, e2]
                    exact ret true _ _ _ (by rw [hM]; rfl) rfl
          · skip
            simp -dsimp -implicitDefEqProofs only [↓j0, ↓j1, ↓j2, ↓j7, ↓j10, ↓j12, ↓j13, ↓j14, ↓j15, j17, j18, j20, ↓j25, ↓j27, ↓j29, ↓j30, j32, j33, j34, ↓j38, ↓j39, ↓j40, ↓j43, ↓j45, ↓j48, ↓j54, ↓j55, ↓j76, ↓j79, j82, j83, j84, ↓j89, ↓j91, j115, ↓j120, ↓j124, j125, j127, j129, j130, j131, j132, ↓j145, ↓j146, ↓j147, ↓j148, ↓j149, ↓j150, ↓j153, j157, partsAV, AV.proj, AV.offOf, AV.size, AV.sizeL, AV.layable, AV.flat, AV.flatL, j163, j164, j166, j167, j170, j171, j172, j173, j174, j175, ↓reduceIte, Nat.reduceAdd, Nat.reduceEqDiff, j182, j185, j193, j195, j196, j197, j211, kindOf, j214, j218, j219, j240, j253, j255, j258, j266, j282, j284, j285, j292, j293, j294, j295, j311, j312, j316, j319, j325, j328, j331, j337, j440, j441, hi, hco, hcp, ht0, hdl, hun, hlv, e1, e2]
            exact ret false _ _ _ (by rw [hM]; rfl) rfl
        · skip
          cases un
          · skip
            cases im
            · skip
              simp -dsimp -implicitDefEqProofs only [↓j0, ↓j1, ↓j2, ↓j7, ↓j10, ↓j12, ↓j13, ↓j14, ↓j15, j17, j18, j20, ↓j25, ↓j27, ↓j29, ↓j30, j32, j33, j34, ↓j38, ↓j39, ↓j40, ↓j43, ↓j45, ↓j48, ↓j54, ↓j55, ↓j76, ↓j79, j82, j83, j84, ↓j89, ↓j91, j115, ↓j120, ↓j124, j125, j127, j129, j130, j131, j132, ↓j145, ↓j146, ↓j147, ↓j148, ↓j149, ↓j150, ↓j153, j157, partsAV, AV.proj, AV.offOf, AV.size, AV.sizeL, AV.layable, AV.flat, AV.flatL, j163, j164, j166, j167, j170, j171, j172, j173, j174, j175, ↓reduceIte, Nat.reduceAdd, Nat.reduceEqDiff, j182, j185, j194, j195, j196, j197, j211, kindOf, j214, j218, j219, j240, j253, j255, j258, j266, j282, j284, j285, j292, j293, j294, j295, j311, j312, j316, j319, j325, j328, j331, j337, j440, j441, hi, hco, hcp, ht0, hdl, hun, hlv, e1, e2]
              exact ret false _ _ _ (by rw [hM]; rfl) rfl
            · skip
              cases s0
              · skip
                simp -dsimp -implicitDefEqProofs only [↓j0, ↓j1, ↓j2, ↓j7, ↓j10, ↓j12, ↓j13, ↓j14, ↓j15, j17, j18, j20, ↓j25, ↓j27, ↓j29, ↓j30, j32, j33, j34, ↓j38, ↓j39, ↓j40, ↓j43, ↓j45, ↓j48, ↓j54, ↓j55, ↓j76, ↓j79, j82, j83, j84, ↓j89, ↓j91, j115, ↓j120, ↓j124, j125, j127, j129, j130, j131, j132, ↓j145, ↓j146, ↓j147, ↓j148, ↓j149, ↓j150, ↓j153, j157, partsAV, AV.proj, AV.offOf, AV.size, AV.sizeL, AV.layable, AV.flat, AV.flatL, j163, j164, j166, j167, j170, j171, j172, j173, j174, j175, ↓reduceIte, Nat.reduceAdd, Nat.reduceEqDiff, j182, j185, j194, j195, j196, j197, j211, kindOf, j214, j218, j219, j240, j253, j255, j258, j266, j282, j284, j285, j292, j293, j294, j295, j311, j312, j316, j319, j325, j328, j331, j334, j337, j440, j441, hi, hco, hcp, ht0, hs0, hdl, hun, hlv, e1, e2]
                exact ret false _ _ _ (by rw [hM]; rfl) rfl
              · skip
                cases od
                · skip
                  simp -dsimp -implicitDefEqProofs only [↓j0, ↓j1, ↓j2, ↓j7, ↓j10, ↓j12, ↓j13, ↓j14, ↓j15, j17, j18, j20, ↓j25, ↓j27, ↓j29, ↓j30, j32, j33, j34, ↓j38, ↓j39, ↓j40, ↓j43, ↓j45, ↓j48, ↓j54, ↓j55, ↓j76, ↓j79, j82, j83, j84, ↓j89, ↓j91, j115, ↓j120, ↓j124, j125, j127, j129, j130, j131, j132, ↓j145, ↓j146, ↓j147, ↓j148, ↓j149, ↓j150, ↓j153, j157, partsAV, AV.proj, AV.offOf, AV.size, AV.sizeL, AV.layable, AV.flat, AV.flatL, j163, j164, j166, j167, j170, j171, j172, j173, j174, j175, ↓reduceIte, Nat.reduceAdd, Nat.reduceEqDiff, j182, j185, j194, j195, j196, j197, j211, kindOf, j214, j218, j219, j240, j253, j255, j258, j266, j282, j284, j285, j292, j293, j294, j295, j311, j312, j316, j319, j325, j328, j331, j334, j337, j440, j441, hi, hco, hcp, ht0, hs0, hdl, hun, hlv, e1, e2]
                  exact ret false _ _ _ (by rw [hM]; rfl) rfl
                · skip
                  cases b1
                  · skip
                    simp -dsimp -implicitDefEqProofs only [↓j0, ↓j1, ↓j2, ↓j7, ↓j10, ↓j12, ↓j13, ↓j14, ↓j15, j17, j18, j20, ↓j25, ↓j27, ↓j29, ↓j30, j32, j33, j34, ↓j38, ↓j39, ↓j40, ↓j43, ↓j45, ↓j48, ↓j54, ↓j55, ↓j58, ↓j59, ↓j76, ↓j79, j83, j84, ↓j89, ↓j91, j115, ↓j120, ↓j124, j125, j127, j129, j130, j131, j132, j141, ↓j145, ↓j146, ↓j147, ↓j148, ↓j149, ↓j150, ↓j153, j157, j160, partsAV, AV.proj, AV.offOf, AV.size, AV.sizeL, AV.layable, AV.flat, AV.flatL, j163, j164, j166, j167, j170, j171, j172, j173, j174, j175, ↓reduceIte, Nat.reduceAdd, Nat.reduceEqDiff, j182, j185, j194, j195, j196, j197, j211, kindOf, j214, j218, j219, j240, j253, j255, j258, j259, j266, j282, j284, j285, j292, j293, j294, j295, j311, j312, j316, j319, j325, j328, j331, j334, j337, j440, j441, hi, hco, hcp, d1, ht0, hs0, hdl, hun, hlv, str_bytes, e1, e2]
                    exact ret false _ _ _ (by rw [hM]; rfl) rfl
                  · skip
                    simp -dsimp -implicitDefEqProofs only [↓j0, ↓j1, ↓j2, ↓j7, ↓j10, ↓j12, ↓j13, ↓j14, ↓j15, j17, j18, j20, ↓j25, ↓j27, ↓j29, ↓j30, j32, j33, j34, ↓j38, ↓j39, ↓j40, ↓j43, ↓j45, ↓j48, ↓j54, ↓j55, ↓j58, ↓j59, ↓j76, ↓j79, j83, j84, ↓j89, ↓j91, j115, ↓j120, ↓j124, j125, j127, j129, j130, j131, j132, j141, ↓j145, ↓j146, ↓j147, ↓j148, ↓j149, ↓j150, ↓j153, j157, j160, partsAV, AV.proj, AV.offOf, AV.size, AV.sizeL, AV.layable, AV.flat, AV.flatL, j163, j164, j166, j167, j170, j171, j172, j173, j174, j175, ↓reduceIte, Nat.reduceAdd, Nat.reduceEqDiff, j182, j185, j194, j195, j196, j197, j211, kindOf, j214, j218, j219, j240, j253, j255, j258, j259, j266, j282, j284, j285, j292, j293, j294, j295, j311, j312, j316, j319, j325, j328, j331, j334, j337, j440, j441, hi, hco, hcp, d1, ht0, hs0, hdl, hun, hlv, str_bytes, e1, e2]
                    exact ret true _ _ _ (by rw [hM]; rfl) rfl
          · skip
            simp -dsimp -implicitDefEqProofs only [↓j0, ↓j1, ↓j2, ↓j7, ↓j10, ↓j12, ↓j13, ↓j14, ↓j15, j17, j18, j20, ↓j25, ↓j27, ↓j29, ↓j30, j32, j33, j34, ↓j38, ↓j39, ↓j40, ↓j43, ↓j45, ↓j48, ↓j54, ↓j55, ↓j76, ↓j79, j82, j83, j84, ↓j89, ↓j91, j115, ↓j120, ↓j124, j125, j127, j129, j130, j131, j132, ↓j145, ↓j146, ↓j147, ↓j148, ↓j149, ↓j150, ↓j153, j157, partsAV, AV.proj, AV.offOf, AV.size, AV.sizeL, AV.layable, AV.flat, AV.flatL, j163, j164, j166, j167, j170, j171, j172, j173, j174, j175, ↓reduceIte, Nat.reduceAdd, Nat.reduceEqDiff, j182, j185, j193, j195, j196, j197, j211, kindOf, j214, j218, j219, j240, j253, j255, j258, j266, j282, j284, j285, j292, j293, j294, j295, j311, j312, j316, j319, j325, j328, j331, j337, j440, j441, hi, hco, hcp, ht0, hdl, hun, hlv, e1, e2]
            exact ret false _ _ _ (by rw [hM]; rfl) rfl
  have e2 : ((r.kind : Int) == 2) = false := by rw [beq_eq_false_iff_ne]; omega
  by_cases k3 : r.kind = 3
  · have e3 : ((r.kind : Int) == 3) = true := by rw [beq_iff_eq]; omega
    rw [if_neg k1, if_neg k2, if_pos k3] at hM
    cases t0
    · skip
      cases un
      · skip
        simp -dsimp -implicitDefEqProofs only [↓j0, ↓j1, ↓j2, ↓j7, ↓j10, ↓j12, ↓j13, ↓j14, ↓j15, j17, j18, j20, ↓j25, ↓j27, ↓j29, ↓j30, j32, j33, ↓j38, ↓j39, ↓j40, ↓j43, ↓j45, ↓j48, ↓j54, ↓j76, ↓j79, j82, ↓j89, ↓j91, ↓j124, j125, j127, j129, j130, j131, ↓j145, ↓j146, ↓j147, ↓j148, ↓j149, ↓j150, ↓j153, j157, partsAV, AV.proj, AV.offOf, AV.size, AV.sizeL, AV.layable, AV.flat, AV.flatL, j163, j164, j166, j167, j170, j171, j172, j173, j174, j175, ↓reduceIte, Nat.reduceAdd, Nat.reduceEqDiff, j182, j185, j195, j196, j197, j211, kindOf, j214, j218, j219, j240, j253, j255, j266, j282, j294, j295, j311, j312, j316, j319, j325, j337, j441, hi, hco, ht0, hun, hlv, e1, e2, e3]
        exact ret false _ _ _ (by rw [hM]; rfl) rfl
      · skip
        cases im
        · skip
          simp -dsimp -implicitDefEqProofs only [↓j0, ↓j1, ↓j2, ↓j7, ↓j10, ↓j12, ↓j13, ↓j14, ↓j15, j17, j18, j20, ↓j25, ↓j27, ↓j29, ↓j30, j32, j33, ↓j38, ↓j39, ↓j40, ↓j43, ↓j45, ↓j48, ↓j54, ↓j76, ↓j79, j82, j83, ↓j89, ↓j91, ↓j124, j125, j127, j129, j130, j131, ↓j145, ↓j146, ↓j147, ↓j148, ↓j149, ↓j150, ↓j153, j157, partsAV, AV.proj, AV.offOf, AV.size, AV.sizeL, AV.layable, AV.flat, AV.flatL, j163, j164, j166, j167, j170, j171, j172, j173, j174, j175, ↓reduceIte, Nat.reduceAdd, Nat.reduceEqDiff, j182, j185, j195, j196, j197, j211, kindOf, j214, j218, j219, j240, j253, j255, j266, j282, j294, j295, j311, j312, j316, j319, j325, j337, j441, hi, hco, ht0, hun, hlv, e1, e2, e3]
          exact ret false _ _ _ (by rw [hM]; rfl) rfl
        · skip
          simp -dsimp -implicitDefEqProofs only [↓j0, ↓j1, ↓j2, ↓j7, ↓j10, ↓j12, ↓j13, ↓j14, ↓j15, j17, j18, j20, ↓j25, ↓j27, ↓j29, ↓j30, j32, j33, ↓j38, ↓j39, ↓j40, ↓j43, ↓j45, ↓j48, ↓j54, ↓j76, ↓j79, j82, j83, ↓j89, ↓j91, ↓j124, j125, j127, j129, j130, j131, ↓j145, ↓j146, ↓j147, ↓j148, ↓j149, ↓j150, ↓j153, j157, partsAV, AV.proj, AV.offOf, AV.size, AV.sizeL, AV.layable, AV.flat, AV.flatL, j163, j164, j166, j167, j170, j171, j172, j173, j174, j175, ↓reduceIte, Nat.reduceAdd, Nat.reduceEqDiff, j182, j185, j195, j196, j197, j211, kindOf, j214, j218, j219, j240, j253, j255, j266, j282, j294, j295, j311, j312, j316, j319, j325, j337, j441, hi, hco, ht0, hun, hlv, e1, e2, e3]
          exact ret false _ _ _ (by rw [hM]; rfl) rfl
    · skip
      cases pv
      · skip
        cases un
        · skip
          simp -dsimp -implicitDefEqProofs only [↓j0, ↓j1, ↓j2, ↓j7, ↓j10, ↓j12, ↓j13, ↓j14, ↓j15, j17, j18, j20, ↓j25, ↓j27, ↓j29, ↓j30, j32, j33, ↓j38, ↓j39, ↓j40, ↓j43, ↓j45, ↓j48, ↓j54, ↓j76, ↓j79, j82, j83, ↓j89, ↓j91, ↓j124, j125, j127, j129, j130, j131, ↓j145, ↓j146, ↓j147, ↓j148, ↓j149, ↓j150, ↓j153, j157, partsAV, AV.proj, AV.offOf, AV.size, AV.sizeL, AV.layable, AV.flat, AV.flatL, j163, j164, j166, j167, j170, j171, j172, j173, j174, j175, ↓reduceIte, Nat.reduceAdd, Nat.reduceEqDiff, j182, j185, j195, j196, j197, j211, kindOf, j214, j218, j219, j240, j253, j255, j266, j282, j284, j285, j292, j293, j294, j295, j311, j312, j316, j319, j325, j328, j337, j440, j441, hi, hco, hcp, ht0, hun, hlv, e1, e2, e3]
          exact ret false _ _ _ (by rw [hM]; rfl) rfl
        · skip
          cases im
          · skip
            simp -dsimp -implicitDefEqProofs only [↓j0, ↓j1, ↓j2, ↓j7, ↓j10, ↓j12, ↓j13, ↓j14, ↓j15, j17, j18, j20, ↓j25, ↓j27, ↓j29, ↓j30, j32, j33, ↓j38, ↓j39, ↓j40, ↓j43, ↓j45, ↓j48, ↓j54, ↓j76, ↓j79, j82, j83, ↓j89, ↓j91, ↓j124, j125, j127, j129, j130, j131, ↓j145, ↓j146, ↓j147, ↓j148, ↓j149, ↓j150, ↓j153, j157, partsAV, AV.proj, AV.offOf, AV.size, AV.sizeL, AV.layable, AV.flat, AV.flatL, j163, j164, j166, j167, j170, j171, j172, j173, j174, j175, ↓reduceIte, Nat.reduceAdd, Nat.reduceEqDiff, j182, j185, j195, j196, j197, j211, kindOf, j214, j218, j219, j240, j253, j255, j266, j282, j284, j285, j292, j293, j294, j295, j311, j312, j316, j319, j325, j328, j337, j440, j441, hi, hco, hcp, ht0, hun, hlv, e1, e2, e3]
            exact ret false _ _ _ (by rw [hM]; rfl) rfl
          · skip
            simp -dsimp -implicitDefEqProofs only [↓j0, ↓j1, ↓j2, ↓j7, ↓j10, ↓j12, ↓j13, ↓j14, ↓j15, j17, j18, j20, ↓j25, ↓j27, ↓j29, ↓j30, j32, j33, ↓j38, ↓j39, ↓j40, ↓j43, ↓j45, ↓j48, ↓j54, ↓j76, ↓j79, j82, j83, ↓j89, ↓j91, ↓j124, j125, j127, j129, j130, j131, ↓j145, ↓j146, ↓j147, ↓j148, ↓j149, ↓j150, ↓j153, j157, partsAV, AV.proj, AV.offOf, AV.size, AV.sizeL, AV.layable, AV.flat, AV.flatL, j163, j164, j166, j167, j170, j171, j172, j173, j174, j175, ↓reduceIte, Nat.reduceAdd, Nat.reduceEqDiff, j182, j185, j195, j196, j197, j211, kindOf, j214, j218, j219, j240, j253, j255, j266, j282, j284, j285, j292, j293, j294, j295, j311, j312, j316, j319, j325, j328, j337, j440, j441, hi, hco, hcp, ht0, hun, hlv, e1, e2, e3]
            exact ret false _ _ _ (by rw [hM]; rfl) rfl
      · skip
        cases dl
        · skip
          cases un
          · skip
            simp -dsimp -implicitDefEqProofs only [↓j0, ↓j1, ↓j2, ↓j7, ↓j10, ↓j12, ↓j13, ↓j14, ↓j15, j17, j18, j20, ↓j25, ↓j27, ↓j29, ↓j30, j32, j33, j34, ↓j38, ↓j39, ↓j40, ↓j43, ↓j45, ↓j48, ↓j54, ↓j76, ↓j79, j82, j83, ↓j89, ↓j91, j115, ↓j120, ↓j124, j125, j127, j129, j130, j131, j132, ↓j145, ↓j146, ↓j147, ↓j148, ↓j149, ↓j150, ↓j153, j157, partsAV, AV.proj, AV.offOf, AV.size, AV.sizeL, AV.layable, AV.flat, AV.flatL, j163, j164, j166, j167, j170, j171, j172, j173, j174, j175, ↓reduceIte, Nat.reduceAdd, Nat.reduceEqDiff, j182, j185, j195, j196, j197, j211, kindOf, j214, j218, j219, j240, j253, j255, j258, j266, j282, j284, j285, j292, j293, j294, j295, j311, j312, j316, j319, j325, j328, j331, j337, j440, j441, hi, hco, hcp, ht0, hdl, hun, hlv, e1, e2, e3]
            exact ret false _ _ _ (by rw [hM]; rfl) rfl
          · skip
            cases im
            · skip
              simp -dsimp -implicitDefEqProofs only [↓j0, ↓j1, ↓j2, ↓j7, ↓j10, ↓j12, ↓j13, ↓j14, ↓j15, j17, j18, j20, ↓j25, ↓j27, ↓j29, ↓j30, j32, j33, j34, ↓j38, ↓j39, ↓j40, ↓j43, ↓j45, ↓j48, ↓j54, ↓j76, ↓j79, j82, j83, ↓j89, ↓j91, j115, ↓j120, ↓j124, j125, j127, j129, j130, j131, j132, ↓j145, ↓j146, ↓j147, ↓j148, ↓j149, ↓j150, ↓j153, j157, partsAV, AV.proj, AV.offOf, AV.size, AV.sizeL, AV.layable, AV.flat, AV.flatL, j163, j164, j166, j167, j170, j171, j172, j173, j174, j175, ↓reduceIte, Nat.reduceAdd, Nat.reduceEqDiff, j182, j185, j195, j196, j197, j211, kindOf, j214, j218, j219, j240, j253, j255, j258, j266, j282, j284, j285, j292, j293, j294, j295, j311, j312, j316, j319, j325, j328, j331, j337, j440, j441, hi, hco, hcp, ht0, hdl, hun, hlv, e1, e2, e3]
              exact ret false _ _ _ (by rw [hM]; rfl) rfl
            · skip
              simp -dsimp -implicitDefEqProofs only [↓j0, ↓j1, ↓j2, ↓j7, ↓j10, ↓j12, ↓j13, ↓j14, ↓j15, j17, j18, j20, ↓j25, ↓j27, ↓j29, ↓j30, j32, j33, j34, ↓j38, ↓j39, ↓j40, ↓j43, ↓j45, ↓j48, ↓j54, ↓j76, ↓j79, j82, j83, ↓j89, ↓j91, j115, ↓j120, ↓j124, j125, j127, j129, j130, j131, j132, ↓j145, ↓j146, ↓j147, ↓j148, ↓j149, ↓j150, ↓j153, j157, partsAV, AV.proj, AV.offOf, AV.size, AV.sizeL, AV.layable, AV.flat, AV.flatL, j163, j164, j166, j167, j170, j171, j172, j173, j174, j175, ↓reduceIte, Nat.reduceAdd, Nat.reduceEqDiff, j182, j185, j195, j196, j197, j211, kindOf, j214, j218, j219, j240, j253, j255, j258, j266, j282, j284, j285, j292, j293, j294, j295, j311, j312, j316, j319, j325, j328, j331, j337, j440, j441, hi, hco, hcp, ht0, hdl, hun, hlv, e1, e2, e3]
              exact ret false _ _ _ (by rw [hM]; rfl) rfl
        · skip
          cases un
          · skip
            simp -dsimp -implicitDefEqProofs only [↓j0, ↓j1, ↓j2, ↓j7, ↓j10, ↓j12, ↓j13, ↓j14, ↓j15, j17, j18, j20, ↓j25, ↓j27, ↓j29, ↓j30, j32, j33, j34, ↓j38, ↓j39, ↓j40, ↓j43, ↓j45, ↓j48, ↓j54, ↓j76, ↓j79, j82, j83, ↓j89, ↓j91, j115, ↓j120, ↓j124, j125, j127, j129, j130, j131, j132, ↓j145, ↓j146, ↓j147, ↓j148, ↓j149, ↓j150, ↓j153, j157, partsAV, AV.proj, AV.offOf, AV.size, AV.sizeL, AV.layable, AV.flat, AV.flatL, j163, j164, j166, j167, j170, j171, j172, j173, j174, j175, ↓reduceIte, Nat.reduceAdd, Nat.reduceEqDiff, j182, j185, j195, j196, j197, j211, kindOf, j214, j218, j219, j240, j253, j255, j258, j266, j282, j284, j285, j292, j293, j294, j295, j311, j312, j316, j319, j325, j328, j331, j337, j440, j441, hi, hco, hcp, ht0, hdl, hun, hlv, e1, e2, e3]
            exact ret false _ _ _ (by rw [hM]; rfl) rfl
          · skip
            cases im
            · skip
              simp -dsimp -implicitDefEqProofs only [↓j0, ↓j1, ↓j2, ↓j7, ↓j10, ↓j12, ↓j13, ↓j14, ↓j15, j17, j18, j20, ↓j25, ↓j27, ↓j29, ↓j30, j32, j33, j34, ↓j38, ↓j39, ↓j40, ↓j43, ↓j45, ↓j48, ↓j54, ↓j76, ↓j79, j82, j83, ↓j89, ↓j91, j115, ↓j120, ↓j124, j125, j127, j129, j130, j131, j132, ↓j145, ↓j146, ↓j147, ↓j148, ↓j149, ↓j150, ↓j153, j157, partsAV, AV.proj, AV.offOf, AV.size, AV.sizeL, AV.layable, AV.flat, AV.flatL, j163, j164, j166, j167, j170, j171, j172, j173, j174, j175, ↓reduceIte, Nat.reduceAdd, Nat.reduceEqDiff, j182, j185, j195, j196, j197, j211, kindOf, j214, j218, j219, j240, j253, j255, j258, j266, j282, j284, j285, j292, j293, j294, j295, j311, j312, j316, j319, j325, j328, j331, j337, j440, j441, hi, hco, hcp, ht0, hdl, hun, hlv, e1, e2, e3]
              exact ret false _ _ _ (by rw [hM]; rfl) rfl
            · skip
              cases lv
              · skip
                simp -dsimp -implicitDefEqProofs only [↓j0, ↓j1, ↓j2, ↓j7, ↓j10, ↓j12, ↓j13, ↓j14, ↓j15, j17, j18, j20, ↓j25, ↓j27, ↓j29, ↓j30, j32, j33, j34, ↓j38, ↓j39, ↓j40, ↓j43, ↓j45, ↓j48, ↓j54, ↓j76, ↓j79, j82, j83, ↓j89, ↓j91, j115, ↓j120, ↓j124, j125, j127, j129, j130, j131, j132, ↓j145, ↓j146, ↓j147, ↓j148, ↓j149, ↓j150, ↓j153, j157, partsAV, AV.proj, AV.offOf, AV.size, AV.sizeL, AV.layable, AV.flat, AV.flatL, j163, j164, j166, j167, j170, j171, j172, j173, j174, j175, ↓reduceIte, Nat.reduceAdd, Nat.reduceEqDiff, j182, j185, j195, j196, j197, j211, kindOf, j214, j218, j219, j240, j253, j255, j258, j266, j282, j284, j285, j292, j293, j294, j295, j297, j311, j312, j316, j319, j325, j328, j331, j337, j440, j441, hi, hco, hcp, ht0, hdl, hun, hlv, e1, e2, e3]
                exact ret false _ _ _ (by rw [hM]; rfl) rfl
              · skip
                cases b2
                · skip
                  simp -dsimp -implicitDefEqProofs only [↓j0, ↓j1, ↓j2, ↓j7, ↓j10, ↓j12, ↓j13, ↓j14, ↓j15, j17, j18, j20, ↓j25, ↓j27, ↓j29, ↓j30, j32, j33, j34, ↓j38, ↓j39, ↓j40, ↓j43, ↓j45, ↓j48, ↓j54, ↓j58, ↓j59, ↓j76, ↓j79, j83, ↓j89, ↓j91, j115, ↓j120, ↓j124, j125, j127, j129, j130, j131, j132, j141, ↓j145, ↓j146, ↓j147, ↓j148, ↓j149, ↓j150, ↓j153, j157, j160, partsAV, AV.proj, AV.offOf, AV.size, AV.sizeL, AV.layable, AV.flat, AV.flatL, j163, j164, j166, j167, j170, j171, j172, j173, j174, j175, ↓reduceIte, Nat.reduceAdd, Nat.reduceEqDiff, j182, j185, j195, j196, j197, j211, kindOf, j214, j218, j219, j240, j253, j255, j258, j259, j266, j282, j284, j285, j292, j293, j294, j295, j297, j309, j311, j312, j316, j319, j325, j328, j331, j337, j440, j441, hi, hco, hcp, d2, ht0, hdl, hun, hlv, str_bytes, e1, e2, e3]
                  exact ret false _ _ _ (by rw [hM]; rfl) rfl
                · skip
                  simp -dsimp -implicitDefEqProofs only [↓j0, ↓j1, ↓j2, ↓j7, ↓j10, ↓j12, ↓j13, ↓j14, ↓j15, j17, j18, j20, ↓j25, ↓j27, ↓j29, ↓j30, j32, j33, j34, ↓j38, ↓j39, ↓j40, ↓j43, ↓j45, ↓j48, ↓j54, ↓j58, ↓j59, ↓j76, ↓j79, j83, ↓j89, ↓j91, j115, ↓j120, ↓j124, j125, j127, j129, j130, j131, j132, j141, ↓j145, ↓j146, ↓j147, ↓j148, ↓j149, ↓j150, ↓j153, j157, j160, partsAV, AV.proj, AV.offOf, AV.size, AV.sizeL, AV.layable, AV.flat, AV.flatL, j163, j164, j166, j167, j170, j171, j172, j173, j174, j175, ↓reduceIte, Nat.reduceAdd, Nat.reduceEqDiff, j182, j185, j195, j196, j197, j211, kindOf, j214, j218, j219, j240, j253, j255, j258, j259, j266, j282, j284, j285, j292, j293, j294, j295, j297, j309, j311, j312, j316, j319, j325, j328, j331, j337, j440, j441, hi, hco, hcp, d2, ht0, hdl, hun, hlv, str_bytes, e1, e2, e3]
                  exact ret true _ _ _ (by rw [hM]; rfl) rfl
  have e3 : ((r.kind : Int) == 3) = false := by rw [beq_eq_false_iff_ne]; omega
  by_cases k4 : r.kind = 4
  · have e4 : ((r.kind : Int) == 4) = true := by rw [beq_iff_eq]; omega
    rw [if_neg k1, if_neg k2, if_neg k3, if_pos (.inl k4)] at hM
    cases t0
    · skip
      cases un
      · skip
        simp -dsimp -implicitDefEqProofs only [↓j0, ↓j1, ↓j2, ↓j7, ↓j9, ↓j10, ↓j12, ↓j13, ↓j14, ↓j15, j17, j18, j20, ↓j25, ↓j27, ↓j29, ↓j30, j32, j33, ↓j38, ↓j39, ↓j40, ↓j43, ↓j45, ↓j48, ↓j54, ↓j76, ↓j79, j82, ↓j89, ↓j91, ↓j124, j125, j127, j129, j130, j131, ↓j145, ↓j146, ↓j147, ↓j148, ↓j149, ↓j150, ↓j153, j157, partsAV, AV.proj, AV.offOf, AV.size, AV.sizeL, AV.layable, AV.flat, AV.flatL, j163, j164, j166, j167, j170, j171, j172, j173, j174, j175, ↓reduceIte, Nat.reduceAdd, Nat.reduceEqDiff, j182, j185, j195, j196, j197, j211, kindOf, j214, j218, j219, j240, j253, j255, j266, j282, j294, j295, j311, j312, j316, j319, j325, j337, j441, hi, hco, ht0, hun, hlv, e1, e2, e3, e4]
        exact ret false _ _ _ (by rw [hM]; rfl) rfl
      · skip
        cases im
        · skip
          simp -dsimp -implicitDefEqProofs only [↓j0, ↓j1, ↓j2, ↓j7, ↓j9, ↓j10, ↓j12, ↓j13, ↓j14, ↓j15, j17, j18, j20, ↓j25, ↓j27, ↓j29, ↓j30, j32, j33, ↓j38, ↓j39, ↓j40, ↓j43, ↓j45, ↓j48, ↓j54, ↓j76, ↓j79, j82, j83, ↓j89, ↓j91, ↓j124, j125, j127, j129, j130, j131, ↓j145, ↓j146, ↓j147, ↓j148, ↓j149, ↓j150, ↓j153, j157, partsAV, AV.proj, AV.offOf, AV.size, AV.sizeL, AV.layable, AV.flat, AV.flatL, j163, j164, j166, j167, j170, j171, j172, j173, j174, j175, ↓reduceIte, Nat.reduceAdd, Nat.reduceEqDiff, j182, j185, j195, j196, j197, j211, kindOf, j214, j218, j219, j240, j253, j255, j266, j282, j294, j295, j311, j312, j316, j319, j325, j337, j441, hi, hco, ht0, hun, hlv, e1, e2, e3, e4]
          exact ret false _ _ _ (by rw [hM]; rfl) rfl
        · skip
          simp -dsimp -implicitDefEqProofs only [↓j0, ↓j1, ↓j2, ↓j7, ↓j9, ↓j10, ↓j12, ↓j13, ↓j14, ↓j15, j17, j18, j20, ↓j25, ↓j27, ↓j29, ↓j30, j32, j33, ↓j38, ↓j39, ↓j40, ↓j43, ↓j45, ↓j48, ↓j54, ↓j76, ↓j79, j82, j83, ↓j89, ↓j91, ↓j124, j125, j127, j129, j130, j131, ↓j145, ↓j146, ↓j147, ↓j148, ↓j149, ↓j150, ↓j153, j157, partsAV, AV.proj, AV.offOf, AV.size, AV.sizeL, AV.layable, AV.flat, AV.flatL, j163, j164, j166, j167, j170, j171, j172, j173, j174, j175, ↓reduceIte, Nat.reduceAdd, Nat.reduceEqDiff, j182, j185, j195, j196, j197, j211, kindOf, j214, j218, j219, j240, j253, j255, j266, j282, j294, j295, j311, j312, j316, j319, j325, j337, j441, hi, hco, ht0, hun, hlv, e1, e2, e3, e4]
          exact ret false _ _ _ (by rw [hM]; rfl) rfl
    · skip
      cases pv
      · skip
        cases un
        · skip
          simp -dsimp -implicitDefEqProofs only [↓j0, ↓j1, ↓j2, ↓j7, ↓j9, ↓j10, ↓j12, ↓j13, ↓j14, ↓j15, j17, j18, j20, ↓j25, ↓j27, ↓j29, ↓j30, j32, j33, ↓j38, ↓j39, ↓j40, ↓j43, ↓j45, ↓j48, ↓j54, ↓j76, ↓j79, j82, j83, ↓j89, ↓j91, ↓j124, j125, j127, j129, j130, j131, ↓j145, ↓j146, ↓j147, ↓j148, ↓j149, ↓j150, ↓j153, j157, partsAV, AV.proj, AV.offOf, AV.size, AV.sizeL, AV.layable, AV.flat, AV.flatL, j163, j164, j166, j167, j170, j171, j172, j173, j174, j175, ↓reduceIte, Nat.reduceAdd, Nat.reduceEqDiff, j182, j185, j195, j196, j197, j211, kindOf, j214, j218, j219, j240, j253, j255, j266, j282, j284, j285, j292, j293, j294, j295, j311, j312, j316, j319, j325, j328, j337, j440, j441, hi, hco, hcp, ht0, hun, hlv, e1, e2, e3, e4]
          exact ret false _ _ _ (by rw [hM]; rfl) rfl
        · skip
          cases im
          · skip
            simp -dsimp -implicitDefEqProofs only [↓j0, ↓j1, ↓j2, ↓j7, ↓j9, ↓j10, ↓j12, ↓j13, ↓j14, ↓j15, j17, j18, j20, ↓j25, ↓j27, ↓j29, ↓j30, j32, j33, ↓j38, ↓j39, ↓j40, ↓j43, ↓j45, ↓j48, ↓j54, ↓j76, ↓j79, j82, j83, ↓j89, ↓j91, ↓j124, j125, j127, j129, j130, j131, ↓j145, ↓j146, ↓j147, ↓j148, ↓j149, ↓j150, ↓j153, j157, partsAV, AV.proj, AV.offOf, AV.size, AV.sizeL, AV.layable, AV.flat, AV.flatL, j163, j164, j166, j167, j170, j171, j172, j173, j174, j175, ↓reduceIte, Nat.reduceAdd, Nat.reduceEqDiff, j182, j185, j195, j196, j197, j211, kindOf, j214, j218, j219, j240, j253, j255, j266, j282, j284, j285, j292, j293, j294, j295, j311, j312, j316, j319, j325, j328, j337, j440, j441, hi, hco, hcp, ht0, hun, hlv, e1, e2, e3, e4]
            exact ret false _ _ _ (by rw [hM]; rfl) rfl
          · skip
            simp -dsimp -implicitDefEqProofs only [↓j0, ↓j1, ↓j2, ↓j7, ↓j9, ↓j10, ↓j12, ↓j13, ↓j14, ↓j15, j17, j18, j20, ↓j25, ↓j27, ↓j29, ↓j30, j32, j33, ↓j38, ↓j39, ↓j40, ↓j43, ↓j45, ↓j48, ↓j54, ↓j76, ↓j79, j82, j83, ↓j89, ↓j91, ↓j124, j125, j127, j129, j130, j131, ↓j145, ↓j146, ↓j147, ↓j148, ↓j149, ↓j150, ↓j153, j157, partsAV, AV.proj, AV.offOf, AV.size, AV.sizeL, AV.layable, AV.flat, AV.flatL, j163, j164, j166, j167, j170, j171, j172, j173, j174, j175, ↓reduceIte, Nat.reduceAdd, Nat.reduceEqDiff, j182, j185, j195, j196, j197, j211, kindOf, j214, j218, j219, j240, j253, j255, j266, j282, j284, j285, j292, j293, j294, j295, j311, j312, j316, j319, j325, j328, j337, j440, j441, hi, hco, hcp, ht0, hun, hlv, e1, e2, e3, e4]
            exact ret false _ _ _ (by rw [hM]; rfl) rfl
      · skip
        cases dl
        · skip
          cases un
          · skip
            simp -dsimp -implicitDefEqProofs only [↓j0, ↓j1, ↓j2, ↓j7, ↓j9, ↓j10, ↓j12, ↓j13, ↓j14, ↓j15, j17, j18, j20, ↓j25, ↓j27, ↓j29, ↓j30, j32, j33, j34, ↓j38, ↓j39, ↓j40, ↓j43, ↓j45, ↓j48, ↓j54, ↓j76, ↓j79, j82, j83, ↓j89, ↓j91, j115, ↓j120, ↓j124, j125, j127, j129, j130, j131, j132, ↓j145, ↓j146, ↓j147, ↓j148, ↓j149, ↓j150, ↓j153, j157, partsAV, AV.proj, AV.offOf, AV.size, AV.sizeL, AV.layable, AV.flat, AV.flatL, j163, j164, j166, j167, j170, j171, j172, j173, j174, j175, ↓reduceIte, Nat.reduceAdd, Nat.reduceEqDiff, j182, j185, j195, j196, j197, j211, kindOf, j214, j218, j219, j240, j253, j255, j258, j266, j282, j284, j285, j292, j293, j294, j295, j311, j312, j316, j319, j325, j328, j331, j337, j440, j441, hi, hco, hcp, ht0, hdl, hun, hlv, e1, e2, e3, e4]
            exact ret false _ _ _ (by rw [hM]; rfl) rfl
          · skip
            cases im
            · skip
              simp -dsimp -implicitDefEqProofs only [↓j0, ↓j1, ↓j2, ↓j7, ↓j9, ↓j10, ↓j12, ↓j13, ↓j14, ↓j15, j17, j18, j20, ↓j25, ↓j27, ↓j29, ↓j30, j32, j33, j34, ↓j38, ↓j39, ↓j40, ↓j43, ↓j45, ↓j48, ↓j54, ↓j76, ↓j79, j82, j83, ↓j89, ↓j91, j115, ↓j120, ↓j124, j125, j127, j129, j130, j131, j132, ↓j145, ↓j146, ↓j147, ↓j148, ↓j149, ↓j150, ↓j153, j157, partsAV, AV.proj, AV.offOf, AV.size, AV.sizeL, AV.layable, AV.flat, AV.flatL, j163, j164, j166, j167, j170, j171, j172, j173, j174, j175, ↓reduceIte, Nat.reduceAdd, Nat.reduceEqDiff, j182, j185, j195, j196, j197, j211, kindOf, j214, j218, j219, j240, j253, j255, j258, j266, j282, j284, j285, j292, j293, j294, j295, j311, j312, j316, j319, j325, j328, j331, j337, j440, j441, hi, hco, hcp, ht0, hdl, hun, hlv, e1, e2, e3, e4]
              exact ret false _ _ _ (by rw [hM]; rfl) rfl
            · skip
              simp -dsimp -implicitDefEqProofs only [↓j0, ↓j1, ↓j2, ↓j7, ↓j9, ↓j10, ↓j12, ↓j13, ↓j14, ↓j15, j17, j18, j20, ↓j25, ↓j27, ↓j29, ↓j30, j32, j33, j34, ↓j38, ↓j39, ↓j40, ↓j43, ↓j45, ↓j48, ↓j54, ↓j76, ↓j79, j82, j83, ↓j89, ↓j91, j115, ↓j120, ↓j124, j125, j127, j129, j130, j131, j132, ↓j145, ↓j146, ↓j147, ↓j148, ↓j149, ↓j150, ↓j153, j157, partsAV, AV.proj, AV.offOf, AV.size, AV.sizeL, AV.layable, AV.flat, AV.flatL, j163, j164, j166, j167, j170, j171, j172, j173, j174, j175, ↓reduceIte, Nat.reduceAdd, Nat.reduceEqDiff, j182, j185, j195, j196, j197, j211, kindOf, j214, j218, j219, j240, j253, j255, j258, j266, j282, j284, j285, j292, j293, j294, j295, j311, j312, j316, j319, j325, j328, j331, j337, j440, j441, hi, hco, hcp, ht0, hdl, hun, hlv, e1, e2, e3, e4]
              exact ret false _ _ _ (by rw [hM]; rfl) rfl
        · skip
          cases un
          · skip
            simp -dsimp -implicitDefEqProofs only [↓j0, ↓j1, ↓j2, ↓j7, ↓j9, ↓j10, ↓j12, ↓j13, ↓j14, ↓j15, j17, j18, j20, ↓j25, ↓j27, ↓j29, ↓j30, j32, j33, j34, ↓j38, ↓j39, ↓j40, ↓j43, ↓j45, ↓j48, ↓j54, ↓j76, ↓j79, j82, j83, ↓j89, ↓j91, j115, ↓j120, ↓j124, j125, j127, j129, j130, j131, j132, ↓j145, ↓j146, ↓j147, ↓j148, ↓j149, ↓j150, ↓j153, j157, partsAV, AV.proj, AV.offOf, AV.size, AV.sizeL, AV.layable, AV.flat, AV.flatL, j163, j164, j166, j167, j170, j171, j172, j173, j174, j175, ↓reduceIte, Nat.reduceAdd, Nat.reduceEqDiff, j182, j185, j195, j196, j197, j211, kindOf, j214, j218, j219, j240, j253, j255, j258, j266, j282, j284, j285, j292, j293, j294, j295, j311, j312, j316, j319, j325, j328, j331, j337, j440, j441, hi, hco, hcp, ht0, hdl, hun, hlv, e1, e2, e3, e4]
            exact ret false _ _ _ (by rw [hM]; rfl) rfl
          · skip
            cases im
            · skip
              simp -dsimp -implicitDefEqProofs only [↓j0, ↓j1, ↓j2, ↓j7, ↓j9, ↓j10, ↓j12, ↓j13, ↓j14, ↓j15, j17, j18, j20, ↓j25, ↓j27, ↓j29, ↓j30, j32, j33, j34, ↓j38, ↓j39, ↓j40, ↓j43, ↓j45, ↓j48, ↓j54, ↓j76, ↓j79, j82, j83, ↓j89, ↓j91, j115, ↓j120, ↓j124, j125, j127, j129, j130, j131, j132, ↓j145, ↓j146, ↓j147, ↓j148, ↓j149, ↓j150, ↓j153, j157, partsAV, AV.proj, AV.offOf, AV.size, AV.sizeL, AV.layable, AV.flat, AV.flatL, j163, j164, j166, j167, j170, j171, j172, j173, j174, j175, ↓reduceIte, Nat.reduceAdd, Nat.reduceEqDiff, j182, j185, j195, j196, j197, j211, kindOf, j214, j218, j219, j240, j253, j255, j258, j266, j282, j284, j285, j292, j293, j294, j295, j311, j312, j316, j319, j325, j328, j331, j337, j440, j441, hi, hco, hcp, ht0, hdl, hun, hlv, e1, e2, e3, e4]
              exact ret false _ _ _ (by rw [hM]; rfl) rfl
            · skip
              cases od
              · skip
                simp -dsimp -implicitDefEqProofs only [↓j0, ↓j1, ↓j2, ↓j7, ↓j9, ↓j10, ↓j12, ↓j13, ↓j14, ↓j15, j17, j18, j20, ↓j25, ↓j27, ↓j29, ↓j30, j32, j33, j34, ↓j38, ↓j39, ↓j40, ↓j43, ↓j45, ↓j48, ↓j54, ↓j76, ↓j79, j83, ↓j89, ↓j91, j115, ↓j120, ↓j124, j125, j127, j129, j130, j131, j132, ↓j145, ↓j146, ↓j147, ↓j148, ↓j149, ↓j150, ↓j153, j157, partsAV, AV.proj, AV.offOf, AV.size, AV.sizeL, AV.layable, AV.flat, AV.flatL, j163, j164, j166, j167, j170, j171, j172, j173, j174, j175, ↓reduceIte, Nat.reduceAdd, Nat.reduceEqDiff, j182, j185, j195, j196, j197, j211, kindOf, j214, j218, j219, j240, j253, j255, j258, j266, j282, j284, j285, j292, j293, j294, j295, j311, j312, j316, j319, j325, j328, j331, j337, j440, j441, hi, hco, hcp, ht0, hdl, hun, hlv, e1, e2, e3, e4]
                exact ret false _ _ _ (by rw [hM]; rfl) rfl
              · skip
                simp -dsimp -implicitDefEqProofs only [↓j0, ↓j1, ↓j2, ↓j7, ↓j9, ↓j10, ↓j12, ↓j13, ↓j14, ↓j15, j17, j18, j20, ↓j25, ↓j27, ↓j29, ↓j30, j32, j33, j34, ↓j38, ↓j39, ↓j40, ↓j43, ↓j45, ↓j48, ↓j54, ↓j76, ↓j79, j83, ↓j89, ↓j91, j115, ↓j120, ↓j124, j125, j127, j129, j130, j131, j132, ↓j145, ↓j146, ↓j147, ↓j148, ↓j149, ↓j150, ↓j153, j157, partsAV, AV.proj, AV.offOf, AV.size, AV.sizeL, AV.layable, AV.flat, AV.flatL, j163, j164, j166, j167, j170, j171, j172, j173, j174, j175, ↓reduceIte, Nat.reduceAdd, Nat.reduceEqDiff, j182, j185, j195, j196, j197, j211, kindOf, j214, j218, j219, j240, j253, j255, j258, j266, j282, j284, j285, j292, j293, j294, j295, j311, j312, j316, j319, j325, j328, j331, j337, j440, j441, hi, hco, hcp, ht0, hdl, hun, hlv, e1, e2, e3, e4]
                exact ret true _ _ _ (by rw [hM]; rfl) rfl
  have e4 : ((r.kind : Int) == 4) = false := by rw [beq_eq_false_iff_ne]; omega
  by_cases k5 : r.kind = 5
  · have e5 : ((r.kind : Int) == 5) = true := by rw [beq_iff_eq]; omega
    rw [if_neg k1, if_neg k2, if_neg k3, if_pos (.inr k5)] at hM
    cases t0
    · skip
      cases un
      · skip
        simp -dsimp -implicitDefEqProofs only [↓j0, ↓j1, ↓j2, ↓j7, ↓j10, ↓j12, ↓j13, ↓j14, ↓j15, j17, j18, j20, ↓j25, ↓j27, ↓j29, ↓j30, j32, j33, ↓j38, ↓j39, ↓j40, ↓j43, ↓j45, ↓j48, ↓j54, ↓j76, ↓j79, j82, ↓j89, ↓j91, ↓j124, j125, j127, j129, j130, j131, ↓j145, ↓j146, ↓j147, ↓j148, ↓j149, ↓j150, ↓j153, j157, partsAV, AV.proj, AV.offOf, AV.size, AV.sizeL, AV.layable, AV.flat, AV.flatL, j163, j164, j166, j167, j170, j171, j172, j173, j174, j175, ↓reduceIte, Nat.reduceAdd, Nat.reduceEqDiff, j182, j185, j195, j196, j197, j211, kindOf, j214, j218, j219, j240, j253, j255, j266, j282, j294, j295, j311, j312, j316, j319, j325, j337, j441, hi, hco, ht0, hun, hlv, e1, e2, e3, e4, e5]
        exact ret false _ _ _ (by rw [hM]; rfl) rfl
      · skip
        cases im
        · skip
          simp -dsimp -implicitDefEqProofs only [↓j0, ↓j1, ↓j2, ↓j7, ↓j10, ↓j12, ↓j13, ↓j14, ↓j15, j17, j18, j20, ↓j25, ↓j27, ↓j29, ↓j30, j32, j33, ↓j38, ↓j39, ↓j40, ↓j43, ↓j45, ↓j48, ↓j54, ↓j76, ↓j79, j82, j83, ↓j89, ↓j91, ↓j124, j125, j127, j129, j130, j131, ↓j145, ↓j146, ↓j147, ↓j148, ↓j149, ↓j150, ↓j153, j157, partsAV, AV.proj, AV.offOf, AV.size, AV.sizeL, AV.layable, AV.flat, AV.flatL, j163, j164, j166, j167, j170, j171, j172, j173, j174, j175, ↓reduceIte, Nat.reduceAdd, Nat.reduceEqDiff, j182, j185, j195, j196, j197, j211, kindOf, j214, j218, j219, j240, j253, j255, j266, j282, j294, j295, j311, j312, j316, j319, j325, j337, j441, hi, hco, ht0, hun, hlv, e1, e2, e3, e4, e5]
          exact ret false _ _ _ (by rw [hM]; rfl) rfl
        · skip
          simp -dsimp -implicitDefEqProofs only [↓j0, ↓j1, ↓j2, ↓j7, ↓j10, ↓j12, ↓j13, ↓j14, ↓j15, j17, j18, j20, ↓j25, ↓j27, ↓j29, ↓j30, j32, j33, ↓j38, ↓j39, ↓j40, ↓j43, ↓j45, ↓j48, ↓j54, ↓j76, ↓j79, j82, j83, ↓j89, ↓j91, ↓j124, j125, j127, j129, j130, j131, ↓j145, ↓j146, ↓j147, ↓j148, ↓j149, ↓j150, ↓j153, j157, partsAV, AV.proj, AV.offOf, AV.size, AV.sizeL, AV.layable, AV.flat, AV.flatL, j163, j164, j166, j167, j170, j171, j172, j173, j174, j175, ↓reduceIte, Nat.reduceAdd, Nat.reduceEqDiff, j182, j185, j195, j196, j197, j211, kindOf, j214, j218, j219, j240, j253, j255, j266, j282, j294, j295, j311, j312, j316, j319, j325, j337, j441, hi, hco, ht0, hun, hlv, e1, e2, e3, e4, e5]
          exact ret false _ _ _ (by rw [hM]; rfl) rfl
    · skip
      cases pv
      · skip
        cases un
        · skip
          simp -dsimp -implicitDefEqProofs only [↓j0, ↓j1, ↓j2, ↓j7, ↓j10, ↓j12, ↓j13, ↓j14, ↓j15, j17, j18, j20, ↓j25, ↓j27, ↓j29, ↓j30, j32, j33, ↓j38, ↓j39, ↓j40, ↓j43, ↓j45, ↓j48, ↓j54, ↓j76, ↓j79, j82, j83, ↓j89, ↓j91, ↓j124, j125, j127, j129, j130, j131, ↓j145, ↓j146, ↓j147, ↓j148, ↓j149, ↓j150, ↓j153, j157, partsAV, AV.proj, AV.offOf, AV.size, AV.sizeL, AV.layable, AV.flat, AV.flatL, j163, j164, j166, j167, j170, j171, j172, j173, j174, j175, ↓reduceIte, Nat.reduceAdd, Nat.reduceEqDiff, j182, j185, j195, j196, j197, j211, kindOf, j214, j218, j219, j240, j253, j255, j266, j282, j284, j285, j292, j293, j294, j295, j311, j312, j316, j319, j325, j328, j337, j440, j441, hi, hco, hcp, ht0, hun, hlv, e1, e2, e3, e4, e5]
          exact ret false _ _ _ (by rw [hM]; rfl) rfl
        · skip
          cases im
          · skip
            simp -dsimp -implicitDefEqProofs only [↓j0, ↓j1, ↓j2, ↓j7, ↓j10, ↓j12, ↓j13, ↓j14, ↓j15, j17, j18, j20, ↓j25, ↓j27, ↓j29, ↓j30, j32, j33, ↓j38, ↓j39, ↓j40, ↓j43, ↓j45, ↓j48, ↓j54, ↓j76, ↓j79, j82, j83, ↓j89, ↓j91, ↓j124, j125, j127, j129, j130, j131, ↓j145, ↓j146, ↓j147, ↓j148, ↓j149, ↓j150, ↓j153, j157, partsAV, AV.proj, AV.offOf, AV.size, AV.sizeL, AV.layable, AV.flat, AV.flatL, j163, j164, j166, j167, j170, j171, j172, j173, j174, j175, ↓reduceIte, Nat.reduceAdd, Nat.reduceEqDiff, j182, j185, j195, j196, j197, j211, kindOf, j214, j218, j219, j240, j253, j255, j266, j282, j284, j285, j292, j293, j294, j295, j311, j312, j316, j319, j325, j328, j337, j440, j441, hi, hco, hcp, ht0, hun, hlv, e1, e2, e3, e4, e5]
            exact ret false _ _ _ (by rw [hM]; rfl) rfl
          · skip
            simp -dsimp -implicitDefEqProofs only [↓j0, ↓j1, ↓j2, ↓j7, ↓j10, ↓j12, ↓j13, ↓j14, ↓j15, j17, j18, j20, ↓j25, ↓j27, ↓j29, ↓j30, j32, j33, ↓j38, ↓j39, ↓j40, ↓j43, ↓j45, ↓j48, ↓j54, ↓j76, ↓j79, j82, j83, ↓j89, ↓j91, ↓j124, j125, j127, j129, j130, j131, ↓j145, ↓j146, ↓j147, ↓j148, ↓j149, ↓j150, ↓j153, j157, partsAV, AV.proj, AV.offOf, AV.size, AV.sizeL, AV.layable, AV.flat, AV.flatL, j163, j164, j166, j167, j170, j171, j172, j173, j174, j175, ↓reduceIte, Nat.reduceAdd, Nat.reduceEqDiff, j182, j185, j195, j196, j197, j211, kindOf, j214, j218, j219, j240, j253, j255, j266, j282, j284, j285, j292, j293, j294, j295, j311, j312, j316, j319, j325, j328, j337, j440, j441, hi, hco, hcp, ht0, hun, hlv, e1, e2, e3, e4, e5]
            exact ret false _ _ _ (by rw [hM]; rfl) rfl
      · skip
        cases dl
        · skip
          cases un
          · skip
            simp -dsimp -implicitDefEqProofs only [↓j0, ↓j1, ↓j2, ↓j7, ↓j10, ↓j12, ↓j13, ↓j14, ↓j15, j17, j18, j20, ↓j25, ↓j27, ↓j29, ↓j30, j32, j33, j34, ↓j38, ↓j39, ↓j40, ↓j43, ↓j45, ↓j48, ↓j54, ↓j76, ↓j79, j82, j83, ↓j89, ↓j91, j115, ↓j120, ↓j124, j125, j127, j129, j130, j131, j132, ↓j145, ↓j146, ↓j147, ↓j148, ↓j149, ↓j150, ↓j153, j157, partsAV, AV.proj, AV.offOf, AV.size, AV.sizeL, AV.layable, AV.flat, AV.flatL, j163, j164, j166, j167, j170, j171, j172, j173, j174, j175, ↓reduceIte, Nat.reduceAdd, Nat.reduceEqDiff, j182, j185, j195, j196, j197, j211, kindOf, j214, j218, j219, j240, j253, j255, j258, j266, j282, j284, j285, j292, j293, j294, j295, j311, j312, j316, j319, j325, j328, j331, j337, j440, j441, hi, hco, hcp, ht0, hdl, hun, hlv, e1, e2, e3, e4, e5]
            exact ret false _ _ _ (by rw [hM]; rfl) rfl
          · skip
            cases im
            · skip
              simp -dsimp -implicitDefEqProofs only [↓j0, ↓j1, ↓j2, ↓j7, ↓j10, ↓j12, ↓j13, ↓j14, ↓j15, j17, j18, j20, ↓j25, ↓j27, ↓j29, ↓j30, j32, j33, j34, ↓j38, ↓j39, ↓j40, ↓j43, ↓j45, ↓j48, ↓j54, ↓j76, ↓j79, j82, j83, ↓j89, ↓j91, j115, ↓j120, ↓j124, j125, j127, j129, j130, j131, j132, ↓j145, ↓j146, ↓j147, ↓j148, ↓j149, ↓j150, ↓j153, j157, partsAV, AV.proj, AV.offOf, AV.size, AV.sizeL, AV.layable, AV.flat, AV.flatL, j163, j164, j166, j167, j170, j171, j172, j173, j174, j175, ↓reduceIte, Nat.reduceAdd, Nat.reduceEqDiff, j182, j185, j195, j196, j197, j211, kindOf, j214, j218, j219, j240, j253, j255, j258, j266, j282, j284, j285, j292, j293, j294, j295, j311, j312, j316, j319, j325, j328, j331, j337, j440, j441, hi, hco, hcp, ht0, hdl, hun, hlv, e1, e2, e3, e4, e5]
              exact ret false _ _ _ (by rw [hM]; rfl) rfl
            · skip
              simp -dsimp -implicitDefEqProofs only [↓j0, ↓j1, ↓j2, ↓j7, ↓j10, ↓j12, ↓j13, ↓j14, ↓j15, j17, j18, j20, ↓j25, ↓j27, ↓j29, ↓j30, j32, j33, j34, ↓j38, ↓j39, ↓j40, ↓j43, ↓j45, ↓j48, ↓j54, ↓j76, ↓j79, j82, j83, ↓j89, ↓j91, j115, ↓j120, ↓j124, j125, j127, j129, j130, j131, j132, ↓j145, ↓j146, ↓j147, ↓j148, ↓j149, ↓j150, ↓j153, j157, partsAV, AV.proj, AV.offOf, AV.size, AV.sizeL, AV.layable, AV.flat, AV.flatL, j163, j164, j166, j167, j170, j171, j172, j173, j174, j175, ↓reduceIte, Nat.reduceAdd, Nat.reduceEqDiff, j182, j185, j195, j196, j197, j211, kindOf, j214, j218, j219, j240, j253, j255, j258, j266, j282, j284, j285, j292, j293, j294, j295, j311, j312, j316, j319, j325, j328, j331, j337, j440, j441, hi, hco, hcp, ht0, hdl, hun, hlv, e1, e2, e3, e4, e5]
              exact ret false _ _ _ (by rw [hM]; rfl) rfl
        · skip
          cases un
          · skip
            simp -dsimp -implicitDefEqProofs only [↓j0, ↓j1, ↓j2, ↓j7, ↓j10, ↓j12, ↓j13, ↓j14, ↓j15, j17, j18, j20, ↓j25, ↓j27, ↓j29, ↓j30, j32, j33, j34, ↓j38, ↓j39, ↓j40, ↓j43, ↓j45, ↓j48, ↓j54, ↓j76, ↓j79, j82, j83, ↓j89, ↓j91, j115, ↓j120, ↓j124, j125, j127, j129, j130, j131, j132, ↓j145, ↓j146, ↓j147, ↓j148, ↓j149, ↓j150, ↓j153, j157, partsAV, AV.proj, AV.offOf, AV.size, AV.sizeL, AV.layable, AV.flat, AV.flatL, j163, j164, j166, j167, j170, j171, j172, j173, j174, j175, ↓reduceIte, Nat.reduceAdd, Nat.reduceEqDiff, j182, j185, j195, j196, j197, j211, kindOf, j214, j218, j219, j240, j253, j255, j258, j266, j282, j284, j285, j292, j293, j294, j295, j311, j312, j316, j319, j325, j328, j331, j337, j440, j441, hi, hco, hcp, ht0, hdl, hun, hlv, e1, e2, e3, e4, e5]
            exact ret false _ _ _ (by rw [hM]; rfl) rfl
          · skip
            cases im
            · skip
              simp -dsimp -implicitDefEqProofs only [↓j0, ↓j1, ↓j2, ↓j7, ↓j10, ↓j12, ↓j13, ↓j14, ↓j15, j17, j18, j20, ↓j25, ↓j27, ↓j29, ↓j30, j32, j33, j34, ↓j38, ↓j39, ↓j40, ↓j43, ↓j45, ↓j48, ↓j54, ↓j76, ↓j79, j82, j83, ↓j89, ↓j91, j115, ↓j120, ↓j124, j125, j127, j129, j130, j131, j132, ↓j145, ↓j146, ↓j147, ↓j148, ↓j149, ↓j150, ↓j153, j157, partsAV, AV.proj, AV.offOf, AV.size, AV.sizeL, AV.layable, AV.flat, AV.flatL, j163, j164, j166, j167, j170, j171, j172, j173, j174, j175, ↓reduceIte, Nat.reduceAdd, Nat.reduceEqDiff, j182, j185, j195, j196, j197, j211, kindOf, j214, j218, j219, j240, j253, j255, j258, j266, j282, j284, j285, j292, j293, j294, j295, j311, j312, j316, j319, j325, j328, j331, j337, j440, j441, hi, hco, hcp, ht0, hdl, hun, hlv, e1, e2, e3, e4, e5]
              exact ret false _ _ _ (by rw [hM]; rfl) rfl
            · skip
              cases od
              · skip
                simp -dsimp -implicitDefEqProofs only [↓j0, ↓j1, ↓j2, ↓j7, ↓j10, ↓j12, ↓j13, ↓j14, ↓j15, j17, j18, j20, ↓j25, ↓j27, ↓j29, ↓j30, j32, j33, j34, ↓j38, ↓j39, ↓j40, ↓j43, ↓j45, ↓j48, ↓j54, ↓j76, ↓j79, j83, ↓j89, ↓j91, j115, ↓j120, ↓j124, j125, j127, j129, j130, j131, j132, ↓j145, ↓j146, ↓j147, ↓j148, ↓j149, ↓j150, ↓j153, j157, partsAV, AV.proj, AV.offOf, AV.size, AV.sizeL, AV.layable, AV.flat, AV.flatL, j163, j164, j166, j167, j170, j171, j172, j173, j174, j175, ↓reduceIte, Nat.reduceAdd, Nat.reduceEqDiff, j182, j185, j195, j196, j197, j211, kindOf, j214, j218, j219, j240, j253, j255, j258, j266, j282, j284, j285, j292, j293, j294, j295, j311, j312, j316, j319, j325, j328, j331, j337, j440, j441, hi, hco, hcp, ht0, hdl, hun, hlv, e1, e2, e3, e4, e5]
                exact ret false _ _ _ (by rw [hM]; rfl) rfl
              · skip
                simp -dsimp -implicitDefEqProofs only [↓j0, ↓j1, ↓j2, ↓j7, ↓j10, ↓j12, ↓j13, ↓j14, ↓j15, j17, j18, j20, ↓j25, ↓j27, ↓j29, ↓j30, j32, j33, j34, ↓j38, ↓j39, ↓j40, ↓j43, ↓j45, ↓j48, ↓j54, ↓j76, ↓j79, j83, ↓j89, ↓j91, j115, ↓j120, ↓j124, j125, j127, j129, j130, j131, j132, ↓j145, ↓j146, ↓j147, ↓j148, ↓j149, ↓j150, ↓j153, j157, partsAV, AV.proj, AV.offOf, AV.size, AV.sizeL, AV.layable, AV.flat, AV.flatL, j163, j164, j166, j167, j170, j171, j172, j173, j174, j175, ↓reduceIte, Nat.reduceAdd, Nat.reduceEqDiff, j182, j185, j195, j196, j197, j211, kindOf, j214, j218, j219, j240, j253, j255, j258, j266, j282, j284, j285, j292, j293, j294, j295, j311, j312, j316, j319, j325, j328, j331, j337, j440, j441, hi, hco, hcp, ht0, hdl, hun, hlv, e1, e2, e3, e4, e5]
                exact ret true _ _ _ (by rw [hM]; rfl) rfl
  have e5 : ((r.kind : Int) == 5) = false := by rw [beq_eq_false_iff_ne]; omega
  by_cases k6 : r.kind = 6
  · have e6 : ((r.kind : Int) == 6) = true := by rw [beq_iff_eq]; omega
    rw [if_neg k1, if_neg k2, if_neg k3, if_neg (by omega), if_pos k6] at hM
    cases t0
    · skip
      cases dd
      · skip
        simp -dsimp -implicitDefEqProofs only [↓j0, ↓j1, ↓j2, ↓j7, ↓j10, ↓j12, ↓j13, ↓j14, ↓j15, j17, j18, j20, ↓j25, ↓j27, ↓j29, ↓j30, j32, j33, ↓j38, ↓j39, ↓j40, ↓j43, ↓j45, ↓j48, ↓j54, ↓j76, ↓j79, j82, ↓j89, ↓j91, ↓j124, j125, j127, j129, j130, j131, ↓j145, ↓j146, ↓j147, ↓j148, ↓j149, ↓j150, ↓j153, j157, partsAV, AV.proj, AV.offOf, AV.size, AV.sizeL, AV.layable, AV.flat, AV.flatL, j163, j164, j166, j167, j170, j171, j172, j173, j174, j175, ↓reduceIte, Nat.reduceAdd, Nat.reduceEqDiff, j182, j185, j195, j196, j197, j211, kindOf, j214, j218, j219, j240, j253, j255, j263, j264, j266, j271, j272, j282, j294, j295, j311, j312, j316, j319, j325, j337, j438, j441, hi, hco, hcd, ht0, hun, hlv, e1, e2, e3, e4, e5, e6]
        exact ret false _ _ _ (by rw [hM]; rfl) rfl
      · skip
        cases im
        · skip
          simp -dsimp -implicitDefEqProofs only [↓j0, ↓j1, ↓j2, ↓j7, ↓j10, ↓j12, ↓j13, ↓j14, ↓j15, j17, j18, j20, ↓j25, ↓j27, ↓j29, ↓j30, j32, j33, ↓j38, ↓j39, ↓j40, ↓j43, ↓j45, ↓j48, ↓j54, ↓j76, ↓j79, j82, j83, ↓j89, ↓j91, ↓j124, j125, j127, j129, j130, j131, ↓j145, ↓j146, ↓j147, ↓j148, ↓j149, ↓j150, ↓j153, j157, partsAV, AV.proj, AV.offOf, AV.size, AV.sizeL, AV.layable, AV.flat, AV.flatL, j163, j164, j166, j167, j170, j171, j172, j173, j174, j175, ↓reduceIte, Nat.reduceAdd, Nat.reduceEqDiff, j182, j185, j195, j196, j197, j211, kindOf, j214, j218, j219, j240, j253, j255, j263, j264, j266, j271, j272, j282, j294, j295, j311, j312, j316, j319, j325, j337, j438, j441, hi, hco, hcd, ht0, hun, hlv, e1, e2, e3, e4, e5, e6]
          exact ret false _ _ _ (by rw [hM]; rfl) rfl
        · skip
          cases pv
          · skip
            simp -dsimp -implicitDefEqProofs only [↓j0, ↓j1, ↓j2, ↓j7, ↓j10, ↓j12, ↓j13, ↓j14, ↓j15, j17, j18, j20, ↓j25, ↓j27, ↓j29, ↓j30, j32, j33, ↓j38, ↓j39, ↓j40, ↓j43, ↓j45, ↓j48, ↓j54, ↓j76, ↓j79, j82, j83, ↓j89, ↓j91, ↓j124, j125, j127, j129, j130, j131, ↓j145, ↓j146, ↓j147, ↓j148, ↓j149, ↓j150, ↓j153, j157, partsAV, AV.proj, AV.offOf, AV.size, AV.sizeL, AV.layable, AV.flat, AV.flatL, j163, j164, j166, j167, j170, j171, j172, j173, j174, j175, ↓reduceIte, Nat.reduceAdd, Nat.reduceEqDiff, j182, j185, j195, j196, j197, j211, kindOf, j214, j218, j219, j240, j253, j255, j263, j264, j266, j271, j272, j282, j284, j285, j292, j293, j294, j295, j311, j312, j316, j319, j325, j328, j337, j438, j440, j441, hi, hco, hcp, hcd, ht0, hun, hlv, e1, e2, e3, e4, e5, e6]
            exact ret false _ _ _ (by rw [hM]; rfl) rfl
          · skip
            cases dl
            · skip
              simp -dsimp -implicitDefEqProofs only [↓j0, ↓j1, ↓j2, ↓j7, ↓j10, ↓j12, ↓j13, ↓j14, ↓j15, j17, j18, j20, ↓j25, ↓j27, ↓j29, ↓j30, j32, j33, j34, ↓j38, ↓j39, ↓j40, ↓j43, ↓j45, ↓j48, ↓j54, ↓j76, ↓j79, j82, j83, ↓j89, ↓j91, j115, ↓j120, ↓j124, j125, j127, j129, j130, j131, j132, ↓j145, ↓j146, ↓j147, ↓j148, ↓j149, ↓j150, ↓j153, j157, partsAV, AV.proj, AV.offOf, AV.size, AV.sizeL, AV.layable, AV.flat, AV.flatL, j163, j164, j166, j167, j170, j171, j172, j173, j174, j175, ↓reduceIte, Nat.reduceAdd, Nat.reduceEqDiff, j182, j185, j195, j196, j197, j211, kindOf, j214, j218, j219, j240, j253, j255, j258, j263, j264, j266, j271, j272, j282, j284, j285, j292, j293, j294, j295, j311, j312, j316, j319, j325, j328, j331, j337, j438, j440, j441, hi, hco, hcp, hcd, ht0, hdl, hun, hlv, e1, e2, e3, e4, e5, e6]
              exact ret false _ _ _ (by rw [hM]; rfl) rfl
            · skip
              cases s0
              · skip
                simp -dsimp -implicitDefEqProofs only [↓j0, ↓j1, ↓j2, ↓j7, ↓j10, ↓j12, ↓j13, ↓j14, ↓j15, j17, j18, j20, ↓j25, ↓j27, ↓j29, ↓j30, j32, j33, j34, ↓j38, ↓j39, ↓j40, ↓j43, ↓j45, ↓j48, ↓j54, ↓j76, ↓j79, j82, j83, ↓j89, ↓j91, j115, ↓j120, ↓j124, j125, j127, j129, j130, j131, j132, ↓j145, ↓j146, ↓j147, ↓j148, ↓j149, ↓j150, ↓j153, j157, partsAV, AV.proj, AV.offOf, AV.size, AV.sizeL, AV.layable, AV.flat, AV.flatL, j163, j164, j166, j167, j170, j171, j172, j173, j174, j175, ↓reduceIte, Nat.reduceAdd, Nat.reduceEqDiff, j182, j185, j195, j196, j197, j211, kindOf, j214, j218, j219, j240, j253, j255, j258, j263, j264, j266, j271, j272, j282, j284, j285, j292, j293, j294, j295, j311, j312, j316, j319, j325, j328, j331, j334, j337, j438, j440, j441, hi, hco, hcp, hcd, ht0, hs0, hdl, hun, hlv, e1, e2, e3, e4, e5, e6]
                exact ret false _ _ _ (by rw [hM]; rfl) rfl
              · skip
                cases od
                · skip
                  simp -dsimp -implicitDefEqProofs only [↓j0, ↓j1, ↓j2, ↓j7, ↓j10, ↓j12, ↓j13, ↓j14, ↓j15, j17, j18, j20, ↓j25, ↓j27, ↓j29, ↓j30, j32, j33, j34, ↓j38, ↓j39, ↓j40, ↓j43, ↓j45, ↓j48, ↓j54, ↓j76, ↓j79, j82, j83, ↓j89, ↓j91, j115, ↓j120, ↓j124, j125, j127, j129, j130, j131, j132, ↓j145, ↓j146, ↓j147, ↓j148, ↓j149, ↓j150, ↓j153, j157, partsAV, AV.proj, AV.offOf, AV.size, AV.sizeL, AV.layable, AV.flat, AV.flatL, j163, j164, j166, j167, j170, j171, j172, j173, j174, j175, ↓reduceIte, Nat.reduceAdd, Nat.reduceEqDiff, j182, j185, j195, j196, j197, j211, kindOf, j214, j218, j219, j240, j253, j255, j258, j263, j264, j266, j271, j272, j282, j284, j285, j292, j293, j294, j295, j311, j312, j316, j319, j325, j328, j331, j334, j337, j438, j440, j441, hi, hco, hcp, hcd, ht0, hs0, hdl, hun, hlv, e1, e2, e3, e4, e5, e6]
                  exact ret false _ _ _ (by rw [hM]; rfl) rfl
                · skip
                  simp -dsimp -implicitDefEqProofs only [↓j0, ↓j1, ↓j2, ↓j7, ↓j10, ↓j12, ↓j13, ↓j14, ↓j15, j17, j18, j20, ↓j25, ↓j27, ↓j29, ↓j30, j32, j33, j34, ↓j38, ↓j39, ↓j40, ↓j43, ↓j45, ↓j48, ↓j54, ↓j76, ↓j79, j82, j83, ↓j89, ↓j91, j115, ↓j120, ↓j124, j125, j127, j129, j130, j131, j132, ↓j145, ↓j146, ↓j147, ↓j148, ↓j149, ↓j150, ↓j153, j157, partsAV, AV.proj, AV.offOf, AV.size, AV.sizeL, AV.layable, AV.flat, AV.flatL, j163, j164, j166, j167, j170, j171, j172, j173, j174, j175, ↓reduceIte, Nat.reduceAdd, Nat.reduceEqDiff, j182, j185, j195, j196, j197, j211, kindOf, j214, j218, j219, j240, j253, j255, j258, j263, j264, j266, j271, j272, j282, j284, j285, j292, j293, j294, j295, j311, j312, j316, j319, j325, j328, j331, j334, j337, j438, j440, j441, hi, hco, hcp, hcd, ht0, hs0, hdl, hun, hlv, e1, e2, e3, e4, e5, e6]
                  exact ret true _ _ _ (by rw [hM]; rfl) rfl
    · skip
      cases pv
      · skip
        cases dd
        · skip
          simp -dsimp -implicitDefEqProofs only [↓j0, ↓j1, ↓j2, ↓j7, ↓j10, ↓j12, ↓j13, ↓j14, ↓j15, j17, j18, j20, ↓j25, ↓j27, ↓j29, ↓j30, j32, j33, ↓j38, ↓j39, ↓j40, ↓j43, ↓j45, ↓j48, ↓j54, ↓j76, ↓j79, j82, j83, ↓j89, ↓j91, ↓j124, j125, j127, j129, j130, j131, ↓j145, ↓j146, ↓j147, ↓j148, ↓j149, ↓j150, ↓j153, j157, partsAV, AV.proj, AV.offOf, AV.size, AV.sizeL, AV.layable, AV.flat, AV.flatL, j163, j164, j166, j167, j170, j171, j172, j173, j174, j175, ↓reduceIte, Nat.reduceAdd, Nat.reduceEqDiff, j182, j185, j195, j196, j197, j211, kindOf, j214, j218, j219, j240, j253, j255, j263, j264, j266, j271, j272, j282, j284, j285, j292, j293, j294, j295, j311, j312, j316, j319, j325, j328, j337, j438, j440, j441, hi, hco, hcp, hcd, ht0, hun, hlv, e1, e2, e3, e4, e5, e6]
          exact ret false _ _ _ (by rw [hM]; rfl) rfl
        · skip
          cases im
          · skip
            simp -dsimp -implicitDefEqProofs only [↓j0, ↓j1, ↓j2, ↓j7, ↓j10, ↓j12, ↓j13, ↓j14, ↓j15, j17, j18, j20, ↓j25, ↓j27, ↓j29, ↓j30, j32, j33, ↓j38, ↓j39, ↓j40, ↓j43, ↓j45, ↓j48, ↓j54, ↓j76, ↓j79, j82, j83, ↓j89, ↓j91, ↓j124, j125, j127, j129, j130, j131, ↓j145, ↓j146, ↓j147, ↓j148, ↓j149, ↓j150, ↓j153, j157, partsAV, AV.proj, AV.offOf, AV.size, AV.sizeL, AV.layable, AV.flat, AV.flatL, j163, j164, j166, j167, j170, j171, j172, j173, j174, j175, ↓reduceIte, Nat.reduceAdd, Nat.reduceEqDiff, j182, j185, j195, j196, j197, j211, kindOf, j214, j218, j219, j240, j253, j255, j263, j264, j266, j271, j272, j282, j284, j285, j292, j293, j294, j295, j311, j312, j316, j319, j325, j328, j337, j438, j440, j441, hi, hco, hcp, hcd, ht0, hun, hlv, e1, e2, e3, e4, e5, e6]
            exact ret false _ _ _ (by rw [hM]; rfl) rfl
          · skip
            simp -dsimp -implicitDefEqProofs only [↓j0, ↓j1, ↓j2, ↓j7, ↓j10, ↓j12, ↓j13, ↓j14, ↓j15, j17, j18, j20, ↓j25, ↓j27, ↓j29, ↓j30, j32, j33, ↓j38, ↓j39, ↓j40, ↓j43, ↓j45, ↓j48, ↓j54, ↓j76, ↓j79, j82, j83, ↓j89, ↓j91, ↓j124, j125, j127, j129, j130, j131, ↓j145, ↓j146, ↓j147, ↓j148, ↓j149, ↓j150, ↓j153, j157, partsAV, AV.proj, AV.offOf, AV.size, AV.sizeL, AV.layable, AV.flat, AV.flatL, j163, j164, j166, j167, j170, j171, j172, j173, j174, j175, ↓reduceIte, Nat.reduceAdd, Nat.reduceEqDiff, j182, j185, j195, j196, j197, j211, kindOf, j214, j218, j219, j240, j253, j255, j263, j264, j266, j271, j272, j282, j284, j285, j292, j293, j294, j295, j311, j312, j316, j319, j325, j328, j337, j438, j440, j441, hi, hco, hcp, hcd, ht0, hun, hlv, e1, e2, e3, e4, e5, e6]
            exact ret false _ _ _ (by rw [hM]; rfl) rfl
      · skip
        cases dl
        · skip
          cases dd
          · skip
            simp -dsimp -implicitDefEqProofs only [↓j0, ↓j1, ↓j2, ↓j7, ↓j10, ↓j12, ↓j13, ↓j14, ↓j15, j17, j18, j20, ↓j25, ↓j27, ↓j29, ↓j30, j32, j33, j34, ↓j38, ↓j39, ↓j40, ↓j43, ↓j45, ↓j48, ↓j54, ↓j76, ↓j79, j82, j83, ↓j89, ↓j91, j115, ↓j120, ↓j124, j125, j127, j129, j130, j131, j132, ↓j145, ↓j146, ↓j147, ↓j148, ↓j149, ↓j150, ↓j153, j157, partsAV, AV.proj, AV.offOf, AV.size, AV.sizeL, AV.layable, AV.flat, AV.flatL, j163, j164, j166, j167, j170, j171, j172, j173, j174, j175, ↓reduceIte, Nat.reduceAdd, Nat.reduceEqDiff, j182, j185, j195, j196, j197, j211, kindOf, j214, j218, j219, j240, j253, j255, j258, j263, j264, j266, j271, j272, j282, j284, j285, j292, j293, j294, j295, j311, j312, j316, j319, j325, j328, j331, j337, j438, j440, j441, hi, hco, hcp, hcd, ht0, hdl, hun, hlv, e1, e2, e3, e4, e5, e6]
            exact ret false _ _ _ (by rw [hM]; rfl) rfl
          · skip
            cases im
            · skip
              simp -dsimp -implicitDefEqProofs only [↓j0, ↓j1, ↓j2, ↓j7, ↓j10, ↓j12, ↓j13, ↓j14, ↓j15, j17, j18, j20, ↓j25, ↓j27, ↓j29, ↓j30, j32, j33, j34, ↓j38, ↓j39, ↓j40, ↓j43, ↓j45, ↓j48, ↓j54, ↓j76, ↓j79, j82, j83, ↓j89, ↓j91, j115, ↓j120, ↓j124, j125, j127, j129, j130, j131, j132, ↓j145, ↓j146, ↓j147, ↓j148, ↓j149, ↓j150, ↓j153, j157, partsAV, AV.proj, AV.offOf, AV.size, AV.sizeL, AV.layable, AV.flat, AV.flatL, j163, j164, j166, j167, j170, j171, j172, j173, j174, j175, ↓reduceIte, Nat.reduceAdd, Nat.reduceEqDiff, j182, j185, j195, j196, j197, j211, kindOf, j214, j218, j219, j240, j253, j255, j258, j263, j264, j266, j271, j272, j282, j284, j285, j292, j293, j294, j295, j311, j312, j316, j319, j325, j328, j331, j337, j438, j440, j441, hi, hco, hcp, hcd, ht0, hdl, hun, hlv, e1, e2, e3, e4, e5, e6]
              exact ret false _ _ _ (by rw [hM]; rfl) rfl
            · skip
              simp -dsimp -implicitDefEqProofs only [↓j0, ↓j1, ↓j2, ↓j7, ↓j10, ↓j12, ↓j13, ↓j14, ↓j15, j17, j18, j20, ↓j25, ↓j27, ↓j29, ↓j30, j32, j33, j34, ↓j38, ↓j39, ↓j40, ↓j43, ↓j45, ↓j48, ↓j54, ↓j76, ↓j79, j82, j83, ↓j89, ↓j91, j115, ↓j120, ↓j124, j125, j127, j129, j130, j131, j132, ↓j145, ↓j146, ↓j147, ↓j148, ↓j149, ↓j150, ↓j153, j157, partsAV, AV.proj, AV.offOf, AV.size, AV.sizeL, AV.layable, AV.flat, AV.flatL, j163, j164, j166, j167, j170, j171, j172, j173, j174, j175, ↓reduceIte, Nat.reduceAdd, Nat.reduceEqDiff, j182, j185, j195, j196, j197, j211, kindOf, j214, j218, j219, j240, j253, j255, j258, j263, j264, j266, j271, j272, j282, j284, j285, j292, j293, j294, j295, j311, j312, j316, j319, j325, j328, j331, j337, j438, j440, j441, hi, hco, hcp, hcd, ht0, hdl, hun, hlv, e1, e2, e3, e4, e5, e6]
              exact ret false _ _ _ (by rw [hM]; rfl) rfl
        · skip
          cases dd
          · skip
            simp -dsimp -implicitDefEqProofs only [↓j0, ↓j1, ↓j2, ↓j7, ↓j10, ↓j12, ↓j13, ↓j14, ↓j15, j17, j18, j20, ↓j25, ↓j27, ↓j29, ↓j30, j32, j33, j34, ↓j38, ↓j39, ↓j40, ↓j43, ↓j45, ↓j48, ↓j54, ↓j76, ↓j79, j82, j83, ↓j89, ↓j91, j115, ↓j120, ↓j124, j125, j127, j129, j130, j131, j132, ↓j145, ↓j146, ↓j147, ↓j148, ↓j149, ↓j150, ↓j153, j157, partsAV, AV.proj, AV.offOf, AV.size, AV.sizeL, AV.layable, AV.flat, AV.flatL, j163, j164, j166, j167, j170, j171, j172, j173, j174, j175, ↓reduceIte, Nat.reduceAdd, Nat.reduceEqDiff, j182, j185, j195, j196, j197, j211, kindOf, j214, j218, j219, j240, j253, j255, j258, j263, j264, j266, j271, j272, j282, j284, j285, j292, j293, j294, j295, j311, j312, j316, j319, j325, j328, j331, j337, j438, j440, j441, hi, hco, hcp, hcd, ht0, hdl, hun, hlv, e1, e2, e3, e4, e5, e6]
            exact ret false _ _ _ (by rw [hM]; rfl) rfl
          · skip
            cases im
            · skip
              simp -dsimp -implicitDefEqProofs only [↓j0, ↓j1, ↓j2, ↓j7, ↓j10, ↓j12, ↓j13, ↓j14, ↓j15, j17, j18, j20, ↓j25, ↓j27, ↓j29, ↓j30, j32, j33, j34, ↓j38, ↓j39, ↓j40, ↓j43, ↓j45, ↓j48, ↓j54, ↓j76, ↓j79, j82, j83, ↓j89, ↓j91, j115, ↓j120, ↓j124, j125, j127, j129, j130, j131, j132, ↓j145, ↓j146, ↓j147, ↓j148, ↓j149, ↓j150, ↓j153, j157, partsAV, AV.proj, AV.offOf, AV.size, AV.sizeL, AV.layable, AV.flat, AV.flatL, j163, j164, j166, j167, j170, j171, j172, j173, j174, j175, ↓reduceIte, Nat.reduceAdd, Nat.reduceEqDiff, j182, j185, j195, j196, j197, j211, kindOf, j214, j218, j219, j240, j253, j255, j258, j263, j264, j266, j271, j272, j282, j284, j285, j292, j293, j294, j295, j311, j312, j316, j319, j325, j328, j331, j337, j438, j440, j441, hi, hco, hcp, hcd, ht0, hdl, hun, hlv, e1, e2, e3, e4, e5, e6]
              exact ret false _ _ _ (by rw [hM]; rfl) rfl
            · skip
              cases s0
              · skip
                simp -dsimp -implicitDefEqProofs only [↓j0, ↓j1, ↓j2, ↓j7, ↓j10, ↓j12, ↓j13, ↓j14, ↓j15, j17, j18, j20, ↓j25, ↓j27, ↓j29, ↓j30, j32, j33, j34, ↓j38, ↓j39, ↓j40, ↓j43, ↓j45, ↓j48, ↓j54, ↓j76, ↓j79, j82, j83, ↓j89, ↓j91, j115, ↓j120, ↓j124, j125, j127, j129, j130, j131, j132, ↓j145, ↓j146, ↓j147, ↓j148, ↓j149, ↓j150, ↓j153, j157, partsAV, AV.proj, AV.offOf, AV.size, AV.sizeL, AV.layable, AV.flat, AV.flatL, j163, j164, j166, j167, j170, j171, j172, j173, j174, j175, ↓reduceIte, Nat.reduceAdd, Nat.reduceEqDiff, j182, j185, j195, j196, j197, j211, kindOf, j214, j218, j219, j240, j253, j255, j258, j263, j264, j266, j271, j272, j282, j284, j285, j292, j293, j294, j295, j311, j312, j316, j319, j325, j328, j331, j334, j337, j438, j440, j441, hi, hco, hcp, hcd, ht0, hs0, hdl, hun, hlv, e1, e2, e3, e4, e5, e6]
                exact ret false _ _ _ (by rw [hM]; rfl) rfl
              · skip
                cases od
                · skip
                  simp -dsimp -implicitDefEqProofs only [↓j0, ↓j1, ↓j2, ↓j7, ↓j10, ↓j12, ↓j13, ↓j14, ↓j15, j17, j18, j20, ↓j25, ↓j27, ↓j29, ↓j30, j32, j33, j34, ↓j38, ↓j39, ↓j40, ↓j43, ↓j45, ↓j48, ↓j54, ↓j76, ↓j79, j83, ↓j89, ↓j91, j115, ↓j120, ↓j124, j125, j127, j129, j130, j131, j132, ↓j145, ↓j146, ↓j147, ↓j148, ↓j149, ↓j150, ↓j153, j157, partsAV, AV.proj, AV.offOf, AV.size, AV.sizeL, AV.layable, AV.flat, AV.flatL, j163, j164, j166, j167, j170, j171, j172, j173, j174, j175, ↓reduceIte, Nat.reduceAdd, Nat.reduceEqDiff, j182, j185, j195, j196, j197, j211, kindOf, j214, j218, j219, j240, j253, j255, j258, j263, j264, j266, j271, j272, j282, j284, j285, j292, j293, j294, j295, j311, j312, j316, j319, j325, j328, j331, j334, j337, j438, j440, j441, hi, hco, hcp, hcd, ht0, hs0, hdl, hun, hlv, e1, e2, e3, e4, e5, e6]
                  exact ret false _ _ _ (by rw [hM]; rfl) rfl
                · skip
                  simp -dsimp -implicitDefEqProofs only [↓j0, ↓j1, ↓j2, ↓j7, ↓j10, ↓j12, ↓j13, ↓j14, ↓j15, j17, j18, j20, ↓j25, ↓j27, ↓j29, ↓j30, j32, j33, j34, ↓j38, ↓j39, ↓j40, ↓j43, ↓j45, ↓j48, ↓j54, ↓j76, ↓j79, j83, ↓j89, ↓j91, j115, ↓j120, ↓j124, j125, j127, j129, j130, j131, j132, ↓j145, ↓j146, ↓j147, ↓j148, ↓j149, ↓j150, ↓j153, j157, partsAV, AV.proj, AV.offOf, AV.size, AV.sizeL, AV.layable, AV.flat, AV.flatL, j163, j164, j166, j167, j170, j171, j172, j173, j174, j175, ↓reduceIte, Nat.reduceAdd, Nat.reduceEqDiff, j182, j185, j195, j196, j197, j211, kindOf, j214, j218, j219, j240, j253, j255, j258, j263, j264, j266, j271, j272, j282, j284, j285, j292, j293, j294, j295, j311, j312, j316, j319, j325, j328, j331, j334, j337, j438, j440, j441, hi, hco, hcp, hcd, ht0, hs0, hdl, hun, hlv, e1, e2, e3, e4, e5, e6]
                  exact ret true _ _ _ (by rw [hM]; rfl) rfl
  have e6 : ((r.kind : Int) == 6) = false := by rw [beq_eq_false_iff_ne]; omega
  rw [if_neg k1, if_neg k2, if_neg k3, if_neg (by omega), if_neg k6] at hM
  cases t0
  · skip
    simp -dsimp -implicitDefEqProofs only [↓j0, ↓j1, ↓j2, ↓j7, ↓j9, ↓j10, ↓j12, ↓j13, ↓j14, ↓j15, j17, j18, j20, ↓j25, ↓j27, ↓j29, ↓j30, j32, j33, ↓j38, ↓j39, ↓j40, ↓j43, ↓j45, ↓j48, ↓j54, ↓j76, ↓j79, j82, ↓j89, ↓j91, ↓j124, j125, j127, j129, j130, j131, ↓j145, ↓j146, ↓j148, ↓j149, ↓j150, ↓j153, j157, partsAV, AV.proj, AV.offOf, AV.size, AV.sizeL, AV.layable, AV.flat, AV.flatL, j163, j164, j166, j167, j170, j171, j172, j173, j174, j175, ↓reduceIte, Nat.reduceAdd, Nat.reduceEqDiff, j182, j185, j195, j196, j197, j211, kindOf, j214, j218, j219, j240, j253, j255, j266, j282, j294, j295, j311, j312, j316, j319, j325, j337, j441, hi, hco, ht0, hun, hlv, e1, e2, e3, e4, e5, e6]
    exact ret false _ _ _ (by rw [hM]) rfl
  · skip
    cases pv
    · skip
      simp -dsimp -implicitDefEqProofs only [↓j0, ↓j1, ↓j2, ↓j7, ↓j9, ↓j10, ↓j12, ↓j13, ↓j14, ↓j15, j17, j18, j20, ↓j25, ↓j27, ↓j29, ↓j30, j32, j33, ↓j38, ↓j39, ↓j40, ↓j43, ↓j45, ↓j48, ↓j54, ↓j76, ↓j79, j82, j83, ↓j89, ↓j91, ↓j124, j125, j127, j129, j130, j131, ↓j145, ↓j146, ↓j147, ↓j148, ↓j149, ↓j150, ↓j153, j157, partsAV, AV.proj, AV.offOf, AV.size, AV.sizeL, AV.layable, AV.flat, AV.flatL, j163, j164, j166, j167, j170, j171, j172, j173, j174, j175, ↓reduceIte, Nat.reduceAdd, Nat.reduceEqDiff, j182, j185, j195, j196, j197, j211, kindOf, j214, j218, j219, j240, j253, j255, j266, j282, j284, j285, j292, j293, j294, j295, j311, j312, j316, j319, j325, j328, j337, j440, j441, hi, hco, hcp, ht0, hun, hlv, e1, e2, e3, e4, e5, e6]
      exact ret false _ _ _ (by rw [hM]) rfl
    · skip
      cases dl
      · skip
        simp -dsimp -implicitDefEqProofs only [↓j0, ↓j1, ↓j2, ↓j7, ↓j9, ↓j10, ↓j12, ↓j13, ↓j14, ↓j15, j17, j18, j20, ↓j25, ↓j27, ↓j29, ↓j30, j32, j33, j34, ↓j38, ↓j39, ↓j40, ↓j43, ↓j45, ↓j48, ↓j54, ↓j76, ↓j79, j83, ↓j89, ↓j91, j115, ↓j120, ↓j124, j125, j127, j129, j130, j131, j132, ↓j145, ↓j146, ↓j147, ↓j148, ↓j149, ↓j150, ↓j153, j157, partsAV, AV.proj, AV.offOf, AV.size, AV.sizeL, AV.layable, AV.flat, AV.flatL, j163, j164, j166, j167, j170, j171, j172, j173, j174, j175, ↓reduceIte, Nat.reduceAdd, Nat.reduceEqDiff, j182, j185, j195, j196, j197, j211, kindOf, j214, j218, j219, j240, j253, j255, j258, j266, j282, j284, j285, j292, j293, j294, j295, j311, j312, j316, j319, j325, j328, j331, j337, j440, j441, hi, hco, hcp, ht0, hdl, hun, hlv, e1, e2, e3, e4, e5, e6]
        exact ret false _ _ _ (by rw [hM]) rfl
      · skip
        simp -dsimp -implicitDefEqProofs only [↓j0, ↓j1, ↓j2, ↓j7, ↓j9, ↓j10, ↓j12, ↓j13, ↓j14, ↓j15, j17, j18, j20, ↓j25, ↓j27, ↓j29, ↓j30, j32, j33, j34, ↓j38, ↓j39, ↓j40, ↓j43, ↓j45, ↓j48, ↓j54, ↓j76, ↓j79, j83, ↓j89, ↓j91, j115, ↓j120, ↓j124, j125, j127, j129, j130, j131, j132, ↓j145, ↓j146, ↓j147, ↓j148, ↓j149, ↓j150, ↓j153, j157, partsAV, AV.proj, AV.offOf, AV.size, AV.sizeL, AV.layable, AV.flat, AV.flatL, j163, j164, j166, j167, j170, j171, j172, j173, j174, j175, ↓reduceIte, Nat.reduceAdd, Nat.reduceEqDiff, j182, j185, j195, j196, j197, j211, kindOf, j214, j218, j219, j240, j253, j255, j258, j266, j282, j284, j285, j292, j293, j294, j295, j311, j312, j316, j319, j325, j328, j331, j337, j440, j441, hi, hco, hcp, ht0, hdl, hun, hlv, e1, e2, e3, e4, e5, e6]
        exact ret false _ _ _ (by rw [hM]) rfl
end Go.Proofs.Ytimdepgenefkmaa
