import Derived.Test.YtimdepgenefkmaaQ2
set_option maxRecDepth 8000
set_option linter.unusedVariables false
set_option linter.unusedSimpArgs false
namespace Go.Proofs.Ytimdepgenefkmaa
open Go Go.RowKit

def Rc.eqb (a b : Rc) : Bool := ((a.kind : Int) == (b.kind : Int)) && ((a.undo == b.undo) && (((a.no : Int) == (b.no : Int)) && ((a.image == b.image) && (((a.ts : Int) == (b.ts : Int)) && (((a.ppg : Int) == (b.ppg : Int)) && (((a.psl.toNat : Int) == (b.psl.toNat : Int)) && (strEq ⟨a.delta.toArray⟩ ⟨b.delta.toArray⟩ && (((a.slot : Int) == (b.slot : Int)) && a.old.eqb b.old))))))))
theorem Rc.eqb_iff {a b : Rc} : a.eqb b = true ↔ a = b := by
  obtain ⟨a1, a2, a3, a4, a5, a6, a7, a8, a9, a10⟩ := a
  obtain ⟨b1, b2, b3, b4, b5, b6, b7, b8, b9, b10⟩ := b
  simp only [Rc.eqb, Bool.and_eq_true, beq_iff_eq, Rc.mk.injEq, strEq_iff, Od.eqb_iff]
  constructor
  · rintro ⟨h1, h2, h3, h4, h5, h6, h7, h8, h9, h10⟩
    refine ⟨by omega, h2, by omega, h4, by omega, by omega, UInt8.toNat_inj.1 (by omega), ?_, by omega, h10⟩
    have := congrArg (fun x => x.data.toList) h8
    simpa using this
  · rintro ⟨rfl, rfl, rfl, rfl, rfl, rfl, rfl, rfl, rfl, rfl⟩
    exact ⟨rfl, rfl, rfl, rfl, rfl, rfl, rfl, rfl, rfl, rfl⟩
theorem bare_ok {r : Rc} (h : r.Ok) : (bareP r).image.length = 224 := by
  unfold bareP
  split
  · exact h.image
  split
  · exact zb_len 224
  split
  · exact zb_len 224
  split
  · exact zb_len 224
  split
  · exact zb_len 224
  · exact zb_len 224
def mayR (r : Rc) : Bool := decide (1 ≤ r.kind) && (decide (r.kind ≤ 6) && ((bareP r).eqb r && (decide (r.delta.length ≤ 66) && decide (r.old.delta.length ≤ 66))))
theorem cellsEq_app : ∀ {xs ys xs' ys' : List AV} {a b : Bool}, cellsEq xs ys = some a → cellsEq xs' ys' = some b → cellsEq (xs ++ xs') (ys ++ ys') = some (a && b)
  | [], [], xs', ys', a, b, h, h' => by simp only [cellsEq, Option.some.injEq] at h; subst h; simpa using h'
  | x :: xs, y :: ys, xs', ys', a, b, h, h' => by
    simp only [cellsEq] at h
    cases h1 : scEq x y with
    | none => simp [h1] at h
    | some c =>
      cases h2 : cellsEq xs ys with
      | none => simp [h1, h2] at h
      | some e =>
        simp only [h1, h2, Option.some.injEq] at h
        subst h
        simp only [List.cons_append, cellsEq, h1, cellsEq_app h2 h', Bool.and_assoc]
  | [], _ :: _, _, _, _, _, h, _ => by simp [cellsEq] at h
  | _ :: _, [], _, _, _, _, h, _ => by simp [cellsEq] at h
theorem cellsEq_rc (q r : Rc) (h : q.image.length = r.image.length) :
    cellsEq (AV.int .u8 q.kind :: AV.bool q.undo :: AV.int .u16 q.no :: (List.map byteAV q.image ++ [AV.int .u32 q.ts, AV.int .u16 q.ppg, AV.int .u8 q.psl.toNat, AV.str ⟨q.delta.toArray⟩, AV.int .u8 q.slot, AV.bool q.old.live, AV.int .u16 q.old.page, AV.int .u32 q.old.ts, AV.int .u16 q.old.npg, AV.int .u8 q.old.nsl.toNat, AV.str ⟨q.old.delta.toArray⟩]))
      (AV.int .u8 r.kind :: AV.bool r.undo :: AV.int .u16 r.no :: (List.map byteAV r.image ++ [AV.int .u32 r.ts, AV.int .u16 r.ppg, AV.int .u8 r.psl.toNat, AV.str ⟨r.delta.toArray⟩, AV.int .u8 r.slot, AV.bool r.old.live, AV.int .u16 r.old.page, AV.int .u32 r.old.ts, AV.int .u16 r.old.npg, AV.int .u8 r.old.nsl.toNat, AV.str ⟨r.old.delta.toArray⟩])) = some (q.eqb r) :=
  cellsEq_cons scEq_int (cellsEq_cons (a := q.undo == r.undo) rfl (cellsEq_cons scEq_int (cellsEq_app (cellsEq_bytes h) (cellsEq_cons scEq_int (cellsEq_cons scEq_int (cellsEq_cons scEq_int (cellsEq_cons (a := strEq ⟨q.delta.toArray⟩ ⟨r.delta.toArray⟩) rfl (cellsEq_cons scEq_int (cellsEq_od q.old r.old)))))))))
theorem kinds_map (l : List UInt8) : (l.map byteAV).map kindOf = List.replicate l.length (some K3.i) := by
  induction l with
  | nil => rfl
  | cons b l ih => rw [List.map_cons, List.map_cons, ih]; rfl
theorem fok35 : fnOk Try.prog 35 = true := by kernel_rfl
theorem fok16 : fnOk Try.prog 16 = true := by kernel_rfl
theorem mayR_spec (r : Rc) (h : r.Ok) : ACall Try.prog 16 [r.av] [] (.bool (mayR r)) [] := by
  refine ACall.run (Z := Z) (N := 30) mixed hZ Try.func16 rfl rfl (by kernel_rfl) (by simp) args_rc 0 ?_
  have hz := zb_len 224
  have hi := h.image
  have hd := h.delta
  have hod := h.old.delta
  have ret : ∀ (b : Bool) (t : Env) (H : Heap) (m : Nat), b = mayR r → look t 2 = some (.bool b) → Final Try.prog Try.f16 (.bool (mayR r)) [] .ret ⟨30, t, H, m⟩ := fun b t H m hb h1 => by
    subst hb
    exact Final.one (.inr rfl) (r := .tmp 2) rfl ⟨h1, fun vs h => by cases h⟩ (fun vs h => by cases h) (fun vs h => by cases h) (.same _ trivial)
  by_cases k1 : 1 ≤ r.kind
  · have e1 : decide ((1 : Int) ≤ (r.kind : Int)) = true := decide_eq_true (by omega)
    by_cases k2 : r.kind ≤ 6
    · have e2 : decide ((r.kind : Int) ≤ 6) = true := decide_eq_true (by omega)
      have hbi := bare_ok h
      have hbs := bare_spec r h
      obtain ⟨q, hq⟩ : ∃ q, bareP r = q := ⟨_, rfl⟩
      rw [hq] at hbi hbs
      simp -dsimp -implicitDefEqProofs only [↓j0, ↓j1, ↓j4, ↓j5, ↓j7, ↓j8, ↓j12, ↓j15, j17, j18, j20, j24, ↓j25, ↓j27, ↓j29, ↓j30, j32, j33, ↓j38, ↓j39, ↓j40, ↓j42, ↓j43, ↓j45, ↓j48, ↓j53, ↓j76, ↓j79, j83, ↓j89, j129, j130, ↓j145, ↓j146, ↓j147, ↓j150, ↓j153, j160, j162, AV.proj, AV.offOf, AV.size, AV.sizeL, AV.layable, argEnv, j163, j164, j167, j170, j171, j172, j174, j175, ↓reduceIte, Nat.reduceAdd, Nat.reduceEqDiff, j182, j185, j196, j197, j240, j255, j313, j314, j316, hi, e1, e2]
      refine CallTo.pure (args := [r.av]) rfl fok35 (by simp -dsimp -implicitDefEqProofs only [↓j25, ↓j29, j173, j174, ↓reduceIte]) (fun x hx => (args_rc x hx).2) hbs ?_
      simp -dsimp -implicitDefEqProofs only [↓j5, j17, j18, j20, j24, ↓j25, ↓j27, ↓j29, ↓j43, ↓j48, ↓j76, ↓j91, j129, ↓j145, ↓j146, ↓j147, ↓j150, ↓j153, AV.proj, AV.offOf, AV.size, AV.sizeL, AV.flat, AV.flatL, j163, j164, j170, j171, j172, j174, j175, ↓reduceIte, Nat.reduceAdd, Nat.reduceEqDiff, j182, j197, j211, j240, j241, j313, j314, j339, hi]
      have hce := cellsEq_rc q r (by omega)
      obtain ⟨e, he⟩ : ∃ e, q.eqb r = e := ⟨_, rfl⟩
      rw [he] at hce
      have hm : mayR r = (e && (decide (r.delta.length ≤ 66) && decide (r.old.delta.length ≤ 66))) := by
        unfold mayR; rw [hq, he, decide_eq_true k1, decide_eq_true k2]; rfl
      simp -dsimp -implicitDefEqProofs only [↓j145, AV.flat, AV.flatL, j170, j171, j172, j173, j174, j184, kindOf, j241, j314, j340, hce]
      refine ⟨?_, ?_⟩
      · rw [List.map_append, kinds_map, hbi]; rfl
      simp -dsimp -implicitDefEqProofs only [↓j4, ↓j5, j17, j18, j20, j24, ↓j25, ↓j29, ↓j30, j32, ↓j38, ↓j40, j83, ↓j145, ↓j150, j163, j164, j170, j171, j172, j174, j175, ↓reduceIte, Nat.reduceEqDiff, j195]
      cases e
      · simp -dsimp -implicitDefEqProofs only [↓j3, ↓j4, ↓j5, j17, j18, j20, j24, ↓j25, ↓j29, ↓j30, j32, ↓j38, ↓j39, ↓j40, j82, ↓j145, ↓j148, ↓j150, j163, j164, j170, j171, j172, j174, j175, ↓reduceIte, Nat.reduceEqDiff]
        refine ⟨by kernel_rfl, ?_⟩
        simp -dsimp -implicitDefEqProofs only [↓j10]
        exact ret _ _ _ _ hm.symm rfl
      by_cases k3 : r.delta.length ≤ 66
      · have e3 : decide ((r.delta.length : Int) ≤ 66) = true := decide_eq_true (by omega)
        have e4 : decide ((r.old.delta.length : Int) ≤ 66) = decide (r.old.delta.length ≤ 66) := by rw [decide_eq_decide]; omega
        rw [decide_eq_true k3] at hm
        simp -dsimp -implicitDefEqProofs only [↓j3, ↓j4, ↓j5, j17, j18, j20, j24, ↓j25, ↓j27, ↓j29, ↓j30, j32, j33, ↓j38, ↓j39, ↓j40, ↓j43, ↓j45, ↓j48, ↓j58, ↓j59, ↓j76, ↓j79, j83, ↓j89, j132, j141, ↓j145, ↓j146, ↓j147, ↓j150, ↓j153, j160, AV.proj, AV.offOf, AV.size, AV.sizeL, j163, j164, j166, j167, j170, j171, j172, j174, j175, ↓reduceIte, Nat.reduceAdd, Nat.reduceEqDiff, j182, j185, j196, j197, j240, j258, j259, j309, j331, j337, hi, str_bytes, e3, e4]
        refine ⟨by kernel_rfl, ?_⟩
        simp -dsimp -implicitDefEqProofs only [↓j10]
        exact ret _ _ _ _ hm.symm rfl
      · have e3 : decide ((r.delta.length : Int) ≤ 66) = false := decide_eq_false (by omega)
        rw [decide_eq_false k3] at hm
        simp -dsimp -implicitDefEqProofs only [↓j3, ↓j4, ↓j5, j17, j18, j20, j24, ↓j25, ↓j27, ↓j29, ↓j30, j32, j33, ↓j38, ↓j39, ↓j40, ↓j43, ↓j45, ↓j48, ↓j58, ↓j59, ↓j76, ↓j79, j82, j83, ↓j89, j132, j141, ↓j145, ↓j146, ↓j147, ↓j148, ↓j150, ↓j153, j160, AV.proj, AV.offOf, AV.size, AV.sizeL, j163, j164, j166, j167, j170, j171, j172, j174, j175, ↓reduceIte, Nat.reduceAdd, Nat.reduceEqDiff, j182, j185, j196, j197, j240, j258, j259, j331, hi, str_bytes, e3]
        refine ⟨by kernel_rfl, ?_⟩
        simp -dsimp -implicitDefEqProofs only [↓j10]
        exact ret _ _ _ _ hm.symm rfl
    · have e2 : decide ((r.kind : Int) ≤ 6) = false := decide_eq_false (by omega)
      simp -dsimp -implicitDefEqProofs only [↓j0, ↓j1, ↓j3, ↓j4, ↓j5, ↓j7, ↓j8, ↓j12, ↓j15, j17, j18, j20, j24, ↓j25, ↓j27, ↓j29, ↓j30, j32, j33, ↓j38, ↓j39, ↓j40, ↓j42, ↓j43, ↓j45, ↓j48, ↓j76, ↓j79, j82, j83, ↓j89, j130, ↓j145, ↓j146, ↓j147, ↓j148, ↓j150, ↓j153, j160, j162, AV.proj, AV.offOf, AV.sizeL, AV.layable, argEnv, j163, j164, j167, j170, j171, j172, j174, j175, ↓reduceIte, Nat.reduceEqDiff, j182, j185, j196, j197, j255, j316, e1, e2]
      refine ⟨by kernel_rfl, ?_⟩
      simp -dsimp -implicitDefEqProofs only [↓j10]
      exact ret false _ _ _ (by unfold mayR; rw [decide_eq_false k2]; simp) rfl
  · have e1 : decide ((1 : Int) ≤ (r.kind : Int)) = false := decide_eq_false (by omega)
    simp -dsimp -implicitDefEqProofs only [↓j0, ↓j1, ↓j3, ↓j4, ↓j5, ↓j7, ↓j8, ↓j12, ↓j15, j17, j18, j20, j24, ↓j25, ↓j27, ↓j29, ↓j30, j32, j33, ↓j38, ↓j39, ↓j40, ↓j42, ↓j43, ↓j45, ↓j48, ↓j76, ↓j79, j82, ↓j89, j130, ↓j145, ↓j146, ↓j148, ↓j150, ↓j153, j162, AV.proj, AV.offOf, AV.sizeL, AV.layable, argEnv, j163, j164, j167, j170, j171, j172, j174, j175, ↓reduceIte, Nat.reduceEqDiff, j182, j185, j196, j197, j255, j316, e1]
    refine ⟨by kernel_rfl, ?_⟩
    simp -dsimp -implicitDefEqProofs only [↓j10]
    exact ret false _ _ _ (by unfold mayR; rw [decide_eq_false k1]; simp) rfl
end Go.Proofs.Ytimdepgenefkmaa
