import Derived.Test.YtimdepgenefkmaaQ1
set_option maxRecDepth 8000
set_option linter.unusedVariables false
set_option linter.unusedSimpArgs false
namespace Go.Proofs.Ytimdepgenefkmaa
open Go Go.RowKit

structure Rc where
  kind : Nat
  undo : Bool
  no : Nat
  image : List UInt8
  ts : Nat
  ppg : Nat
  psl : UInt8
  delta : List UInt8
  slot : Nat
  old : Od
abbrev Rc.av (r : Rc) : AV := .agg [.int .u8 r.kind, .agg [.bool r.undo, .int .u16 r.no], arrAV r.image, .int .u32 r.ts, .agg [.int .u16 r.ppg, .int .u8 r.psl.toNat], .str ⟨r.delta.toArray⟩, .int .u8 r.slot, r.old.av]
structure Rc.Ok (r : Rc) : Prop where
  kind : r.kind < 256
  no : r.no < 65536
  image : r.image.length = 224
  ts : r.ts < 4294967296
  ppg : r.ppg < 65536
  delta : r.delta.length ≤ 9223372036854775807
  slot : r.slot < 256
  old : r.old.Ok
def Rc.zero : Rc := ⟨0, false, 0, zb 224, 0, 0, 0, [], 0, .zero⟩
def bareP (r : Rc) : Rc :=
  if r.kind = 1 then { Rc.zero with kind := r.kind, undo := r.undo, no := r.no, image := r.image } else
  if r.kind = 2 then { Rc.zero with kind := r.kind, no := r.no, ts := r.ts, ppg := r.ppg, psl := r.psl, delta := r.delta } else
  if r.kind = 3 then { Rc.zero with kind := r.kind, undo := true, no := r.no, slot := r.slot, old := { r.old with live := true } } else
  if r.kind = 4 ∨ r.kind = 5 then { Rc.zero with kind := r.kind, undo := true, no := r.no, slot := r.slot } else
  if r.kind = 6 then { Rc.zero with kind := r.kind, ts := r.ts } else { Rc.zero with kind := r.kind }
theorem on_od (S : Nat → Prop) (o : Od) : AV.on S o.av := ⟨trivial, trivial, trivial, ⟨trivial, trivial, trivial⟩, trivial, trivial⟩
theorem args_rc {r : Rc} : ∀ x, x ∈ [r.av] → AV.on (fun _ => False) x ∧ ∀ vs, x ≠ .tuple vs := fun x hx => by
  simp only [List.mem_singleton] at hx; subst hx
  exact ⟨⟨trivial, ⟨trivial, trivial, trivial⟩, on_bytes _ _, trivial, ⟨trivial, trivial, trivial⟩, trivial, trivial, on_od _ _, trivial⟩, fun vs h => by cases h⟩
theorem on_rc (S : Nat → Prop) (r : Rc) : AV.on S r.av := ⟨trivial, ⟨trivial, trivial, trivial⟩, on_bytes _ _, trivial, ⟨trivial, trivial, trivial⟩, trivial, trivial, on_od _ _, trivial⟩
theorem bare_spec (r : Rc) (h : r.Ok) : ACall Try.prog 35 [r.av] [] (bareP r).av [] := by
  refine ACall.run (Z := Z) (N := 57) mixed hZ Try.func35 rfl rfl (by kernel_rfl) (by simp) args_rc 0 ?_
  have hz := zb_len 224
  have hi := h.image
  have ret : ∀ (q : Rc) (t : Env) (H : Heap) (m : Nat), q = bareP r → look t 2 = some (.ptr 1 0 []) → Heap.get H 1 = some (.cells q.av) → q.image.length = 224 → Final Try.prog Try.f35 (bareP r).av [] .ret ⟨57, t, H, m⟩ := fun q t H m hq h1 h2 h3 => by
    subst hq
    exact Final.one (.inr rfl) (r := .cell 2 34) rfl ⟨1, 0, [], _, h1, h2, rfl, rfl, by simp -dsimp -implicitDefEqProofs only [j129, AV.size, AV.sizeL, Nat.reduceAdd, j182, j197, j240, j313, j314, h3]⟩ (fun vs h => by cases h) (fun vs h => by cases h) (.same _ (on_rc _ _))
  by_cases k1 : r.kind = 1
  · have e1 : ((r.kind : Int) == 1) = true := by rw [beq_iff_eq]; omega
    simp -dsimp -implicitDefEqProofs only [↓j0, ↓j1, ↓j3, ↓j4, ↓j7, ↓j8, ↓j11, ↓j12, ↓j13, ↓j14, ↓j15, j17, j18, j19, j20, j21, j22, j23, j24, ↓j25, ↓j27, ↓j29, ↓j30, j33, ↓j39, ↓j41, ↓j42, ↓j43, ↓j44, ↓j45, ↓j48, ↓j54, ↓j76, ↓j78, ↓j79, ↓j89, ↓j124, j125, j126, j127, j128, j129, j130, ↓j145, ↓j146, ↓j147, ↓j149, ↓j153, j157, partsAV, AV.proj, AV.offOf, AV.upd, AV.size, AV.sizeL, AV.layable, argEnv, j163, j164, j166, j167, j168, j169, j170, j171, j172, j173, j174, j179, j180, reduceCtorEq, ↓reduceIte, Nat.reduceAdd, Nat.reduceEqDiff, j182, j183, j185, j196, j197, j213, j214, j215, j217, j240, j255, j263, j264, j273, j274, j313, j316, j317, j319, j322, j424, j442, hz, hi, e1]
    refine ⟨by kernel_rfl, ?_⟩
    simp -dsimp -implicitDefEqProofs only [↓j0, ↓j1, ↓j7, ↓j10, ↓j11, ↓j12, ↓j15, j17, j18, j19, j20, j21, j22, j23, ↓j25, ↓j27, ↓j29, ↓j43, ↓j44, ↓j76, ↓j78, j129, ↓j145, ↓j146, ↓j153, AV.proj, AV.offOf, AV.upd, AV.size, AV.sizeL, AV.layable, j170, j171, reduceCtorEq, ↓reduceIte, Nat.reduceAdd, Nat.reduceEqDiff, j182, j197, j240, j313, j314, hz, hi]
    refine ret { Rc.zero with kind := r.kind, undo := r.undo, no := r.no, image := r.image } _ _ _ (by rw [bareP, if_pos k1]) ?_ ?_ ?_
    · rfl
    · rfl
    · first | exact hi | exact zb_len 224
  have e1 : ((r.kind : Int) == 1) = false := by rw [beq_eq_false_iff_ne]; omega
  by_cases k2 : r.kind = 2
  · have e2 : ((r.kind : Int) == 2) = true := by rw [beq_iff_eq]; omega
    simp -dsimp -implicitDefEqProofs only [↓j0, ↓j1, ↓j3, ↓j4, ↓j7, ↓j8, ↓j9, ↓j11, ↓j12, ↓j13, ↓j14, ↓j15, j17, j18, j19, j20, j21, j22, j23, j24, ↓j25, ↓j27, ↓j29, ↓j30, j33, ↓j39, ↓j41, ↓j42, ↓j43, ↓j44, ↓j45, ↓j48, ↓j54, ↓j76, ↓j78, ↓j79, ↓j89, ↓j124, j125, j126, j127, j128, j129, j130, j132, ↓j145, ↓j146, ↓j147, ↓j148, ↓j149, ↓j153, j157, partsAV, AV.proj, AV.offOf, AV.upd, AV.size, AV.sizeL, AV.layable, argEnv, j163, j164, j166, j167, j168, j169, j170, j171, j172, j173, j174, j179, j180, reduceCtorEq, ↓reduceIte, Nat.reduceAdd, Nat.reduceEqDiff, j182, j183, j185, j196, j197, j213, j214, j215, j217, j240, j255, j257, j258, j260, j261, j269, j281, j282, j284, j285, j313, j316, j317, j319, j325, j328, j331, j424, j442, hz, hi, e1, e2]
    refine ⟨by kernel_rfl, ?_⟩
    simp -dsimp -implicitDefEqProofs only [↓j0, ↓j1, ↓j7, ↓j10, ↓j11, ↓j12, ↓j15, j17, j18, j19, j20, j21, j22, j23, ↓j25, ↓j27, ↓j29, ↓j43, ↓j44, ↓j76, ↓j78, j129, ↓j145, ↓j146, ↓j153, AV.proj, AV.offOf, AV.upd, AV.size, AV.sizeL, AV.layable, j170, j171, reduceCtorEq, ↓reduceIte, Nat.reduceAdd, Nat.reduceEqDiff, j182, j197, j240, j313, j314, hz]
    refine ret { Rc.zero with kind := r.kind, no := r.no, ts := r.ts, ppg := r.ppg, psl := r.psl, delta := r.delta } _ _ _ (by rw [bareP, if_neg k1, if_pos k2]) ?_ ?_ ?_
    · rfl
    · rfl
    · first | exact hi | exact zb_len 224
  have e2 : ((r.kind : Int) == 2) = false := by rw [beq_eq_false_iff_ne]; omega
  by_cases k3 : r.kind = 3
  · have e3 : ((r.kind : Int) == 3) = true := by rw [beq_iff_eq]; omega
    simp -dsimp -implicitDefEqProofs only [↓j0, ↓j1, ↓j3, ↓j4, ↓j7, ↓j8, ↓j9, ↓j11, ↓j12, ↓j13, ↓j14, ↓j15, j17, j18, j19, j20, j21, j22, j23, j24, ↓j25, ↓j27, ↓j29, ↓j30, j32, j33, ↓j39, ↓j41, ↓j42, ↓j43, ↓j44, ↓j45, ↓j48, ↓j54, ↓j76, ↓j78, ↓j79, ↓j89, ↓j124, j125, j126, j127, j128, j129, j130, ↓j145, ↓j146, ↓j147, ↓j148, ↓j149, ↓j153, j157, partsAV, AV.proj, AV.offOf, AV.upd, AV.size, AV.sizeL, AV.layable, argEnv, j163, j164, j166, j167, j168, j169, j170, j171, j172, j173, j174, j179, j180, reduceCtorEq, ↓reduceIte, Nat.reduceAdd, Nat.reduceEqDiff, j182, j183, j185, j196, j197, j213, j214, j215, j216, j217, j240, j252, j254, j255, j261, j263, j267, j269, j270, j294, j295, j297, j313, j316, j317, j319, j334, j337, j424, j438, j442, hz, hi, e1, e2, e3]
    refine ⟨by kernel_rfl, ?_⟩
    simp -dsimp -implicitDefEqProofs only [↓j0, ↓j1, ↓j7, ↓j10, ↓j11, ↓j12, ↓j15, j17, j18, j19, j20, j21, j22, j23, ↓j25, ↓j27, ↓j29, ↓j43, ↓j44, ↓j76, ↓j78, j129, ↓j145, ↓j146, ↓j153, AV.proj, AV.offOf, AV.upd, AV.size, AV.sizeL, AV.layable, j170, j171, reduceCtorEq, ↓reduceIte, Nat.reduceAdd, Nat.reduceEqDiff, j182, j197, j240, j313, j314, hz]
    refine ret { Rc.zero with kind := r.kind, undo := true, no := r.no, slot := r.slot, old := { r.old with live := true } } _ _ _ (by rw [bareP, if_neg k1, if_neg k2, if_pos k3]) ?_ ?_ ?_
    · rfl
    · rfl
    · first | exact hi | exact zb_len 224
  have e3 : ((r.kind : Int) == 3) = false := by rw [beq_eq_false_iff_ne]; omega
  by_cases k4 : r.kind = 4
  · have e4 : ((r.kind : Int) == 4) = true := by rw [beq_iff_eq]; omega
    simp -dsimp -implicitDefEqProofs only [↓j0, ↓j1, ↓j3, ↓j4, ↓j7, ↓j8, ↓j9, ↓j11, ↓j12, ↓j13, ↓j14, ↓j15, j17, j18, j19, j20, j21, j22, j23, j24, ↓j25, ↓j27, ↓j29, ↓j30, j32, j33, ↓j39, ↓j41, ↓j42, ↓j43, ↓j44, ↓j45, ↓j48, ↓j54, ↓j76, ↓j78, ↓j79, ↓j89, ↓j124, j125, j126, j127, j128, j130, ↓j145, ↓j146, ↓j147, ↓j148, ↓j149, ↓j153, j157, partsAV, AV.proj, AV.offOf, AV.upd, AV.size, AV.sizeL, AV.layable, argEnv, j163, j164, j166, j167, j168, j169, j170, j171, j172, j173, j174, j179, j180, reduceCtorEq, ↓reduceIte, Nat.reduceAdd, Nat.reduceEqDiff, j182, j183, j185, j196, j197, j213, j214, j215, j216, j217, j240, j254, j255, j261, j263, j267, j269, j270, j313, j316, j317, j319, j334, j424, j438, j442, hz, hi, e1, e2, e3, e4]
    refine ⟨by kernel_rfl, ?_⟩
    simp -dsimp -implicitDefEqProofs only [↓j0, ↓j1, ↓j7, ↓j10, ↓j11, ↓j12, ↓j15, j17, j18, j19, j20, j21, j22, j23, ↓j25, ↓j27, ↓j29, ↓j43, ↓j44, ↓j76, ↓j78, j129, ↓j145, ↓j146, ↓j153, AV.proj, AV.offOf, AV.upd, AV.size, AV.sizeL, AV.layable, j170, j171, reduceCtorEq, ↓reduceIte, Nat.reduceAdd, Nat.reduceEqDiff, j182, j197, j240, j313, j314, hz]
    refine ret { Rc.zero with kind := r.kind, undo := true, no := r.no, slot := r.slot } _ _ _ (by rw [bareP, if_neg k1, if_neg k2, if_neg k3, if_pos (.inl k4)]) ?_ ?_ ?_
    · rfl
    · rfl
    · first | exact hi | exact zb_len 224
  have e4 : ((r.kind : Int) == 4) = false := by rw [beq_eq_false_iff_ne]; omega
  by_cases k5 : r.kind = 5
  · have e5 : ((r.kind : Int) == 5) = true := by rw [beq_iff_eq]; omega
    simp -dsimp -implicitDefEqProofs only [↓j0, ↓j1, ↓j3, ↓j4, ↓j7, ↓j8, ↓j9, ↓j11, ↓j12, ↓j13, ↓j14, ↓j15, j17, j18, j19, j20, j21, j22, j23, j24, ↓j25, ↓j27, ↓j29, ↓j30, j32, j33, ↓j39, ↓j41, ↓j42, ↓j43, ↓j44, ↓j45, ↓j48, ↓j54, ↓j76, ↓j78, ↓j79, ↓j89, ↓j124, j125, j126, j127, j128, j130, ↓j145, ↓j146, ↓j147, ↓j148, ↓j149, ↓j153, j157, partsAV, AV.proj, AV.offOf, AV.upd, AV.size, AV.sizeL, AV.layable, argEnv, j163, j164, j166, j167, j168, j169, j170, j171, j172, j173, j174, j179, j180, reduceCtorEq, ↓reduceIte, Nat.reduceAdd, Nat.reduceEqDiff, j182, j183, j185, j196, j197, j213, j214, j215, j216, j217, j240, j254, j255, j261, j263, j267, j269, j270, j313, j316, j317, j319, j334, j424, j438, j442, hz, hi, e1, e2, e3, e4, e5]
    refine ⟨by kernel_rfl, ?_⟩
    simp -dsimp -implicitDefEqProofs only [↓j0, ↓j1, ↓j7, ↓j10, ↓j11, ↓j12, ↓j15, j17, j18, j19, j20, j21, j22, j23, ↓j25, ↓j27, ↓j29, ↓j43, ↓j44, ↓j76, ↓j78, j129, ↓j145, ↓j146, ↓j153, AV.proj, AV.offOf, AV.upd, AV.size, AV.sizeL, AV.layable, j170, j171, reduceCtorEq, ↓reduceIte, Nat.reduceAdd, Nat.reduceEqDiff, j182, j197, j240, j313, j314, hz]
    refine ret { Rc.zero with kind := r.kind, undo := true, no := r.no, slot := r.slot } _ _ _ (by rw [bareP, if_neg k1, if_neg k2, if_neg k3, if_pos (.inr k5)]) ?_ ?_ ?_
    · rfl
    · rfl
    · first | exact hi | exact zb_len 224
  have e5 : ((r.kind : Int) == 5) = false := by rw [beq_eq_false_iff_ne]; omega
  by_cases k6 : r.kind = 6
  · have e6 : ((r.kind : Int) == 6) = true := by rw [beq_iff_eq]; omega
    simp -dsimp -implicitDefEqProofs only [↓j0, ↓j1, ↓j7, ↓j9, ↓j10, ↓j11, ↓j12, ↓j13, ↓j14, ↓j15, j17, j18, j19, j20, j21, j22, j23, ↓j25, ↓j27, ↓j29, ↓j30, j33, ↓j39, ↓j41, ↓j42, ↓j43, ↓j44, ↓j45, ↓j48, ↓j54, ↓j76, ↓j78, ↓j79, ↓j89, ↓j124, j125, j126, j127, j128, j129, j130, ↓j145, ↓j146, ↓j147, ↓j148, ↓j149, ↓j153, j157, partsAV, AV.proj, AV.offOf, AV.upd, AV.size, AV.sizeL, AV.layable, argEnv, j163, j164, j166, j167, j168, j169, j170, j171, j172, j179, j180, reduceCtorEq, ↓reduceIte, Nat.reduceAdd, Nat.reduceEqDiff, j182, j183, j185, j196, j197, j213, j214, j215, j217, j240, j255, j281, j282, j313, j314, j316, j317, j325, j424, j442, hz, hi, e1, e2, e3, e4, e5, e6]
    refine ret { Rc.zero with kind := r.kind, ts := r.ts } _ _ _ (by rw [bareP, if_neg k1, if_neg k2, if_neg k3, if_neg (by omega), if_pos k6]) ?_ ?_ ?_
    · rfl
    · rfl
    · first | exact hi | exact zb_len 224
  have e6 : ((r.kind : Int) == 6) = false := by rw [beq_eq_false_iff_ne]; omega
  simp -dsimp -implicitDefEqProofs only [↓j0, ↓j1, ↓j7, ↓j9, ↓j10, ↓j11, ↓j12, ↓j13, ↓j14, ↓j15, j17, j18, j19, j20, j21, j22, j23, ↓j25, ↓j27, ↓j29, ↓j30, j33, ↓j39, ↓j41, ↓j42, ↓j43, ↓j44, ↓j45, ↓j48, ↓j54, ↓j76, ↓j78, ↓j79, ↓j89, ↓j124, j125, j126, j127, j128, j129, j130, ↓j145, ↓j146, ↓j148, ↓j149, ↓j153, j157, partsAV, AV.proj, AV.offOf, AV.upd, AV.size, AV.sizeL, AV.layable, argEnv, j163, j167, j169, j170, j171, j172, j179, j180, reduceCtorEq, ↓reduceIte, Nat.reduceAdd, Nat.reduceEqDiff, j182, j183, j185, j196, j197, j213, j214, j215, j217, j240, j255, j313, j314, j316, j317, j424, j442, hz, e1, e2, e3, e4, e5, e6]
  refine ret { Rc.zero with kind := r.kind } _ _ _ (by rw [bareP, if_neg k1, if_neg k2, if_neg k3, if_neg (by omega), if_neg k6]) ?_ ?_ ?_
  · rfl
  · rfl
  · exact zb_len 224
end Go.Proofs.Ytimdepgenefkmaa
