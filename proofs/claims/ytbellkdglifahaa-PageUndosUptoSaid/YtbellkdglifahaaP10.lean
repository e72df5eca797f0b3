/- Blank data pages; the watchman of pages. -/
import Derived.Test.YtbellkdglifahaaP9
set_option linter.unusedVariables false
set_option linter.unusedSimpArgs false
namespace Go.Proofs.Ytbellkdglifahaa
open Go Go.RowKit

theorem zero_ok : Dt.zero.Ok := ⟨by decide, by decide, by decide, zb_len 64⟩
def Dt.eqb (d e : Dt) : Bool := ((d.lsn : Int) == (e.lsn : Int)) && (((d.ts : Int) == (e.ts : Int)) && (((d.pg : Int) == (e.pg : Int)) && (((d.sl.toNat : Int) == (e.sl.toNat : Int)) && (d.body == e.body))))
theorem Dt.eqb_iff {d e : Dt} : d.eqb e = true ↔ d = e := by
  obtain ⟨a, b, c, x, l⟩ := d
  obtain ⟨a', b', c', x', l'⟩ := e
  simp only [Dt.eqb, Bool.and_eq_true, beq_iff_eq, Dt.mk.injEq]
  constructor
  · rintro ⟨h1, h2, h3, h4, h5⟩
    exact ⟨by omega, by omega, by omega, UInt8.toNat_inj.1 (by omega), h5⟩
  · rintro ⟨rfl, rfl, rfl, rfl, rfl⟩
    exact ⟨rfl, rfl, rfl, rfl, rfl⟩
theorem Dt.eqb_self (d : Dt) : d.eqb d = true := Dt.eqb_iff.2 rfl
theorem scEq_int {k : IntKind} {a b : Int} : scEq (.int k a) (.int k b) = some (a == b) := by simp [scEq]
theorem cellsEq_dt (d e : Dt) (h : d.body.length = e.body.length) :
    cellsEq (AV.int .u64 d.lsn :: AV.int .u32 d.ts :: AV.int .u16 d.pg :: AV.int .u8 d.sl.toNat :: List.map byteAV d.body) (AV.int .u64 e.lsn :: AV.int .u32 e.ts :: AV.int .u16 e.pg :: AV.int .u8 e.sl.toNat :: List.map byteAV e.body) = some (d.eqb e) :=
  cellsEq_cons scEq_int (cellsEq_cons scEq_int (cellsEq_cons scEq_int (cellsEq_cons scEq_int (cellsEq_bytes h))))
theorem kinds_dt {d : Dt} (h : d.body.length = 64) : (AV.flatL [AV.int .u64 d.lsn, .int .u32 d.ts, .agg [.int .u16 d.pg, .int .u8 d.sl.toNat], arrAV d.body]).map kindOf = (kreps 68).map some := by
  have := kinds_bytes h
  simp -dsimp -implicitDefEqProofs only [AV.flat, AV.flatL, j170, j171, j172, j173, kindOf, j241]
  simp only [List.map_cons, this]
  rfl
abbrev idAV (u : Bool) (no : Nat) : AV := .agg [.bool u, .int .u16 no]
theorem args_id {u : Bool} {no : Nat} : ∀ x, x ∈ [idAV u no] → AV.on (fun _ => False) x ∧ ∀ vs, x ≠ .tuple vs := fun x hx => by
  simp only [List.mem_singleton] at hx; subst hx; exact ⟨⟨trivial, trivial, trivial⟩, fun vs h => by cases h⟩
theorem args_idp {u : Bool} {no : Nat} {p : List UInt8} : ∀ x, x ∈ [idAV u no, arrAV p] → AV.on (fun _ => False) x ∧ ∀ vs, x ≠ .tuple vs := fun x hx => by
  simp only [List.mem_cons, List.not_mem_nil, or_false] at hx
  rcases hx with rfl | rfl
  · exact ⟨⟨trivial, trivial, trivial⟩, fun vs h => by cases h⟩
  · exact ⟨on_bytes _ _, fun vs h => by cases h⟩
theorem blankD_spec (no : Nat) (hno : no < 65536) : ACall Try.prog 25 [idAV false no] [] (arrAV (putData no .zero)) [] := by
  refine ACall.run (Z := Z) (N := 19) mixed hZ Try.func25 rfl rfl (by kernel_rfl) (by simp) args_id 0 ?_
  have hz := zb_len 224
  have hl := putData_len (no := no) zero_ok
  simp -dsimp -implicitDefEqProofs only [↓j0, ↓j1, ↓j7, ↓j9, ↓j12, ↓j13, ↓j15, j17, j18, j20, ↓j25, ↓j27, ↓j29, ↓j41, ↓j42, ↓j43, ↓j45, ↓j53, ↓j54, ↓j76, ↓j79, ↓j124, j125, j127, j130, j131, ↓j145, ↓j146, ↓j148, ↓j149, ↓j153, partsAV, AV.proj, AV.offOf, AV.size, AV.sizeL, AV.layable, argEnv, j163, j164, j166, j167, j170, j171, j172, reduceCtorEq, ↓reduceIte, Nat.reduceAdd, Nat.reduceEqDiff, j182, j196, j197, j214, j218, j219, j253, j261, j323, j326, j367, j377]
  refine CallTo.pure (args := [.int .u16 no, Dt.zero.av]) rfl fok11 (by simp -dsimp -implicitDefEqProofs only [↓j25, ↓j29, j173, j174, ↓reduceIte, Nat.reduceEqDiff]; rfl) (fun x hx => (args_nd x hx).2) (putData_spec no hno .zero zero_ok) ?_
  simp -dsimp -implicitDefEqProofs only [↓j0, ↓j1, ↓j10, j17, j18, j19, j20, j21, j22, j23, ↓j25, ↓j27, ↓j29, ↓j44, ↓j78, ↓j145, ↓j146, ↓j153, AV.proj, AV.offOf, AV.upd, AV.size, AV.layable, j170, j171, reduceCtorEq, ↓reduceIte, Nat.reduceEqDiff, j182, j240, j300, hz, hl]
  exact Final.one (.inr rfl) (r := .cell 2 32) rfl ⟨1, 0, [], _, rfl, rfl, rfl, rfl, by simp -dsimp -implicitDefEqProofs only [j129, j182, j240, j300, j301, hl]⟩ (fun vs h => by cases h) (fun vs h => by cases h) (.same _ (on_bytes _ _))
theorem rightD_spec (no : Nat) (hno : no < 65536) (p : List UInt8) (hp : p.length = 224) : ACall Try.prog 27 [idAV false no, arrAV p] [] (.bool (getOk no p)) [] := by
  refine ACall.run (Z := Z) (N := 29) mixed hZ Try.func27 rfl rfl (by kernel_rfl) (by simp) args_idp 0 ?_
  have hbl : (getData no p).1.body.length = 64 := by
    unfold getData; split
    · exact (dtOf_ok hp).body
    · exact zb_len 64
  have hg2 : (getData no p).2 = getOk no p := by
    unfold getData; cases getOk no p <;> rfl
  have hgs := getData_spec no hno p hp
  obtain ⟨⟨D, b⟩, hr⟩ : ∃ r, getData no p = r := ⟨_, rfl⟩
  rw [hr] at hbl hg2 hgs
  have hbl : D.body.length = 64 := hbl
  have hg2 : b = getOk no p := hg2
  rw [← hg2]
  have hz := zb_len 64
  simp -dsimp -implicitDefEqProofs only [↓j0, ↓j1, ↓j7, ↓j9, ↓j12, ↓j13, ↓j15, j17, j18, j20, ↓j25, ↓j27, ↓j29, ↓j30, j32, ↓j39, ↓j42, ↓j43, ↓j45, ↓j53, ↓j76, ↓j79, j129, j130, j131, ↓j145, ↓j146, ↓j148, ↓j149, ↓j153, AV.proj, AV.offOf, AV.size, AV.sizeL, AV.layable, argEnv, j163, j164, j166, j167, j170, j171, j172, reduceCtorEq, ↓reduceIte, Nat.reduceAdd, Nat.reduceEqDiff, j182, j196, j197, j240, j253, j261, j300, j301, j323, j326, hp]
  refine CallTo.pure (args := [.int .u16 no, arrAV p]) rfl fok9 (by simp -dsimp -implicitDefEqProofs only [↓j25, ↓j29, j173, j174, ↓reduceIte, Nat.reduceEqDiff]) (fun x hx => (args_np x hx).2) hgs ?_
  simp -dsimp -implicitDefEqProofs only [↓j0, ↓j1, ↓j7, ↓j10, ↓j12, ↓j15, j17, j18, j19, j20, j21, j22, j23, ↓j25, ↓j27, ↓j29, ↓j30, j33, ↓j38, ↓j39, ↓j41, ↓j44, ↓j48, ↓j57, ↓j78, j85, ↓j89, ↓j145, ↓j146, ↓j153, j157, AV.proj, AV.offOf, AV.upd, AV.size, AV.sizeL, AV.layable, j163, j164, j170, j171, reduceCtorEq, ↓reduceIte, Nat.reduceAdd, Nat.reduceEqDiff, j182, j185, j197, j240, j284, j366, hbl, hz]
  have hc : ((if b then (0 : Int) else 2) == 0) = b := by cases b <;> rfl
  simp -dsimp -implicitDefEqProofs only [hc]
  exact Final.one (.inr rfl) (r := .tmp 4) rfl ⟨rfl, fun vs h => by cases h⟩ (fun vs h => by cases h) (fun vs h => by cases h) (.same _ trivial)
theorem awake_spec : ACall Try.prog 15 [] [] (.bool true) [] := by
  refine ACall.run (Z := Z) (N := 28) mixed hZ Try.func15 rfl rfl (by kernel_rfl) (by simp) (fun x hx => by simp at hx) 0 ?_
  have hz := zb_len 64
  have hzb : Dt.zero.body.length = 64 := zb_len 64
  have hz2 := zb_len 224
  have hl := putData_len (no := 3) zero_ok
  have hb := dt_back (no := 3) (by decide) zero_ok
  have hgs := getData_spec 3 (by decide) (putData 3 .zero) hl
  rw [getData, hb.2, hb.1] at hgs
  have hrs := rightD_spec 3 (by decide) (putData 3 .zero) hl
  rw [hb.2] at hrs
  have hgd : (putData 3 .zero).getD 0 0 = 1 := (seal_parts (k := 1) (no := 3) (lsn := 0) (t := dtRest .zero ++ zb 138) (by decide) (by decide)).1
  obtain ⟨p, hp⟩ : ∃ p, putData 3 .zero = p := ⟨_, rfl⟩
  have hbl := blankD_spec 3 (by decide)
  rw [hp] at hl hgs hrs hgd hbl
  simp -dsimp -implicitDefEqProofs only [↓j0, ↓j1, ↓j7, ↓j12, ↓j15, j17, j18, j20, ↓j30, j32, j33, ↓j39, ↓j53, ↓j54, ↓j124, j125, j126, j127, j128, ↓j145, ↓j146, partsAV, AV.size, AV.sizeL, AV.layable, argEnv, j163, j164, j166, j167, j168, j169, j172, j179, j180, j182, j183, j197, j213, j214, j215, j217, j327, j383]
  refine CallTo.pure (args := [idAV false 3]) rfl fok25 (by simp -dsimp -implicitDefEqProofs only [↓j25, ↓j29, j173, j174, ↓reduceIte]; rfl) (fun x hx => (args_id x hx).2) hbl ?_
  simp -dsimp -implicitDefEqProofs only [↓j0, ↓j1, ↓j7, ↓j12, ↓j15, j17, j18, j19, j20, j21, j22, j23, ↓j25, ↓j27, ↓j29, ↓j41, ↓j43, ↓j44, ↓j53, ↓j76, ↓j78, j129, ↓j145, ↓j146, ↓j153, AV.proj, AV.offOf, AV.upd, AV.size, AV.layable, j171, j172, ↓reduceIte, Nat.reduceEqDiff, j182, j196, j240, j300, j301, j367, hz2, hl]
  refine CallTo.pure (args := [.int .u16 ((3 : Nat) : Int), arrAV p]) rfl fok9 (by simp -dsimp -implicitDefEqProofs only [↓j25, ↓j29, ↓j30, j33, j173, j174, ↓reduceIte]; rfl) (fun x hx => (args_np x hx).2) hgs ?_
  have hce := cellsEq_dt .zero .zero rfl
  rw [Dt.eqb_self] at hce
  have hce : cellsEq (AV.int .u64 Dt.zero.lsn :: AV.int .u32 Dt.zero.ts :: AV.int .u16 Dt.zero.pg :: AV.int .u8 Dt.zero.sl.toNat :: List.map byteAV Dt.zero.body) (AV.int .u64 0 :: AV.int .u32 0 :: AV.int .u16 0 :: AV.int .u8 0 :: List.map byteAV (zb 64)) = some true := hce
  simp -dsimp -implicitDefEqProofs only [↓j0, ↓j1, ↓j2, ↓j7, ↓j12, ↓j15, j17, j18, j19, j20, j21, j22, j23, ↓j25, ↓j27, ↓j29, ↓j30, j33, ↓j38, ↓j39, ↓j41, ↓j43, ↓j44, ↓j48, ↓j54, ↓j57, ↓j76, ↓j78, j85, ↓j89, ↓j91, ↓j124, j125, j127, j129, ↓j145, ↓j146, ↓j147, ↓j150, ↓j153, j157, partsAV, AV.proj, AV.offOf, AV.upd, AV.size, AV.sizeL, AV.layable, AV.flat, AV.flatL, j163, j164, j170, j171, j172, j173, j174, j175, reduceCtorEq, ↓reduceIte, Nat.reduceAdd, Nat.reduceEqDiff, j182, j184, j185, j197, j211, kindOf, j214, j218, j219, Int.reduceBEq, j240, j241, j284, j285, j298, j299, j366, j377, hz, hzb, hce]
  refine ⟨kinds_dt hzb, ?_⟩
  have up := unif_bytes p
  obtain ⟨y, hy⟩ := list_get (xs := p) (i := 0) (by omega)
  have hy1 : y = 1 := by rw [List.getD_eq_getElem?_getD, hy] at hgd; exact hgd
  have c0 : (0 : Int) < ((224 : Nat) : Int) := by omega
  simp -dsimp -implicitDefEqProofs only [↓j1, ↓j2, j17, j18, j20, ↓j25, ↓j27, ↓j29, ↓j30, j32, j33, ↓j38, ↓j40, ↓j43, ↓j53, ↓j54, ↓j76, j83, ↓j124, j125, j126, j127, j128, j129, ↓j145, ↓j146, ↓j147, ↓j150, ↓j153, partsAV, AV.proj, AV.offOf, AV.size, AV.sizeL, AV.layable, j163, j164, j166, j167, j168, j169, j171, j175, j179, j180, reduceCtorEq, ↓reduceIte, Nat.reduceEqDiff, j182, j183, j195, j197, j213, j214, j215, j217, j240, j300, j301, j327, j383, hl]
  refine CallTo.pure (args := [idAV false 3, arrAV p]) rfl fok27 (by simp -dsimp -implicitDefEqProofs only [↓j25, ↓j29, j173, j174, ↓reduceIte, Nat.reduceEqDiff]; rfl) (fun x hx => (args_idp x hx).2) hrs ?_
  have hb1 : (((1 : UInt8).toNat : Int) == 1) = true := rfl
  simp -dsimp -implicitDefEqProofs only [↓j0, ↓j1, ↓j2, ↓j10, j17, j18, j20, ↓j25, ↓j27, ↓j29, ↓j30, j32, j33, ↓j38, ↓j39, ↓j40, ↓j43, ↓j46, ↓j48, ↓j76, j83, ↓j89, ↓j94, j130, ↓j145, ↓j146, ↓j147, ↓j150, ↓j153, j157, AV.proj, AV.offOf, AV.sizeL, j163, j164, j167, j171, j175, j177, reduceCtorEq, ↓reduceIte, Nat.reduceEqDiff, Int.reduceToNat, j182, j185, j197, j206, j232, j234, j255, j302, hy, hy1, c0, byteAV, hb1]
  exact Final.one (.inr rfl) (r := .tmp 0) rfl ⟨rfl, fun vs h => by cases h⟩ (fun vs h => by cases h) (fun vs h => by cases h) (.same _ trivial)
end Go.Proofs.Ytbellkdglifahaa
