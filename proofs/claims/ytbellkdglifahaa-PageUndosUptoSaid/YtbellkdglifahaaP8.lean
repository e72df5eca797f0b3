/- Data pages are read by the document. -/
import Derived.Test.YtbellkdglifahaaP7
set_option linter.unusedVariables false
set_option linter.unusedSimpArgs false
namespace Go.Proofs.Ytbellkdglifahaa
open Go Go.RowKit

def rgetData (no : Nat) (p : List UInt8) : Dt × Bool := if putData no (dtOf p) == p then (dtOf p, true) else (.zero, false)
abbrev rgetAV (r : Dt × Bool) : AV := .tuple [r.1.av, .bool r.2]
def rdA (p : List UInt8) (l : List UInt8) : AV := .agg [.int .u64 (lsnOf p), .int .u32 (numAt p 15 4), .agg [.int .u16 (numAt p 19 2), .int .u8 ((p.getD 21 0).toNat)], arrAV l]
def rdT (no i : Nat) : Env := [(7, .int .i64 i), (6, .ptr 2 0 []), (4, .ptr 1 0 []), (3, .ptr 0 0 []), (5, .bool false), (0, .int .u16 no)]
def rdSt (no : Nat) (p : List UInt8) (i : Nat) : St := ⟨38, rdT no i, [(2, .cells (rdA p (((p.drop 22).take 64).take i ++ zb (64 - i)))), (1, .cells Dt.zero.av), (0, .cells (arrAV p))], 3⟩
theorem rgetData_spec (no : Nat) (hno : no < 65536) (p : List UInt8) (hp : p.length = 224) : ACall Try.prog 10 [.int .u16 no, arrAV p] [] (rgetAV (rgetData no p)) [] := by
  refine ACall.run (Z := Z) (N := 38) mixed hZ Try.func10 rfl rfl (by kernel_rfl) (by simp) args_np 0 ?_
  have fin : ∀ (r : Dt × Bool) (t : Env) (H : Heap) (m : Nat), r = rgetData no p → r.1.body.length = 64 → look t 4 = some (.ptr 1 0 []) → look t 5 = some (.bool r.2) → Heap.get H 1 = some (.cells r.1.av) →
      Final Try.prog Try.f10 (rgetAV (rgetData no p)) [] .ret ⟨38, t, H, m⟩ := by
    intro r t H m hr hb h4 h5 h1
    rw [← hr]
    exact Final.many (.inr rfl) (rs := [.cell 4 30, .tmp 5]) (us := [r.1.av, .bool r.2]) rfl ⟨⟨1, 0, [], _, h4, h1, rfl, rfl, by simp -dsimp -implicitDefEqProofs only [j129, AV.size, AV.sizeL, Nat.reduceAdd, j182, j197, j240, j284, j285, hb]⟩, ⟨h5, fun vs h => by cases h⟩, trivial⟩ (by simp) ⟨.same _ (on_dt _ _), .same _ trivial, trivial⟩
  have up := unif_bytes p
  have hz := zb_len 64
  have hzb : Dt.zero.body.length = 64 := zb_len 64
  have hn1 : numAt p 15 4 < 2 ^ 32 := numAt_lt
  have hn2 : numAt p 19 2 < 2 ^ 16 := numAt_lt
  have hG1 := num_spec p hp 15 4 (by omega) (by omega)
  have hG2 := num_spec p hp 19 2 (by omega) (by omega)
  obtain ⟨y, hy⟩ := list_get (xs := p) (i := 21) (by omega)
  have hy2 : p.getD 21 0 = y := by rw [List.getD_eq_getElem?_getD, hy]; rfl
  have hsz : AV.sizeL ((p.map byteAV).take 21) = 21 * 1 := up.sizeL_take (by simp; omega)
  have c21 : (21 : Int) < ((224 : Nat) : Int) := by omega
  have w1 : IntKind.u32.wrap (numAt p 15 4 : Int) = (numAt p 15 4 : Int) := by rw [wrap_u32, Nat.mod_eq_of_lt (by omega)]
  have w2 : IntKind.u16.wrap (numAt p 19 2 : Int) = (numAt p 19 2 : Int) := by rw [wrap_u16, Nat.mod_eq_of_lt (by omega)]
  simp -dsimp -implicitDefEqProofs only [↓j0, ↓j1, ↓j4, ↓j7, ↓j8, ↓j12, ↓j15, j17, j18, j20, j24, ↓j25, ↓j27, ↓j29, ↓j30, j32, ↓j39, ↓j41, ↓j42, ↓j43, ↓j53, ↓j76, j129, ↓j145, ↓j146, ↓j153, AV.proj, AV.offOf, AV.layable, argEnv, j170, j171, j172, j174, reduceCtorEq, ↓reduceIte, Nat.reduceAdd, Nat.reduceEqDiff, j182, j196, j240, j300, j301, j366, hp]
  refine CallTo.pure (args := [arrAV p]) rfl fok14 (by simp -dsimp -implicitDefEqProofs only [↓j25, ↓j29, j173, j174, ↓reduceIte]) (fun x hx => (args_arr x hx).2) (rlsn_spec p hp) ?_
  simp -dsimp -implicitDefEqProofs only [↓j4, j17, j18, j20, j24, ↓j25, ↓j27, ↓j29, ↓j43, ↓j53, ↓j76, j129, ↓j145, ↓j146, ↓j153, AV.proj, AV.offOf, j170, j171, j172, j174, reduceCtorEq, ↓reduceIte, Nat.reduceEqDiff, j182, j240, j300, j301, hp]
  refine CallTo.pure (args := [arrAV p, .int .i64 ((15 : Nat) : Int), .int .i64 ((4 : Nat) : Int)]) rfl fok31 (by simp -dsimp -implicitDefEqProofs only [↓j25, ↓j29, ↓j30, j33, j173, j174, ↓reduceIte]; rfl) (fun x hx => (args_num x hx).2) hG1 ?_
  simp -dsimp -implicitDefEqProofs only [↓j4, j17, j18, j20, j24, ↓j25, ↓j27, ↓j29, ↓j43, ↓j50, ↓j53, ↓j76, j129, ↓j145, ↓j146, ↓j153, AV.proj, AV.offOf, j170, j171, j172, j174, reduceCtorEq, ↓reduceIte, Nat.reduceEqDiff, j182, ↓j225, j240, j268, j300, j301, j394, hp, w1]
  refine CallTo.pure (args := [arrAV p, .int .i64 ((19 : Nat) : Int), .int .i64 ((2 : Nat) : Int)]) rfl fok31 (by simp -dsimp -implicitDefEqProofs only [↓j25, ↓j29, ↓j30, j33, j173, j174, ↓reduceIte]; rfl) (fun x hx => (args_num x hx).2) hG2 ?_
  simp -dsimp -implicitDefEqProofs only [↓j3, ↓j4, j17, j18, j19, j20, j21, j22, j23, j24, ↓j25, ↓j27, ↓j29, ↓j30, j33, ↓j41, ↓j43, ↓j44, ↓j46, ↓j50, ↓j54, ↓j76, ↓j78, ↓j94, ↓j124, j125, j126, j127, j128, j130, ↓j145, ↓j146, ↓j153, partsAV, AV.proj, AV.offOf, AV.upd, AV.size, AV.sizeL, AV.layable, j163, j164, j166, j167, j168, j169, j170, j171, j172, j173, j174, j177, j179, j180, reduceCtorEq, ↓reduceIte, Nat.reduceAdd, Nat.reduceMul, Nat.reduceEqDiff, Int.reduceLE, Int.reduceToNat, j182, j183, j196, j197, j206, j213, j214, j215, j216, j217, ↓j225, j240, j255, j262, j273, j276, j284, j288, j291, j294, j302, j366, j375, j377, j394, hz, w2, hy, hsz, c21, byteAV]
  refine ⟨by kernel_rfl, ?_⟩
  simp -dsimp -implicitDefEqProofs only [↓j0, ↓j1, ↓j7, ↓j12, ↓j14, ↓j15, ↓j16, j17, j18, j20, ↓j30, j33, ↓j39, ↓j145, j171]
  refine AWp.loopR (Z := Z) mixed hZ (by kernel_rfl) (fun n s => ∃ i, i + n = 64 ∧ s = rdSt no p i) (n0 := 64) (s0 := rdSt no p 0) ?_ ⟨0, by omega, rfl⟩ ?_ rfl
  · refine Wk.sub ?_
    simp -dsimp -implicitDefEqProofs only [↓j25, ↓j27, j167, j171, j179, reduceCtorEq, ↓reduceIte, Nat.reduceEqDiff, j182, j183, j184, j202, j203, j204, j205, j209, j223, j233, rdT, rdA, hy2]
    exact ⟨rfl, rfl⟩
  rintro n s ⟨i, hi, rfl⟩
  refine ⟨rfl, ?_⟩
  have hdl : ((p.drop 22).take 64).length = 64 := by simp; omega
  obtain ⟨b, hb⟩ : ∃ b, (p.drop 22).take 64 = b := ⟨_, rfl⟩
  rw [hb] at hdl
  have hll := fillB_len (l := b) (n := 64) (i := i) (by omega) (by omega)
  rcases Nat.lt_or_ge i 64 with hlt | hge
  · have hd : decide ((i : Int) < 64) = true := decide_eq_true (by omega)
    have hw : IntKind.i64.wrap ((i : Int) + 1) = ((i + 1 : Nat) : Int) := by rw [wrap_i64 (by omega) (by omega)]; omega
    have hw2 : IntKind.i64.wrap (22 + (i : Int)) = ((22 + i : Nat) : Int) := by rw [wrap_i64 (by omega) (by omega)]; omega
    obtain ⟨x, hx⟩ := list_get (xs := p) (i := 22 + i) (by omega)
    have hx2 : b[i]? = some x := by rw [← hb, List.getElem?_take, if_pos hlt, List.getElem?_drop]; exact hx
    have hst := fillB_step (n := 64) hx2 hlt
    obtain ⟨q, hq⟩ : ∃ q, b.take i ++ zb (64 - i) = q := ⟨_, rfl⟩
    rw [hq] at hll hst
    obtain ⟨z, hzz⟩ := list_get (xs := q) (i := i) (by omega)
    have f2 : (i : Int) < ((64 : Nat) : Int) := by omega
    have f3 : ((22 + i : Nat) : Int) < ((224 : Nat) : Int) := by omega
    have hsz1 : AV.sizeL ((p.map byteAV).take (22 + i)) = (22 + i) * 1 := up.sizeL_take (by simp; omega)
    have hsz2 : AV.sizeL ((q.map byteAV).take i) = i * 1 := (unif_bytes q).sizeL_take (by simp; omega)
    have hset : (q.map byteAV).set i (AV.int .u8 (x.toNat : Int)) = (b.take (i + 1) ++ zb (64 - (i + 1))).map byteAV := by
      rw [← hst, List.map_set]; rfl
    simp -dsimp -implicitDefEqProofs only [↓j0, ↓j1, ↓j7, ↓j9, ↓j12, ↓j13, ↓j14, ↓j15, j17, j18, j19, j20, j21, j22, j23, ↓j25, ↓j27, ↓j29, ↓j30, j33, ↓j38, ↓j39, ↓j43, ↓j44, ↓j45, ↓j46, ↓j48, ↓j76, ↓j78, ↓j79, ↓j89, ↓j94, j130, ↓j145, ↓j146, ↓j147, ↓j149, ↓j153, j154, j159, AV.proj, AV.offOf, AV.upd, AV.size, AV.sizeL, AV.layable, j163, j164, j166, j167, j168, j169, j170, j171, j177, reduceCtorEq, ↓reduceIte, Nat.reduceAdd, Nat.reduceEqDiff, j182, j185, j196, j197, j206, j207, j208, j254, j255, j281, j296, j302, rdSt, rdT, rdA, hb, hq, hd, hw2, f2, f3, hx, hzz, hsz1, hsz2, byteAV]
    exact ⟨n - 1, rdSt no p (i + 1), by omega, ⟨i + 1, by omega, by rw [← hb]; rfl⟩, Wk.sub (by simp -dsimp -implicitDefEqProofs only [↓j25, ↓j27, reduceCtorEq, ↓reduceIte, Nat.reduceEqDiff, j182, j202, j203, j204, j205, j223, rdT, rdA, hb, hw, hset] <;> simp)⟩
  have hi2 : i = 64 := by omega
  subst hi2
  have hd : decide (((64 : Nat) : Int) < 64) = false := rfl
  have e : b.take 64 ++ zb (64 - 64) = b := by
    rw [List.take_of_length_le (by omega)]; simp [zb]
  have hdt : rdA p b = (dtOf p).av := by rw [← hb]; rfl
  have hok := dtOf_ok hp
  have hpl := putData_len (no := no) hok
  have hce := cellsEq_bytes (l := putData no (dtOf p)) (k := p) (by omega)
  have hkb1 := kinds_bytes hpl
  have hkb2 := kinds_bytes hp
  obtain ⟨w, hw⟩ : ∃ w, (putData no (dtOf p) == p) = w := ⟨_, rfl⟩
  rw [hw] at hce
  have hsp := rputData_spec no hno (dtOf p) hok
  have hbod := hok.body
  have hso : AV.size (dtOf p).av = 68 := by simp -dsimp -implicitDefEqProofs only [AV.size, AV.sizeL, Nat.reduceAdd, j197, j240, hbod]
  rw [rdSt, hb, e, hdt]
  obtain ⟨D, hD⟩ : ∃ D, dtOf p = D := ⟨_, rfl⟩
  rw [hD] at hsp hce hkb1 hbod hpl
  simp -dsimp -implicitDefEqProofs only [↓j0, ↓j1, ↓j4, ↓j7, ↓j8, ↓j11, ↓j12, ↓j13, ↓j15, j17, j18, j20, j24, ↓j25, ↓j27, ↓j29, ↓j30, j33, ↓j38, ↓j43, ↓j48, ↓j53, ↓j76, ↓j89, j129, ↓j145, ↓j146, ↓j148, ↓j149, ↓j153, j159, AV.proj, AV.offOf, AV.size, AV.sizeL, j170, j171, j172, j174, reduceCtorEq, ↓reduceIte, Nat.reduceAdd, Nat.reduceEqDiff, j182, j185, j197, j240, j284, j285, rdT, hd, hD, hbod]
  refine CallTo.pure (args := [.int .u16 no, D.av]) rfl fok12 (by simp -dsimp -implicitDefEqProofs only [↓j25, ↓j29, j173, j174, ↓reduceIte, Nat.reduceEqDiff]) (fun x hx => (args_nd x hx).2) hsp ?_
  simp -dsimp -implicitDefEqProofs only [↓j3, ↓j4, j17, j18, j20, j24, ↓j25, ↓j27, ↓j29, ↓j43, ↓j48, ↓j76, ↓j91, j129, ↓j145, ↓j146, ↓j153, AV.proj, AV.offOf, j170, j171, j172, j174, reduceCtorEq, ↓reduceIte, Nat.reduceEqDiff, j182, j212, j240, j241, j300, j301, j303, j304, hp, hce, hkb1]
  refine ⟨by kernel_rfl, ?_⟩
  cases w
  · simp -dsimp -implicitDefEqProofs only [↓j0, ↓j1, ↓j7, ↓j10, ↓j12, ↓j13, ↓j15, j17, j18, j19, j20, j21, j22, j23, ↓j25, ↓j27, ↓j29, ↓j30, j32, ↓j39, ↓j44, ↓j54, ↓j78, ↓j124, j125, j127, ↓j145, ↓j146, ↓j147, ↓j149, ↓j153, partsAV, AV.proj, AV.offOf, AV.upd, AV.size, AV.sizeL, AV.layable, j170, j171, reduceCtorEq, ↓reduceIte, Nat.reduceAdd, Nat.reduceEqDiff, j182, j194, j197, j214, j218, j219, j240, j284, j377, hz, hzb]
    exact fin (.zero, false) _ _ _ (by rw [rgetData, hw]; rfl) hz rfl rfl (by rfl)
  · simp -dsimp -implicitDefEqProofs only [↓j0, ↓j1, ↓j7, ↓j9, ↓j10, ↓j12, ↓j13, ↓j15, j17, j18, j19, j20, j21, j22, j23, ↓j25, ↓j27, ↓j29, ↓j30, j32, ↓j39, ↓j43, ↓j44, ↓j76, ↓j78, j129, ↓j145, ↓j146, ↓j148, ↓j149, ↓j153, AV.proj, AV.offOf, AV.upd, AV.size, AV.sizeL, AV.layable, j170, j171, reduceCtorEq, ↓reduceIte, Nat.reduceAdd, Nat.reduceEqDiff, j182, j193, j197, j240, j284, j285, hbod, hzb]
    exact fin (D, true) _ _ _ (by rw [rgetData, hw, ← hD]; rfl) hbod rfl rfl (by rfl)
end Go.Proofs.Ytbellkdglifahaa
