/- Data pages are read. -/
import Derived.Test.YtbellkdglifahaaP6
set_option linter.unusedVariables false
set_option linter.unusedSimpArgs false
namespace Go.Proofs.Ytbellkdglifahaa
open Go Go.RowKit

theorem bAV (l : List UInt8) : bytesAV l = List.map byteAV l := rfl
def dtOf (p : List UInt8) : Dt := ⟨lsnOf p, numAt p 15 4, numAt p 19 2, p.getD 21 0, (p.drop 22).take 64⟩
theorem dtOf_ok {p : List UInt8} (hp : p.length = 224) : (dtOf p).Ok :=
  ⟨Nat.lt_of_lt_of_le (numAt_lt (p := p) (o := 7) (n := 8)) (by decide), Nat.lt_of_lt_of_le (numAt_lt (p := p) (o := 15) (n := 4)) (by decide), Nat.lt_of_lt_of_le (numAt_lt (p := p) (o := 19) (n := 2)) (by decide), by simp [dtOf]; omega⟩
def Dt.zero : Dt := ⟨0, 0, 0, 0, zb 64⟩
def getOk (no : Nat) (p : List UInt8) : Bool := opensP 1 no p && (p.drop 86).all (· == 0)
def getData (no : Nat) (p : List UInt8) : Dt × Bool := if getOk no p then (dtOf p, true) else (.zero, false)
abbrev getAV (r : Dt × Bool) : AV := .tuple [r.1.av, .int .i64 (if r.2 then 0 else 2)]
theorem args_np {no : Nat} {p : List UInt8} : ∀ x, x ∈ [AV.int .u16 (no : Int), arrAV p] → AV.on (fun _ => False) x ∧ ∀ vs, x ≠ .tuple vs := fun x hx => by
  simp only [List.mem_cons, List.not_mem_nil, or_false] at hx
  rcases hx with rfl | rfl
  · exact ⟨trivial, fun vs h => by cases h⟩
  · exact ⟨on_bytes _ _, fun vs h => by cases h⟩
def gdT (no i : Nat) : Env := [(21, .int .i64 i), (20, .int .i64 (138 : Nat)), (19, .sl 0 86 [] 86 138 138 1), (4, .ptr 1 0 []), (3, .ptr 0 0 []), (5, .int .i64 0), (0, .int .u16 no)]
def gdSt (no : Nat) (p : List UInt8) (i : Nat) : St := ⟨58, gdT no i, [(1, .cells Dt.zero.av), (0, .cells (arrAV p))], 2⟩
theorem getData_spec (no : Nat) (hno : no < 65536) (p : List UInt8) (hp : p.length = 224) : ACall Try.prog 9 [.int .u16 no, arrAV p] [] (getAV (getData no p)) [] := by
  refine ACall.run (Z := Z) (N := 58) mixed hZ Try.func9 rfl rfl (by kernel_rfl) (by simp) args_np 0 ?_
  have fin : ∀ (r : Dt × Bool) (t : Env) (H : Heap) (m : Nat), r = getData no p → r.1.body.length = 64 → look t 4 = some (.ptr 1 0 []) → look t 5 = some (.int .i64 (if r.2 then 0 else 2)) → Heap.get H 1 = some (.cells r.1.av) →
      Final Try.prog Try.f9 (getAV (getData no p)) [] .ret ⟨58, t, H, m⟩ := by
    intro r t H m hr hb h4 h5 h1
    rw [← hr]
    exact Final.many (.inr rfl) (rs := [.cell 4 30, .tmp 5]) (us := [r.1.av, .int .i64 (if r.2 then 0 else 2)]) rfl ⟨⟨1, 0, [], _, h4, h1, rfl, rfl, by simp -dsimp -implicitDefEqProofs only [j129, AV.size, AV.sizeL, Nat.reduceAdd, j182, j197, j240, j284, j285, hb]⟩, ⟨h5, fun vs h => by cases h⟩, trivial⟩ (by simp) ⟨.same _ (on_dt _ _), .same _ trivial, trivial⟩
  have bad : ∀ (t : Env) (H : Heap) (m : Nat), getOk no p = false → look t 4 = some (.ptr 1 0 []) → look t 5 = some (.int .i64 2) → Heap.get H 1 = some (.cells Dt.zero.av) →
      Final Try.prog Try.f9 (getAV (getData no p)) [] .ret ⟨58, t, H, m⟩ := fun t H m hk h4 h5 h1 =>
    fin (.zero, false) t H m (by rw [getData, hk]; rfl) (zb_len 64) h4 h5 h1
  have up := unif_bytes p
  have hz := zb_len 64
  have hzb : Dt.zero.body.length = 64 := zb_len 64
  have c86 : (86 : Int) ≤ ((224 : Nat) : Int) := by omega
  simp -dsimp -implicitDefEqProofs only [↓j0, ↓j1, ↓j7, ↓j12, ↓j15, j17, j18, j20, ↓j25, ↓j27, ↓j29, ↓j30, j33, ↓j38, ↓j39, ↓j41, ↓j42, ↓j43, ↓j53, ↓j76, j129, ↓j145, ↓j146, ↓j153, AV.proj, AV.offOf, AV.layable, argEnv, j170, j171, j172, reduceCtorEq, ↓reduceIte, Nat.reduceAdd, Nat.reduceEqDiff, j182, j196, j240, j300, j301, j366, hp]
  refine CallTo.pure (args := [.int .u8 ((1 : UInt8).toNat : Nat), .int .u16 no, arrAV p]) rfl fok29 (by simp -dsimp -implicitDefEqProofs only [↓j25, ↓j29, ↓j30, j33, j173, j174, ↓reduceIte, Nat.reduceEqDiff]; rfl) (fun x hx => (args_opens x hx).2) (opens_spec 1 no hno p hp) ?_
  obtain ⟨o, ho⟩ : ∃ o, opensP 1 no p = o := ⟨_, rfl⟩
  cases o
  · simp -dsimp -implicitDefEqProofs only [↓j0, ↓j1, ↓j7, ↓j10, ↓j12, ↓j13, ↓j15, j17, j18, j19, j20, j21, j22, j23, ↓j25, ↓j27, ↓j29, ↓j30, j33, ↓j39, ↓j44, ↓j54, ↓j55, ↓j78, j84, ↓j124, j125, j127, ↓j145, ↓j146, ↓j147, ↓j149, ↓j153, partsAV, AV.proj, AV.offOf, AV.upd, AV.size, AV.sizeL, AV.layable, j170, j171, reduceCtorEq, ↓reduceIte, Nat.reduceAdd, Nat.reduceEqDiff, j182, j194, j197, j214, j218, j219, j240, j284, j377, ho, hz]
    refine bad _ _ _ (by rw [getOk, ho]; rfl) rfl rfl ?_
    rfl
  simp -dsimp -implicitDefEqProofs only [↓j0, ↓j1, ↓j7, ↓j9, ↓j12, ↓j13, ↓j14, ↓j15, ↓j16, j17, j18, j20, ↓j25, ↓j27, ↓j29, ↓j30, j33, ↓j38, ↓j49, ↓j55, ↓j58, ↓j61, j84, j107, j143, ↓j145, ↓j146, ↓j148, ↓j149, ↓j153, AV.proj, AV.offOf, j171, reduceCtorEq, ↓reduceIte, Nat.reduceMul, Nat.reduceEqDiff, Nat.reduceSub, Int.reduceLE, Int.reduceToNat, j182, j193, j196, j207, bndAV, j232, ↓j238, j240, j302, j405, ho, hp, c86]
  refine AWp.loopR (Z := Z) mixed hZ (by kernel_rfl) (fun n s => ∃ i, i + n = 138 ∧ ((p.drop 86).take i).all (· == 0) = true ∧ s = gdSt no p i) (n0 := 138) (s0 := gdSt no p 0) ?_ ⟨0, by omega, rfl, rfl⟩ ?_ rfl
  · exact Wk.sub (by simp -dsimp -implicitDefEqProofs only [↓j25, ↓j27, j179, reduceCtorEq, ↓reduceIte, Nat.reduceEqDiff, j182, j183, j184, j202, j203, j204, j205, j209, j223, gdT] <;> exact ⟨rfl, rfl⟩)
  rintro n s ⟨i, hi, ha, rfl⟩
  refine ⟨rfl, ?_⟩
  rcases Nat.lt_or_ge i 138 with hlt | hge
  · have hd : decide ((i : Int) < ((138 : Nat) : Int)) = true := decide_eq_true (by omega)
    have hlt1 : (i : Int) < ((138 : Nat) : Int) := by omega
    obtain ⟨x, hx⟩ := list_get (xs := p) (i := 86 + i) (by omega)
    have hw : IntKind.i64.wrap ((i : Int) + 1) = ((i + 1 : Nat) : Int) := by rw [wrap_i64 (by omega) (by omega)]; omega
    have hsz : AV.sizeL ((p.map byteAV).take (86 + i)) = 86 + i * 1 := by
      rw [up.sizeL_take (by simp; omega)]; omega
    simp -dsimp -implicitDefEqProofs only [↓j0, ↓j1, ↓j7, ↓j9, ↓j12, ↓j13, ↓j14, ↓j15, j17, j18, j20, ↓j25, ↓j27, ↓j29, ↓j30, j33, ↓j38, ↓j39, ↓j43, ↓j46, ↓j48, ↓j76, ↓j89, ↓j93, j130, ↓j145, ↓j146, ↓j147, ↓j149, ↓j153, j158, j159, AV.proj, AV.offOf, j171, j177, reduceCtorEq, ↓reduceIte, Nat.reduceEqDiff, j182, j185, j191, j197, j206, j207, j208, j255, j335, gdSt, gdT, hlt1, hx, hsz, byteAV]
    refine ⟨fun h3 => ?_, fun h3 => ?_⟩
    · have hx0 : x ≠ 0 := by rintro rfl; simp at h3
      simp -dsimp -implicitDefEqProofs only [↓j0, ↓j1, ↓j7, ↓j10, ↓j12, ↓j15, j17, j18, j19, j20, j21, j22, j23, ↓j25, ↓j27, ↓j29, ↓j30, j33, ↓j39, ↓j44, ↓j54, ↓j78, ↓j124, j125, j127, ↓j145, ↓j146, ↓j153, partsAV, AV.proj, AV.offOf, AV.upd, AV.size, AV.sizeL, AV.layable, j170, j171, reduceCtorEq, ↓reduceIte, Nat.reduceAdd, Nat.reduceEqDiff, j182, j197, j214, j218, j219, j240, j284, j377, h3, hz, hzb]
      refine bad _ _ _ ?_ rfl rfl (by rfl)
      have hany : (p.drop 86).all (· == 0) = false := by
        rw [List.all_eq_false]
        refine ⟨x, List.mem_iff_getElem?.2 ⟨i, ?_⟩, by simpa using hx0⟩
        rw [List.getElem?_drop]; exact hx
      rw [getOk, hany, Bool.and_false]
    · have hx0 : x = 0 := by
        have : (x.toNat : Int) = 0 := by simpa using h3
        exact UInt8.toNat_inj.1 (by simpa using this)
      simp -dsimp -implicitDefEqProofs only [↓j0, ↓j1, ↓j7, ↓j9, ↓j15, j17, j18, j20, ↓j25, ↓j29, ↓j30, j33, ↓j38, ↓j48, ↓j89, ↓j145, ↓j146, j154, j171, ↓reduceIte, Nat.reduceEqDiff, j185, h3]
      refine ⟨n - 1, gdSt no p (i + 1), by omega, ⟨i + 1, by omega, ?_, rfl⟩, Wk.sub (by simp -dsimp -implicitDefEqProofs only [↓j25, ↓j27, reduceCtorEq, ↓reduceIte, Nat.reduceEqDiff, j182, j202, j203, j204, j205, j223, gdT, hw] <;> simp)⟩
      rw [take_succ (show (p.drop 86)[i]? = some x by rw [List.getElem?_drop]; exact hx), List.all_append, ha, hx0]; rfl
  have hi2 : i = 138 := by omega
  subst hi2
  have hd : decide (((138 : Nat) : Int) < ((138 : Nat) : Int)) = false := decide_eq_false (by omega)
  rw [List.take_of_length_le (by simp; omega)] at ha
  have hok : getOk no p = true := by rw [getOk, ho, ha]; rfl
  have hbo := bytesOf_bytes p
  have hT : List.take 224 (p.map byteAV) = p.map byteAV := List.take_of_length_le (by simp; omega)
  have hg1 := get_spec p 15 4 (by omega) (by omega) (by omega)
  have hg2 := get_spec p 19 2 (by omega) (by omega) (by omega)
  have hn1 : numAt p 15 4 < 2 ^ 32 := numAt_lt
  have hn2 : numAt p 19 2 < 2 ^ 16 := numAt_lt
  obtain ⟨g1, hG1⟩ : ∃ g, numAt p 15 4 = g := ⟨_, rfl⟩
  obtain ⟨g2, hG2⟩ : ∃ g, numAt p 19 2 = g := ⟨_, rfl⟩
  rw [show getL ((p.drop 15).take 4) = g1 from hG1] at hg1
  rw [show getL ((p.drop 19).take 2) = g2 from hG2] at hg2
  rw [hG1] at hn1
  rw [hG2] at hn2
  have w1 : IntKind.u32.wrap (g1 : Int) = (g1 : Int) := by rw [wrap_u32, Nat.mod_eq_of_lt (by omega)]
  have w2 : IntKind.u16.wrap (g2 : Int) = (g2 : Int) := by rw [wrap_u16, Nat.mod_eq_of_lt (by omega)]
  obtain ⟨y, hy⟩ := list_get (xs := p) (i := 21) (by omega)
  have hy2 : p.getD 21 0 = y := by rw [List.getD_eq_getElem?_getD, hy]; rfl
  have hsz : AV.sizeL ((p.map byteAV).take 21) = 21 * 1 := up.sizeL_take (by simp; omega)
  have c21 : (21 : Int) < ((224 : Nat) : Int) := by omega
  have c22 : (22 : Int) ≤ ((224 : Nat) : Int) := by omega
  simp -dsimp -implicitDefEqProofs only [↓j0, ↓j1, ↓j7, ↓j11, ↓j12, ↓j13, ↓j15, j17, j18, j20, ↓j25, ↓j27, ↓j29, ↓j39, ↓j43, ↓j48, ↓j49, ↓j50, ↓j53, ↓j76, ↓j89, ↓j106, j107, ↓j121, j129, ↓j145, ↓j146, ↓j148, ↓j149, ↓j153, j159, AV.proj, AV.offOf, j171, reduceCtorEq, ↓reduceIte, Nat.reduceMul, Nat.reduceEqDiff, Int.reduceToNat, j182, j185, j196, j197, j207, j208, j222, j223, j227, bndAV, j232, j233, j234, ↓j238, j240, j259, j300, j301, j302, j337, gdSt, gdT, hd, hp, up, hbo, hT]
  refine CallTo.pure (args := [arrAV p]) rfl fok13 (by simp -dsimp -implicitDefEqProofs only [↓j25, ↓j29, j173, j174, ↓reduceIte]) (fun x hx => (args_arr x hx).2) (lsn_spec p hp) ?_
  simp -dsimp -implicitDefEqProofs only [↓j0, ↓j1, ↓j7, ↓j12, ↓j15, j17, j18, j19, j20, j21, j22, j23, ↓j25, ↓j27, ↓j29, ↓j38, ↓j41, ↓j44, ↓j53, ↓j54, ↓j78, ↓j124, j125, j126, j127, j128, ↓j145, ↓j146, ↓j153, partsAV, AV.proj, AV.offOf, AV.upd, AV.size, AV.sizeL, AV.layable, j163, j167, j169, j170, j171, j179, j180, reduceCtorEq, ↓reduceIte, Nat.reduceAdd, Nat.reduceEqDiff, j182, j183, j197, j213, j214, j215, j217, j240, j243, j284, j288, j366, j377]
  refine CallTo.pure (args := [.str ⟨p.toArray⟩, .int .i64 ((15 : Nat) : Int), .int .i64 ((4 : Nat) : Int)]) rfl fok30 (by simp -dsimp -implicitDefEqProofs only [↓j25, ↓j29, ↓j30, j33, j173, j174, ↓reduceIte]; rfl) (fun x hx => (args_sii x hx).2) hg1 ?_
  simp -dsimp -implicitDefEqProofs only [↓j0, ↓j1, ↓j7, ↓j12, ↓j15, j17, j18, j20, ↓j25, ↓j29, ↓j38, ↓j39, ↓j53, ↓j57, j85, ↓j145, j163, j164, j171, ↓reduceIte, Nat.reduceEqDiff]
  refine CallTo.pure (args := [.str ⟨p.toArray⟩, .int .i64 ((19 : Nat) : Int), .int .i64 ((2 : Nat) : Int)]) rfl fok30 (by simp -dsimp -implicitDefEqProofs only [↓j25, ↓j29, ↓j30, j33, j173, j174, ↓reduceIte]; rfl) (fun x hx => (args_sii x hx).2) hg2 ?_
  have uz := unif_bytes (zb 64)
  have hxs : List.take 202 (List.drop 22 (p.map byteAV)) = (p.drop 22).map byteAV := by
    rw [← List.map_drop, List.take_of_length_le (by simp; omega)]
  have hdl : (p.drop 22).length = 202 := by rw [List.length_drop, hp]
  have cp := copyB0 64 64 (zb 64) (p.drop 22)
  have hd0 : (zb 64).drop 64 = [] := rfl
  rw [hd0, List.append_nil] at cp
  have m64 : Nat.min 202 64 = 64 := rfl
  have hlb : ((p.drop 22).take 64).length = 64 := by simp; omega
  simp -dsimp -implicitDefEqProofs only [↓j0, ↓j1, ↓j3, ↓j4, ↓j7, ↓j8, ↓j12, ↓j15, j17, j18, j19, j20, j21, j22, j23, j24, ↓j25, ↓j27, ↓j29, ↓j30, j33, ↓j38, ↓j39, ↓j43, ↓j44, ↓j45, ↓j46, ↓j49, ↓j50, ↓j52, ↓j54, ↓j57, ↓j76, ↓j78, ↓j79, j85, ↓j94, ↓j106, j107, ↓j124, j125, j126, j127, j128, j130, ↓j145, ↓j146, ↓j153, partsAV, AV.proj, AV.offOf, AV.upd, AV.size, AV.sizeL, AV.layable, j163, j164, j166, j167, j168, j169, j170, j171, j172, j173, j174, j177, j179, j180, reduceCtorEq, ↓reduceIte, Nat.reduceAdd, Nat.reduceMul, Nat.reduceEqDiff, Nat.reduceSub, Int.reduceLE, Int.reduceToNat, j182, j183, j189, j196, j197, j206, j207, j208, j213, j214, j215, j216, j217, j222, j223, ↓j225, bndAV, j232, j233, j234, ↓j238, ↓j239, j240, j255, j262, j266, j268, j269, j273, j276, j281, j290, j293, j296, j302, j335, j375, j394, hp, up, hz, w1, w2, hy, hsz, c21, c22, byteAV, bAV, uz, m64, hxs, hdl, cp]
  refine ⟨by kernel_rfl, ?_⟩
  simp -dsimp -implicitDefEqProofs only [↓j0, ↓j1, ↓j7, ↓j10, ↓j12, ↓j15, j17, j18, j19, j20, j21, j22, j23, ↓j25, ↓j27, ↓j29, ↓j30, j33, ↓j39, ↓j43, ↓j44, ↓j76, ↓j78, j129, ↓j145, ↓j146, ↓j153, AV.proj, AV.offOf, AV.upd, AV.size, AV.sizeL, AV.layable, j170, j171, reduceCtorEq, ↓reduceIte, Nat.reduceAdd, Nat.reduceEqDiff, j182, j197, j240, j284, j285, hlb, hzb]
  refine fin (dtOf p, true) _ _ _ (by rw [getData, hok]; rfl) hlb rfl rfl ?_
  show some _ = some _
  rw [show (dtOf p, true).1.av = AV.agg [.int .u64 (lsnOf p), .int .u32 (numAt p 15 4), .agg [.int .u16 (numAt p 19 2), .int .u8 ((p.getD 21 0).toNat : Int)], arrAV ((p.drop 22).take 64)] from rfl, hG1, hG2, hy2]
end Go.Proofs.Ytbellkdglifahaa
