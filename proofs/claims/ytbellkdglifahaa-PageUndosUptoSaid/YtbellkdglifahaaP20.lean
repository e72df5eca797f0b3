/- The law PageTurned. -/
import Derived.Test.YtbellkdglifahaaP19
set_option linter.unusedVariables false
set_option linter.unusedSimpArgs false
namespace Go.Proofs.Ytbellkdglifahaa
open Go Go.RowKit

theorem bXor_u8 (y : UInt8) (v : Nat) : bXor .u8 (y.toNat : Int) (IntKind.u8.wrap (v : Int)) = ((y ^^^ UInt8.ofNat v).toNat : Int) := by
  rw [wrap_u8]
  simp only [bXor, BitVec.ofInt_natCast]
  have h : (BitVec.ofNat IntKind.u8.bits y.toNat ^^^ BitVec.ofNat IntKind.u8.bits (v % 256)).toNat = y.toNat ^^^ (v % 256) := by
    show (BitVec.ofNat 8 y.toNat ^^^ BitVec.ofNat 8 (v % 256)).toNat = _
    rw [BitVec.toNat_xor, BitVec.toNat_ofNat, BitVec.toNat_ofNat, Nat.mod_eq_of_lt y.toNat_lt, Nat.mod_eq_of_lt (Nat.mod_lt _ (by decide))]
  have hl : y.toNat ^^^ (v % 256) < 256 := Nat.xor_lt_two_pow (n := 8) y.toNat_lt (Nat.mod_lt _ (by decide))
  rw [h, wrap_u8, Nat.mod_eq_of_lt hl, UInt8.toNat_xor]
  simp
def ptT (uu : Bool) (no a x i : Nat) : Env := [(15, .int .i64 i), (14, .int .u64 x), (3, .int .i64 a), (11, .ptr 103 0 []), (5, .ptr 100 0 []), (10, .bool false)]
def ptSt (nx : Nat) (uu : Bool) (no a x : Nat) (p0 : List UInt8) (i : Nat) : St := ⟨77, ptT uu no a x i, [(103, .cells (arrAV (tuL p0 (a / 8 + 7) x i))), (100, .cells (idAV uu no))], nx⟩
theorem args_pt {uu : Bool} {no b : Nat} {d : Dt} {u : Ud} {at_ : Int} : ∀ x, x ∈ [idAV uu no, d.av, u.av, AV.int .i64 at_, AV.int .u32 (b : Int)] → AV.on (fun _ => False) x ∧ ∀ vs, x ≠ .tuple vs := fun x hx => by
  simp only [List.mem_cons, List.not_mem_nil, or_false] at hx
  rcases hx with rfl | rfl | rfl | rfl | rfl
  · exact ⟨⟨trivial, trivial, trivial⟩, fun vs h => by cases h⟩
  · exact ⟨on_dt _ _, fun vs h => by cases h⟩
  · exact ⟨on_ud _ _, fun vs h => by cases h⟩
  · exact ⟨trivial, fun vs h => by cases h⟩
  · exact ⟨trivial, fun vs h => by cases h⟩
theorem right_bad (no : Nat) (hno : no < 65536) (p : List UInt8) (hp : p.length = 224) (h : opensP 1 no p = false) : ACall Try.prog 27 [idAV false no, arrAV p] [] (.bool false) [] := by
  have := rightD_spec no hno p hp
  rw [show getOk no p = false by unfold getOk; rw [h]; rfl] at this
  exact this
theorem rightU_bad (no : Nat) (hno : no < 65536) (p : List UInt8) (hp : p.length = 224) (h : opensP 2 no p = false) : ACall Try.prog 27 [idAV true no, arrAV p] [] (.bool false) [] := by
  refine ACall.run (Z := Z) (N := 29) mixed hZ Try.func27 rfl rfl (by kernel_rfl) (by simp) args_idp 0 ?_
  have hc : ((2 : Int) == 0) = false := rfl
  simp -dsimp -implicitDefEqProofs only [↓j0, ↓j1, ↓j7, ↓j12, ↓j13, ↓j15, j17, j18, j20, ↓j25, ↓j27, ↓j29, ↓j30, j32, ↓j39, ↓j42, ↓j43, ↓j45, ↓j53, ↓j76, ↓j79, j129, j130, j131, ↓j145, ↓j146, ↓j147, ↓j149, ↓j153, AV.proj, AV.offOf, AV.size, AV.sizeL, AV.layable, argEnv, j163, j164, j166, j167, j170, j171, j172, reduceCtorEq, ↓reduceIte, Nat.reduceAdd, Nat.reduceEqDiff, j182, j196, j197, j240, j253, j261, j300, j301, j323, j326, hp]
  refine CallTo.pure (args := [.int .u16 no, arrAV p]) rfl fok19 (by simp -dsimp -implicitDefEqProofs only [↓j25, ↓j29, j173, j174, ↓reduceIte, Nat.reduceEqDiff]) (fun x hx => (args_np x hx).2) (getUndo_bad no hno p hp h) ?_
  simp -dsimp -implicitDefEqProofs only [↓j0, ↓j1, ↓j7, ↓j10, ↓j12, ↓j15, j17, j18, j19, j20, j21, j22, j23, ↓j25, ↓j27, ↓j29, ↓j30, j33, ↓j38, ↓j39, ↓j41, ↓j44, ↓j48, ↓j57, ↓j78, j85, ↓j89, ↓j145, ↓j146, ↓j153, j157, AV.proj, AV.offOf, AV.upd, AV.size, AV.sizeL, AV.layable, j163, j164, j170, j171, reduceCtorEq, ↓reduceIte, Nat.reduceAdd, Nat.reduceEqDiff, j182, j185, j197, j312, j370, hc]
  exact Final.one (.inr rfl) (r := .tmp 4) rfl ⟨rfl, fun vs h => by cases h⟩ (fun vs h => by cases h) (fun vs h => by cases h) (.same _ trivial)
theorem putUndo_len {no : Nat} {u : Ud} : (putUndo no u).length = 224 := by
  unfold putUndo
  split
  · rename_i hm
    unfold mayP at hm
    simp only [Bool.and_eq_true, decide_eq_true_eq] at hm
    have := hm.2
    exact sealP_len (by simp only [undoRest, List.length_append, List.length_cons, textL_len, zb_len]; omega)
  · exact zb_len 224
theorem pageTurned_spec (uu : Bool) (no : Nat) (hno : no < 65536) (d : Dt) (hd : d.Ok) (u : Ud) (hu : u.Ok) (hu2 : u.olds.length ≤ 1048576) (at_ : Int) (b : Nat) (hb : b < 4294967296) : ACall Try.prog 7 [idAV uu no, d.av, u.av, .int .i64 at_, .int .u32 b] [] (.bool true) [] := by
  refine ACall.run (Z := Z) (N := 77) mixed hZ Try.func7 rfl rfl (by kernel_rfl) (by simp) args_pt 100 ?_
  have ret : ∀ (t : Env) (H : Heap) (m : Nat), look t 10 = some (.bool true) → Final Try.prog Try.f7 (.bool true) [] .ret ⟨77, t, H, m⟩ := fun t H m h =>
    Final.one (.inr rfl) (r := .tmp 10) rfl ⟨h, fun vs h => by cases h⟩ (fun vs h => by cases h) (fun vs h => by cases h) (.same _ trivial)
  have nil0 : ∀ x : AV, x ∈ ([] : List AV) → ∀ vs, x ≠ .tuple vs := fun x hx => by simp at hx
  by_cases hb0 : b = 0
  · have e : ((b : Int) == 0) = true := by rw [hb0]; rfl
    simp -dsimp -implicitDefEqProofs only [↓j0, ↓j1, ↓j7, ↓j12, ↓j13, ↓j15, j17, j18, j20, ↓j25, ↓j29, ↓j30, j32, j33, ↓j38, ↓j39, ↓j42, ↓j48, ↓j53, ↓j89, ↓j145, ↓j146, ↓j147, ↓j149, j157, AV.layable, argEnv, j170, j171, j172, reduceCtorEq, ↓reduceIte, Nat.reduceAdd, Nat.reduceEqDiff, j185, j196, e]
    refine CallTo.pure (args := []) rfl fok15 rfl nil0 awake_spec ?_
    simp -dsimp -implicitDefEqProofs only [↓j0, ↓j1, ↓j10, j17, j18, j20, ↓j25, ↓j29, ↓j39, ↓j145, j171, ↓reduceIte]
    exact ret _ _ _ rfl
  have e : ((b : Int) == 0) = false := by
    have : ¬ ((b : Int) = 0) := by omega
    simpa using this
  obtain ⟨a, ha, ha2⟩ : ∃ a : Nat, IntKind.i64.wrap ((IntKind.u64.wrap at_).tmod 1704) = (a : Int) ∧ a < 1704 := by
    have h0 : 0 ≤ IntKind.u64.wrap at_ := by
      simp only [IntKind.wrap, IntKind.signed, IntKind.bits]
      exact Int.emod_nonneg _ (by decide)
    have h1 : (IntKind.u64.wrap at_).tmod 1704 = (IntKind.u64.wrap at_) % 1704 := Int.tmod_eq_emod_of_nonneg h0
    refine ⟨((IntKind.u64.wrap at_) % 1704).toNat, ?_, by omega⟩
    rw [h1, wrap_i64 (by omega) (by omega)]; omega
  have r1 : IntKind.u64.wrap (b : Int) = (b : Int) := by rw [wrap_u64, Nat.mod_eq_of_lt (by omega)]
  have r2 : (a : Int).tmod 8 = ((a % 8 : Nat) : Int) := by rw [Int.tmod_eq_emod_of_nonneg (by omega)]; omega
  have r3 : (((a % 8 : Nat) : Int) < 0) = False := by simp; omega
  have r4 : bShl .u64 (b : Int) ((a % 8 : Nat) : Int) = ((b * 2 ^ (a % 8) : Nat) : Int) := by
    have h1 : (2 : Nat) ^ (a % 8) ≤ 2 ^ 7 := Nat.pow_le_pow_right (by decide) (by omega)
    have h2 : b * 2 ^ (a % 8) ≤ 4294967295 * 2 ^ 7 := Nat.mul_le_mul (by omega) h1
    rw [bShl_u64, Nat.min_eq_left (by omega), Nat.mod_eq_of_lt (by omega)]
  have hpl := putData_len (no := no) hd
  have hbd := hd.body
  have hz := zb_len 224
  simp -dsimp -implicitDefEqProofs only [↓j0, ↓j1, ↓j7, ↓j9, ↓j12, ↓j13, ↓j15, j17, j18, j20, ↓j25, ↓j27, ↓j29, ↓j30, j32, j33, ↓j38, ↓j39, ↓j42, ↓j43, ↓j45, ↓j48, ↓j53, ↓j76, ↓j79, ↓j89, j129, j130, ↓j145, ↓j146, ↓j148, ↓j149, ↓j153, j157, AV.proj, AV.offOf, AV.size, AV.sizeL, AV.layable, argEnv, j163, j164, j166, j167, j170, j171, j172, reduceCtorEq, ↓reduceIte, Nat.reduceAdd, Nat.reduceEqDiff, j182, j185, j196, j197, j240, j261, j284, j285, j326, e, hbd]
  refine CallTo.pure (args := [.int .u16 no, d.av]) rfl fok11 (by simp -dsimp -implicitDefEqProofs only [↓j25, ↓j29, j173, j174, ↓reduceIte, Nat.reduceEqDiff]) (fun x hx => (args_nd x hx).2) (putData_spec no hno d hd) ?_
  cases uu
  · have ho : opensP 1 no (putData no d) = true := by
      have := (dt_back hno hd).2
      unfold getOk at this
      rw [Bool.and_eq_true] at this
      exact this.1
    obtain ⟨p0, hpe⟩ : ∃ p, putData no d = p := ⟨_, rfl⟩
    rw [hpe] at ho hpl
    have hp0 := hpl
    simp -dsimp -implicitDefEqProofs only [↓j0, ↓j1, ↓j7, ↓j9, ↓j12, ↓j13, ↓j14, ↓j15, ↓j16, j17, j18, j19, j20, j21, j22, j23, ↓j25, ↓j27, ↓j29, ↓j30, j33, ↓j38, ↓j39, ↓j41, ↓j43, ↓j44, ↓j45, ↓j48, ↓j50, ↓j76, ↓j78, ↓j79, ↓j89, j109, j113, j118, j131, ↓j145, ↓j146, ↓j148, ↓j149, ↓j153, AV.proj, AV.offOf, AV.upd, AV.size, AV.sizeL, AV.layable, j163, j167, j170, j171, reduceCtorEq, ↓reduceIte, Nat.reduceAdd, Nat.reduceEqDiff, Int.reduceEq, j182, j185, j186, j197, ↓j225, j240, j251, j253, j265, j300, j323, j332, j367, j389, j395, j404, hpe, hpl, hz, ha, r1, r2, r3, r4]
    refine AWp.loopR (Z := Z) mixed hZ (by kernel_rfl) (fun n s => ∃ i, i + n = 5 ∧ s = ptSt 104 false no a (b * 2 ^ (a % 8)) p0 i) (n0 := 5) (s0 := ptSt 104 false no a (b * 2 ^ (a % 8)) p0 0) ?_ ⟨0, by omega, rfl⟩ ?_ rfl
    · exact Wk.sub (by simp -dsimp -implicitDefEqProofs only [↓j25, ↓j27, j179, ↓reduceIte, Nat.reduceEqDiff, j182, j183, j184, j202, j203, j204, j205, j209, j223, ptT, tuL] <;> simp)
    rintro n s ⟨i, hi, rfl⟩
    refine ⟨rfl, ?_⟩
    have htl := tuL_len p0 (a / 8 + 7) (b * 2 ^ (a % 8)) i
    rw [hp0] at htl
    rcases Nat.lt_or_ge i 5 with hlt | hge
    · have hd : decide ((i : Int) < 5) = true := decide_eq_true (by omega)
      have hw : IntKind.i64.wrap ((i : Int) + 1) = ((i + 1 : Nat) : Int) := by rw [wrap_i64 (by omega) (by omega)]; omega
      have q1 : IntKind.i64.wrap ((a : Int).tdiv 8) = ((a / 8 : Nat) : Int) := by
        rw [Int.tdiv_eq_ediv_of_nonneg (by omega), wrap_i64 (by omega) (by omega)]; omega
      have q2 : IntKind.i64.wrap (((a / 8 : Nat) : Int) + 7) = ((a / 8 + 7 : Nat) : Int) := by rw [wrap_i64 (by omega) (by omega)]; omega
      have q3 : IntKind.i64.wrap (((a / 8 + 7 : Nat) : Int) + (i : Int)) = ((a / 8 + 7 + i : Nat) : Int) := by rw [wrap_i64 (by omega) (by omega)]; omega
      have q4 : decide (((a / 8 + 7 + i : Nat) : Int) < 224) = true := decide_eq_true (by omega)
      have q5 : ((a / 8 + 7 + i : Nat) : Int) < ((224 : Nat) : Int) := by omega
      have q6 : IntKind.i64.wrap (8 * (i : Int)) = ((8 * i : Nat) : Int) := by rw [wrap_i64 (by omega) (by omega)]; omega
      have q7 : (((8 * i : Nat) : Int) < 0) = False := by simp; omega
      have q8 : bShr .u64 ((b * 2 ^ (a % 8) : Nat) : Int) ((8 * i : Nat) : Int) = ((b * 2 ^ (a % 8) / 2 ^ (8 * i) : Nat) : Int) := by
        rw [bShr_nat, show IntKind.u64.bits = 64 from rfl, Nat.min_eq_left (by omega)]
      obtain ⟨k, hk⟩ : ∃ k, a / 8 + 7 + i = k := ⟨_, rfl⟩
      obtain ⟨q, hq⟩ : ∃ q, tuL p0 (a / 8 + 7) (b * 2 ^ (a % 8)) i = q := ⟨_, rfl⟩
      have hstep : tuL p0 (a / 8 + 7) (b * 2 ^ (a % 8)) (i + 1) = q.set k (q.getD k 0 ^^^ UInt8.ofNat (b * 2 ^ (a % 8) / 2 ^ (8 * i))) := by rw [tuL, hq, hk]
      rw [hk] at q3 q4 q5
      rw [hq] at htl
      obtain ⟨y, hy⟩ := list_get (xs := q) (i := k) (by omega)
      have hyd : q.getD k 0 = y := by rw [List.getD_eq_getElem?_getD, hy]; rfl
      have hsz : AV.sizeL ((q.map byteAV).take k) = k * 1 := (unif_bytes q).sizeL_take (by simp; omega)
      have q9 : bXor .u8 (y.toNat : Int) (IntKind.u8.wrap ((b * 2 ^ (a % 8) / 2 ^ (8 * i) : Nat) : Int)) = ((y ^^^ UInt8.ofNat (b * 2 ^ (a % 8) / 2 ^ (8 * i))).toNat : Int) := bXor_u8 _ _
      have hset : (q.map byteAV).set k (AV.int .u8 ((y ^^^ UInt8.ofNat (b * 2 ^ (a % 8) / 2 ^ (8 * i))).toNat : Int)) = (tuL p0 (a / 8 + 7) (b * 2 ^ (a % 8)) (i + 1)).map byteAV := by
        rw [hstep, hyd, List.map_set]; rfl
      simp -dsimp -implicitDefEqProofs only [↓j0, ↓j1, ↓j3, ↓j4, ↓j7, ↓j8, ↓j9, ↓j12, ↓j13, ↓j14, ↓j15, j17, j18, j19, j20, j21, j22, j23, j24, ↓j25, ↓j27, ↓j29, ↓j30, j33, ↓j38, ↓j43, ↓j44, ↓j46, ↓j48, ↓j50, ↓j76, ↓j78, ↓j89, ↓j94, j108, j112, j114, j119, j130, ↓j145, ↓j146, ↓j147, ↓j149, ↓j153, j154, j156, j159, AV.proj, AV.offOf, AV.upd, AV.size, AV.layable, j170, j171, j172, j173, j174, j177, reduceCtorEq, ↓reduceIte, Nat.reduceEqDiff, Int.reduceEq, j182, j185, j186, j196, j197, j206, j207, j208, ↓j225, j254, j255, j256, j302, j394, ptSt, ptT, hq, hd, q1, q2, q3, q4, q5, q6, q7, q8, hy, hsz, byteAV, q9, hset]
      refine ⟨by kernel_rfl, ?_⟩
      simp -dsimp -implicitDefEqProofs only [↓j0, ↓j1, ↓j7, ↓j15, j17, j18, j20, ↓j25, ↓j29, ↓j30, j33, ↓j38, ↓j39, ↓j48, ↓j89, ↓j145, ↓j146, j154, j171, ↓reduceIte, Nat.reduceEqDiff, j185]
      exact ⟨n - 1, ptSt 104 false no a (b * 2 ^ (a % 8)) p0 (i + 1), by omega, ⟨i + 1, by omega, rfl⟩, Wk.sub (by simp -dsimp -implicitDefEqProofs only [↓j25, ↓j27, ↓reduceIte, Nat.reduceEqDiff, j182, j202, j203, j204, j205, j223, ptT, hw] <;> simp)⟩
    have hi5 : i = 5 := by omega
    subst hi5
    have hd : decide (((5 : Nat) : Int) < 5) = false := rfl
    have hsh := turned_shut (s := a % 8) hp0 (show 7 ≤ a / 8 + 7 by omega) (by omega) hb0 hb (by omega) ho 1 no
    obtain ⟨q, hq⟩ : ∃ q, tuL p0 (a / 8 + 7) (b * 2 ^ (a % 8)) 5 = q := ⟨_, rfl⟩
    rw [hq] at hsh htl
    simp -dsimp -implicitDefEqProofs only [↓j0, ↓j1, ↓j7, ↓j11, ↓j12, ↓j13, ↓j15, j17, j18, j20, ↓j25, ↓j27, ↓j29, ↓j30, j33, ↓j38, ↓j43, ↓j48, ↓j53, ↓j76, ↓j89, j129, ↓j145, ↓j146, ↓j148, ↓j149, ↓j153, j159, AV.proj, AV.offOf, AV.size, AV.sizeL, j171, ↓reduceIte, Nat.reduceAdd, Nat.reduceEqDiff, j182, j185, j197, j240, j300, j301, j320, j321, ptSt, ptT, hq, hd, htl]
    refine CallTo.pure (args := [idAV false no, arrAV q]) rfl fok27 (by simp -dsimp -implicitDefEqProofs only [↓j25, ↓j29, j173, j174, ↓reduceIte, Nat.reduceEqDiff]) (fun x hx => (args_idp x hx).2) (right_bad no hno q htl hsh) ?_
    simp -dsimp -implicitDefEqProofs only [↓j1, ↓j2, j17, j18, j20, ↓j25, ↓j29, ↓j38, ↓j53, ↓j55, j84, ↓j145, ↓j147, ↓j150, j163, j164, j171, j175, ↓reduceIte, j194]
    refine CallTo.pure (args := []) rfl fok15 rfl nil0 awake_spec ?_
    simp -dsimp -implicitDefEqProofs only [↓j0, ↓j1, ↓j10, j17, j18, j20, ↓j25, ↓j29, ↓j30, j32, ↓j39, ↓j40, j83, ↓j145, j171, ↓reduceIte, Nat.reduceEqDiff]
    exact ret _ _ _ rfl
  · have hks := kept_spec u hu hu2
    have hps := putUndo_spec no hno u hu
    simp -dsimp -implicitDefEqProofs only [↓j0, ↓j1, ↓j4, ↓j7, ↓j8, ↓j12, ↓j13, ↓j15, j17, j18, j19, j20, j21, j22, j23, j24, ↓j25, ↓j27, ↓j29, ↓j41, ↓j43, ↓j44, ↓j45, ↓j53, ↓j76, ↓j78, ↓j79, j129, j130, j131, ↓j145, ↓j146, ↓j147, ↓j149, ↓j153, AV.proj, AV.offOf, AV.upd, AV.size, AV.sizeL, AV.layable, j163, j164, j166, j167, j170, j171, j172, j174, ↓reduceIte, Nat.reduceAdd, Nat.reduceEqDiff, j182, j196, j197, j240, j253, j261, j300, j312, j313, j323, j326, j367, hpl, hz]
    refine CallTo.pure (args := [u.av]) rfl fok17 (by simp -dsimp -implicitDefEqProofs only [↓j25, ↓j29, j173, j174, ↓reduceIte]) (fun x hx => (args_ud x hx).2) hks ?_
    simp -dsimp -implicitDefEqProofs only [↓j4, j17, j18, j20, j24, ↓j53, j170, j171, j172, j174]
    refine CallTo.pure (args := [.int .u16 no, u.av]) rfl fok16 (by simp -dsimp -implicitDefEqProofs only [↓j25, ↓j29, j173, j174, ↓reduceIte, Nat.reduceEqDiff]) (fun x hx => (args_nu x hx).2) hps ?_
    have hql : (putUndo no u).length = 224 := putUndo_len
    cases hm : mayP u
    · simp -dsimp -implicitDefEqProofs only [↓j3, ↓j4, j17, j18, j19, j20, j21, j22, j23, j24, ↓j25, ↓j27, ↓j29, ↓j38, ↓j39, ↓j41, ↓j44, ↓j57, ↓j78, j85, ↓j145, ↓j146, ↓j153, AV.proj, AV.offOf, AV.upd, AV.size, AV.layable, j163, j164, j170, j171, j172, j173, j174, ↓reduceIte, Nat.reduceAdd, Nat.reduceEqDiff, j182, j195, j240, j300, j367, hz, hql, hm]
      refine ⟨by kernel_rfl, ?_⟩
      have i1 : ((1 : Int) != 0) = true := rfl
      simp -dsimp -implicitDefEqProofs only [↓j0, ↓j1, ↓j7, ↓j12, ↓j13, ↓j15, j17, j18, j20, ↓j25, ↓j29, ↓j30, j33, ↓j38, ↓j48, ↓j53, ↓j89, ↓j145, ↓j146, ↓j147, ↓j149, j158, j171, ↓reduceIte, j185, i1]
      refine CallTo.pure (args := []) rfl fok15 rfl nil0 awake_spec ?_
      simp -dsimp -implicitDefEqProofs only [↓j0, ↓j1, ↓j10, j17, j18, j20, ↓j25, ↓j29, ↓j39, ↓j145, j171, ↓reduceIte]
      exact ret _ _ _ rfl
    have ho : opensP 2 no (putUndo no u) = true := by
      unfold putUndo; rw [hm]
      have := opens_seal (k := 2) (k' := 2) (no := no) (no' := no) (lsn := u.lsn) (t := undoRest u ++ zb (208 - sumS u.olds)) hno hu.lsn
      rw [show (if true = true then sealP 2 no u.lsn (undoRest u ++ zb (208 - sumS u.olds)) else zb 224) = sealP 2 no u.lsn (undoRest u ++ zb (208 - sumS u.olds)) from rfl, this]
      simp
    obtain ⟨p0, hpe⟩ : ∃ p, putUndo no u = p := ⟨_, rfl⟩
    rw [hpe] at ho hql
    have hp0 := hql
    simp -dsimp -implicitDefEqProofs only [↓j3, ↓j4, j17, j18, j19, j20, j21, j22, j23, j24, ↓j25, ↓j27, ↓j29, ↓j38, ↓j39, ↓j41, ↓j44, ↓j57, ↓j78, j85, ↓j145, ↓j146, ↓j153, AV.proj, AV.offOf, AV.upd, AV.size, AV.layable, j163, j164, j170, j171, j172, j173, j174, ↓reduceIte, Nat.reduceAdd, Nat.reduceEqDiff, j182, j240, j300, j367, hz, hpe, hql, hm]
    refine ⟨by kernel_rfl, ?_⟩
    have i0 : ((0 : Int) != 0) = false := rfl
    simp -dsimp -implicitDefEqProofs only [↓j0, ↓j1, ↓j7, ↓j9, ↓j12, ↓j13, ↓j14, ↓j15, ↓j16, j17, j18, j19, j20, j21, j22, j23, ↓j25, ↓j27, ↓j29, ↓j30, j33, ↓j38, ↓j39, ↓j43, ↓j44, ↓j48, ↓j50, ↓j76, ↓j78, ↓j89, j109, j113, j118, j129, ↓j145, ↓j146, ↓j148, ↓j149, ↓j153, j158, AV.proj, AV.offOf, AV.upd, AV.size, AV.layable, j170, j171, reduceCtorEq, ↓reduceIte, Nat.reduceEqDiff, Int.reduceEq, j182, j185, j186, ↓j225, j240, j251, j265, j300, j301, j332, j389, j395, j404, i0, hql, hpl, ha, r1, r2, r3, r4]
    refine AWp.loopR (Z := Z) mixed hZ (by kernel_rfl) (fun n s => ∃ i, i + n = 5 ∧ s = ptSt 105 true no a (b * 2 ^ (a % 8)) p0 i) (n0 := 5) (s0 := ptSt 105 true no a (b * 2 ^ (a % 8)) p0 0) ?_ ⟨0, by omega, rfl⟩ ?_ rfl
    · exact Wk.sub (by simp -dsimp -implicitDefEqProofs only [↓j25, ↓j27, j179, ↓reduceIte, Nat.reduceEqDiff, j182, j183, j184, j202, j203, j204, j205, j209, j223, ptT, tuL] <;> simp)
    rintro n s ⟨i, hi, rfl⟩
    refine ⟨rfl, ?_⟩
    have htl := tuL_len p0 (a / 8 + 7) (b * 2 ^ (a % 8)) i
    rw [hp0] at htl
    rcases Nat.lt_or_ge i 5 with hlt | hge
    · have hd : decide ((i : Int) < 5) = true := decide_eq_true (by omega)
      have hw : IntKind.i64.wrap ((i : Int) + 1) = ((i + 1 : Nat) : Int) := by rw [wrap_i64 (by omega) (by omega)]; omega
      have q1 : IntKind.i64.wrap ((a : Int).tdiv 8) = ((a / 8 : Nat) : Int) := by
        rw [Int.tdiv_eq_ediv_of_nonneg (by omega), wrap_i64 (by omega) (by omega)]; omega
      have q2 : IntKind.i64.wrap (((a / 8 : Nat) : Int) + 7) = ((a / 8 + 7 : Nat) : Int) := by rw [wrap_i64 (by omega) (by omega)]; omega
      have q3 : IntKind.i64.wrap (((a / 8 + 7 : Nat) : Int) + (i : Int)) = ((a / 8 + 7 + i : Nat) : Int) := by rw [wrap_i64 (by omega) (by omega)]; omega
      have q4 : decide (((a / 8 + 7 + i : Nat) : Int) < 224) = true := decide_eq_true (by omega)
      have q5 : ((a / 8 + 7 + i : Nat) : Int) < ((224 : Nat) : Int) := by omega
      have q6 : IntKind.i64.wrap (8 * (i : Int)) = ((8 * i : Nat) : Int) := by rw [wrap_i64 (by omega) (by omega)]; omega
      have q7 : (((8 * i : Nat) : Int) < 0) = False := by simp; omega
      have q8 : bShr .u64 ((b * 2 ^ (a % 8) : Nat) : Int) ((8 * i : Nat) : Int) = ((b * 2 ^ (a % 8) / 2 ^ (8 * i) : Nat) : Int) := by
        rw [bShr_nat, show IntKind.u64.bits = 64 from rfl, Nat.min_eq_left (by omega)]
      obtain ⟨k, hk⟩ : ∃ k, a / 8 + 7 + i = k := ⟨_, rfl⟩
      obtain ⟨q, hq⟩ : ∃ q, tuL p0 (a / 8 + 7) (b * 2 ^ (a % 8)) i = q := ⟨_, rfl⟩
      have hstep : tuL p0 (a / 8 + 7) (b * 2 ^ (a % 8)) (i + 1) = q.set k (q.getD k 0 ^^^ UInt8.ofNat (b * 2 ^ (a % 8) / 2 ^ (8 * i))) := by rw [tuL, hq, hk]
      rw [hk] at q3 q4 q5
      rw [hq] at htl
      obtain ⟨y, hy⟩ := list_get (xs := q) (i := k) (by omega)
      have hyd : q.getD k 0 = y := by rw [List.getD_eq_getElem?_getD, hy]; rfl
      have hsz : AV.sizeL ((q.map byteAV).take k) = k * 1 := (unif_bytes q).sizeL_take (by simp; omega)
      have q9 : bXor .u8 (y.toNat : Int) (IntKind.u8.wrap ((b * 2 ^ (a % 8) / 2 ^ (8 * i) : Nat) : Int)) = ((y ^^^ UInt8.ofNat (b * 2 ^ (a % 8) / 2 ^ (8 * i))).toNat : Int) := bXor_u8 _ _
      have hset : (q.map byteAV).set k (AV.int .u8 ((y ^^^ UInt8.ofNat (b * 2 ^ (a % 8) / 2 ^ (8 * i))).toNat : Int)) = (tuL p0 (a / 8 + 7) (b * 2 ^ (a % 8)) (i + 1)).map byteAV := by
        rw [hstep, hyd, List.map_set]; rfl
      simp -dsimp -implicitDefEqProofs only [↓j0, ↓j1, ↓j3, ↓j4, ↓j7, ↓j8, ↓j9, ↓j12, ↓j13, ↓j14, ↓j15, j17, j18, j19, j20, j21, j22, j23, j24, ↓j25, ↓j27, ↓j29, ↓j30, j33, ↓j38, ↓j43, ↓j44, ↓j46, ↓j48, ↓j50, ↓j76, ↓j78, ↓j89, ↓j94, j108, j112, j114, j119, j130, ↓j145, ↓j146, ↓j147, ↓j149, ↓j153, j154, j156, j159, AV.proj, AV.offOf, AV.upd, AV.size, AV.layable, j170, j171, j172, j173, j174, j177, reduceCtorEq, ↓reduceIte, Nat.reduceEqDiff, Int.reduceEq, j182, j185, j186, j196, j197, j206, j207, j208, ↓j225, j254, j255, j256, j302, j394, ptSt, ptT, hq, hd, q1, q2, q3, q4, q5, q6, q7, q8, hy, hsz, byteAV, q9, hset]
      refine ⟨by kernel_rfl, ?_⟩
      simp -dsimp -implicitDefEqProofs only [↓j0, ↓j1, ↓j7, ↓j15, j17, j18, j20, ↓j25, ↓j29, ↓j30, j33, ↓j38, ↓j39, ↓j48, ↓j89, ↓j145, ↓j146, j154, j171, ↓reduceIte, Nat.reduceEqDiff, j185]
      exact ⟨n - 1, ptSt 105 true no a (b * 2 ^ (a % 8)) p0 (i + 1), by omega, ⟨i + 1, by omega, rfl⟩, Wk.sub (by simp -dsimp -implicitDefEqProofs only [↓j25, ↓j27, ↓reduceIte, Nat.reduceEqDiff, j182, j202, j203, j204, j205, j223, ptT, hw] <;> simp)⟩
    have hi5 : i = 5 := by omega
    subst hi5
    have hd : decide (((5 : Nat) : Int) < 5) = false := rfl
    have hsh := turned_shut (s := a % 8) hp0 (show 7 ≤ a / 8 + 7 by omega) (by omega) hb0 hb (by omega) ho 2 no
    obtain ⟨q, hq⟩ : ∃ q, tuL p0 (a / 8 + 7) (b * 2 ^ (a % 8)) 5 = q := ⟨_, rfl⟩
    rw [hq] at hsh htl
    simp -dsimp -implicitDefEqProofs only [↓j0, ↓j1, ↓j7, ↓j11, ↓j12, ↓j13, ↓j15, j17, j18, j20, ↓j25, ↓j27, ↓j29, ↓j30, j33, ↓j38, ↓j43, ↓j48, ↓j53, ↓j76, ↓j89, j129, ↓j145, ↓j146, ↓j148, ↓j149, ↓j153, j159, AV.proj, AV.offOf, AV.size, AV.sizeL, j171, ↓reduceIte, Nat.reduceAdd, Nat.reduceEqDiff, j182, j185, j197, j240, j300, j301, j320, j321, ptSt, ptT, hq, hd, htl]
    refine CallTo.pure (args := [idAV true no, arrAV q]) rfl fok27 (by simp -dsimp -implicitDefEqProofs only [↓j25, ↓j29, j173, j174, ↓reduceIte, Nat.reduceEqDiff]) (fun x hx => (args_idp x hx).2) (rightU_bad no hno q htl hsh) ?_
    simp -dsimp -implicitDefEqProofs only [↓j1, ↓j2, j17, j18, j20, ↓j25, ↓j29, ↓j38, ↓j53, ↓j55, j84, ↓j145, ↓j147, ↓j150, j163, j164, j171, j175, ↓reduceIte, j194]
    refine CallTo.pure (args := []) rfl fok15 rfl nil0 awake_spec ?_
    simp -dsimp -implicitDefEqProofs only [↓j0, ↓j1, ↓j10, j17, j18, j20, ↓j25, ↓j29, ↓j30, j32, ↓j39, ↓j40, j83, ↓j145, j171, ↓reduceIte, Nat.reduceEqDiff]
    exact ret _ _ _ rfl
end Go.Proofs.Ytbellkdglifahaa
