/- The law PageUnlike. -/
import Derived.Test.YtbellkdglifahaaP11
set_option linter.unusedVariables false
set_option linter.unusedSimpArgs false
namespace Go.Proofs.Ytbellkdglifahaa
open Go Go.RowKit

theorem getUndo_bad (no : Nat) (hno : no < 65536) (p : List UInt8) (hp : p.length = 224) (h : opensP 2 no p = false) : ACall Try.prog 19 [.int .u16 no, arrAV p] [] (.tuple [.agg [.int .u64 0, .vsl [] 0], .int .i64 2]) [] := by
  refine ACall.run (Z := Z) (N := 146) mixed hZ Try.func19 rfl rfl (by kernel_rfl) (by simp) args_np 0 ?_
  have ho := opens_spec 2 no hno p hp
  rw [h] at ho
  simp -dsimp -implicitDefEqProofs only [↓j0, ↓j1, ↓j7, ↓j12, ↓j15, j17, j18, j20, ↓j25, ↓j27, ↓j29, ↓j30, j33, ↓j38, ↓j39, ↓j41, ↓j42, ↓j43, ↓j53, ↓j76, j129, ↓j145, ↓j146, ↓j153, AV.proj, AV.offOf, AV.layable, argEnv, j170, j171, j172, reduceCtorEq, ↓reduceIte, Nat.reduceAdd, Nat.reduceEqDiff, j182, j196, j240, j300, j301, j370, hp]
  refine CallTo.pure (args := [.int .u8 ((2 : UInt8).toNat : Nat), .int .u16 no, arrAV p]) rfl fok29 (by simp -dsimp -implicitDefEqProofs only [↓j25, ↓j29, ↓j30, j33, j173, j174, ↓reduceIte, Nat.reduceEqDiff]; rfl) (fun x hx => (args_opens x hx).2) ho ?_
  simp -dsimp -implicitDefEqProofs only [↓j0, ↓j1, ↓j7, ↓j10, ↓j12, ↓j13, ↓j15, j17, j18, j19, j20, j21, j22, j23, ↓j25, ↓j27, ↓j29, ↓j30, j33, ↓j39, ↓j44, ↓j54, ↓j55, ↓j78, j84, ↓j124, j125, j127, ↓j145, ↓j146, ↓j147, ↓j149, ↓j153, partsAV, AV.proj, AV.offOf, AV.upd, AV.size, AV.sizeL, AV.layable, j170, j171, reduceCtorEq, ↓reduceIte, Nat.reduceAdd, Nat.reduceEqDiff, j182, j194, j197, j214, j218, j219, j312, j382]
  exact Final.many (.inr rfl) (rs := [.cell 4 44, .tmp 5]) (us := [.agg [.int .u64 0, .nilsl], .int .i64 2]) rfl ⟨⟨1, 0, [], _, rfl, rfl, rfl, rfl, by simp -dsimp -implicitDefEqProofs only [j129, AV.size, AV.sizeL, Nat.reduceAdd, j182, j197, j312, j313]⟩, ⟨rfl, fun vs h => by cases h⟩, trivial⟩ (by simp) ⟨Frz.agg _ _ rfl (fun k hk => match k, hk with | 0, _ => .same _ trivial | 1, _ => .nil), .same _ trivial, trivial⟩
theorem put_unlike {no on : Nat} (hno : no < 65536) (hon : on < 65536) {a b : Dt} (ha : a.Ok) (hb : b.Ok) : (putData no a == putData on b) = (((no : Int) == (on : Int)) && a.eqb b) := by
  rw [Bool.eq_iff_iff, Bool.and_eq_true, beq_iff_eq, beq_iff_eq, Dt.eqb_iff]
  constructor
  · intro h
    have h1 := (seal_parts (k := 1) (no := no) (lsn := a.lsn) (t := dtRest a ++ zb 138) hno ha.lsn).2.1
    have h2 := (seal_parts (k := 1) (no := on) (lsn := b.lsn) (t := dtRest b ++ zb 138) hon hb.lsn).2.1
    have h1 : numAt (putData no a) 1 2 = no := h1
    have h2 : numAt (putData on b) 1 2 = on := h2
    rw [h, h2] at h1
    have d1 := (dt_back hno ha).1
    rw [h, (dt_back hon hb).1] at d1
    exact ⟨by omega, d1.symm⟩
  · rintro ⟨h1, rfl⟩
    have : no = on := by omega
    rw [this]
theorem get_unlike {no on : Nat} (hno : no < 65536) (hon : on < 65536) {a : Dt} (ha : a.Ok) : (getData on (putData no a)).2 = ((no : Int) == (on : Int)) := by
  have hO : opensP 1 on (putData no a) = ((((1 : UInt8).toNat : Int) == ((1 : UInt8).toNat : Int)) && ((no : Int) == (on : Int))) := opens_seal hno ha.lsn
  have hg : getOk on (putData no a) = ((no : Int) == (on : Int)) := by
    have h0 := (dt_back hno ha).2
    unfold getOk at h0 ⊢
    rw [Bool.and_eq_true] at h0
    rw [h0.2, Bool.and_true, hO]; simp
  unfold getData
  rw [hg]
  cases ((no : Int) == (on : Int)) <;> rfl
theorem args_nodd {no on : Nat} {a b : Dt} : ∀ x, x ∈ [AV.int .u16 (no : Int), .int .u16 (on : Int), a.av, b.av] → AV.on (fun _ => False) x ∧ ∀ vs, x ≠ .tuple vs := fun x hx => by
  simp only [List.mem_cons, List.not_mem_nil, or_false] at hx
  rcases hx with rfl | rfl | rfl | rfl
  · exact ⟨trivial, fun vs h => by cases h⟩
  · exact ⟨trivial, fun vs h => by cases h⟩
  · exact ⟨on_dt _ _, fun vs h => by cases h⟩
  · exact ⟨on_dt _ _, fun vs h => by cases h⟩
theorem pageUnlike_spec (no on : Nat) (hno : no < 65536) (hon : on < 65536) (a b : Dt) (ha : a.Ok) (hb : b.Ok) : ACall Try.prog 8 [.int .u16 no, .int .u16 on, a.av, b.av] [] (.bool true) [] := by
  refine ACall.run (Z := Z) (N := 58) mixed hZ Try.func8 rfl rfl (by kernel_rfl) (by simp) args_nodd 0 ?_
  have nil0 : ∀ x : AV, x ∈ ([] : List AV) → ∀ vs, x ≠ .tuple vs := fun x hx => by simp at hx
  have hal := ha.body
  have hbl := hb.body
  have hp := putData_len (no := no) ha
  have hq := putData_len (no := on) hb
  have hz := zb_len 224
  have hun := put_unlike hno hon ha hb
  have hgu := get_unlike hno hon ha
  have hbad : opensP 2 no (putData no a) = false := by
    have : opensP 2 no (putData no a) = ((((1 : UInt8).toNat : Int) == ((2 : UInt8).toNat : Int)) && ((no : Int) == (no : Int))) := opens_seal hno ha.lsn
    rw [this]; rfl
  have hps := putData_spec no hno a ha
  have hqs := putData_spec on hon b hb
  have hgd := getData_spec on hon (putData no a) hp
  have hgl := getData_len (no := on) hp
  have hub := getUndo_bad no hno (putData no a) hp hbad
  obtain ⟨p, hpe⟩ : ∃ p, putData no a = p := ⟨_, rfl⟩
  obtain ⟨q, hqe⟩ : ∃ q, putData on b = q := ⟨_, rfl⟩
  rw [hpe] at hp hps hgd hgl hub hgu
  rw [hqe] at hq hqs
  rw [hpe, hqe] at hun
  obtain ⟨⟨D, g⟩, hr⟩ : ∃ r, getData on p = r := ⟨_, rfl⟩
  rw [hr] at hgd hgl hgu
  have hgl : D.body.length = 64 := hgl
  have hgu : g = ((no : Int) == (on : Int)) := hgu
  have hce := cellsEq_bytes (l := p) (k := q) (by omega)
  have hk1 := kinds_bytes hp
  have hk2 := kinds_bytes hq
  have hcd := cellsEq_dt a b (by omega)
  obtain ⟨n1, hn1⟩ : ∃ n1, ((no : Int) == (on : Int)) = n1 := ⟨_, rfl⟩
  obtain ⟨n2, hn2⟩ : ∃ n2, a.eqb b = n2 := ⟨_, rfl⟩
  rw [hn1, hn2] at hun
  rw [hn1] at hgu
  rw [hun] at hce
  rw [hn2] at hcd
  rw [hgu] at hgd
  have hz64 := zb_len 64
  have hc3 : ((if n1 then (0 : Int) else 2) == 0) = n1 := by cases n1 <;> rfl
  have hc4 : (n1 == n1) = true := by cases n1 <;> rfl
  simp -dsimp -implicitDefEqProofs only [↓j0, ↓j1, ↓j4, ↓j7, ↓j8, ↓j12, ↓j15, j17, j18, j20, j24, ↓j25, ↓j27, ↓j29, ↓j30, j32, ↓j38, ↓j39, ↓j42, ↓j43, ↓j53, ↓j76, j129, ↓j145, ↓j146, ↓j153, AV.proj, AV.offOf, AV.size, AV.sizeL, AV.layable, argEnv, j170, j171, j172, j174, reduceCtorEq, ↓reduceIte, Nat.reduceAdd, Nat.reduceEqDiff, j182, j196, j197, j240, j284, j285, hal]
  refine CallTo.pure (args := [.int .u16 no, a.av]) rfl fok11 (by simp -dsimp -implicitDefEqProofs only [↓j25, ↓j29, j173, j174, ↓reduceIte, Nat.reduceEqDiff]) (fun x hx => (args_nd x hx).2) hps ?_
  simp -dsimp -implicitDefEqProofs only [↓j4, j17, j18, j20, j24, ↓j25, ↓j27, ↓j29, ↓j38, ↓j43, ↓j53, ↓j76, j129, ↓j145, ↓j146, ↓j153, AV.proj, AV.offOf, AV.size, AV.sizeL, j170, j171, j172, j174, reduceCtorEq, ↓reduceIte, Nat.reduceAdd, Nat.reduceEqDiff, j182, j197, j240, j284, j285, hbl]
  refine CallTo.pure (args := [.int .u16 on, b.av]) rfl fok11 (by simp -dsimp -implicitDefEqProofs only [↓j25, ↓j29, j173, j174, ↓reduceIte, Nat.reduceEqDiff]) (fun x hx => (args_nd x hx).2) hqs ?_
  simp -dsimp -implicitDefEqProofs only [↓j3, ↓j4, j17, j18, j19, j20, j21, j22, j23, j24, ↓j25, ↓j27, ↓j29, ↓j41, ↓j44, ↓j78, ↓j145, ↓j146, ↓j153, AV.proj, AV.offOf, AV.upd, AV.size, AV.layable, j170, j171, j172, j173, j174, reduceCtorEq, ↓reduceIte, Nat.reduceAdd, Nat.reduceEqDiff, j182, j240, j300, j367, hp, hq, hz]
  refine ⟨by kernel_rfl, ?_⟩
  have b1 : ((false && n2) != false) = false := rfl
  have b2 : ((true && n2) != n2) = false := by cases n2 <;> rfl
  have i0 : ((0 : Int) == 0) = true := rfl
  have i2 : ((2 : Int) == 2) = true := rfl
  cases n1
  · simp -dsimp -implicitDefEqProofs only [↓j3, ↓j4, ↓j5, ↓j8, ↓j12, ↓j15, j17, j18, j20, j24, ↓j25, ↓j27, ↓j29, ↓j30, j32, ↓j38, ↓j40, ↓j43, ↓j48, ↓j76, j82, ↓j89, ↓j90, ↓j91, j129, ↓j145, ↓j146, ↓j148, ↓j150, ↓j153, j157, AV.proj, AV.offOf, j163, j164, j170, j171, j172, j174, j175, reduceCtorEq, ↓reduceIte, Nat.reduceEqDiff, j182, j185, j195, j211, j212, j240, j241, j300, j301, j303, j304, j390, hp, hq, hce, hk1, hn1, b1]
    refine ⟨by kernel_rfl, ?_⟩
    simp -dsimp -implicitDefEqProofs only [↓j1, ↓j7, ↓j9, ↓j12, ↓j13, ↓j15, j17, j18, j20, ↓j25, ↓j27, ↓j29, ↓j38, ↓j43, ↓j53, ↓j76, j129, ↓j145, ↓j146, ↓j148, ↓j149, ↓j153, AV.proj, AV.offOf, j171, reduceCtorEq, ↓reduceIte, Nat.reduceEqDiff, j182, j240, j300, j301, hp]
    refine CallTo.pure (args := [.int .u16 on, arrAV p]) rfl fok9 (by simp -dsimp -implicitDefEqProofs only [↓j25, ↓j29, j173, j174, ↓reduceIte, Nat.reduceEqDiff]) (fun x hx => (args_np x hx).2) hgd ?_
    simp -dsimp -implicitDefEqProofs only [↓j0, ↓j1, ↓j7, ↓j12, ↓j15, j17, j18, j19, j20, j21, j22, j23, ↓j25, ↓j27, ↓j29, ↓j38, ↓j39, ↓j41, ↓j43, ↓j44, ↓j53, ↓j57, ↓j76, ↓j78, j85, j129, ↓j145, ↓j146, ↓j153, AV.proj, AV.offOf, AV.upd, AV.size, AV.sizeL, AV.layable, j163, j164, j170, j171, reduceCtorEq, ↓reduceIte, Nat.reduceAdd, Nat.reduceEqDiff, j182, j195, j197, j240, j284, j300, j301, j366, hp, hgl, hz64]
    refine CallTo.pure (args := [.int .u16 no, arrAV p]) rfl fok19 (by simp -dsimp -implicitDefEqProofs only [↓j25, ↓j29, j173, j174, ↓reduceIte, Nat.reduceEqDiff]) (fun x hx => (args_np x hx).2) hub ?_
    simp -dsimp -implicitDefEqProofs only [↓j0, ↓j1, ↓j2, ↓j7, ↓j12, ↓j15, j17, j18, j19, j20, j21, j22, j23, ↓j25, ↓j27, ↓j29, ↓j30, j32, j33, ↓j38, ↓j39, ↓j40, ↓j41, ↓j44, ↓j48, ↓j53, ↓j57, ↓j78, j83, j85, ↓j89, ↓j90, ↓j145, ↓j146, ↓j147, ↓j150, ↓j153, j157, AV.proj, AV.offOf, AV.upd, AV.size, AV.sizeL, AV.layable, j163, j164, j170, j171, j175, reduceCtorEq, ↓reduceIte, Nat.reduceAdd, Nat.reduceEqDiff, j182, j185, j195, j197, j211, Int.reduceBEq, j312, j370, j390, hn1, hc4, i2]
    refine CallTo.pure (args := []) rfl fok15 rfl nil0 awake_spec ?_
    simp -dsimp -implicitDefEqProofs only [↓j0, ↓j1, ↓j10, j17, j18, j20, ↓j25, ↓j29, ↓j30, j32, ↓j39, ↓j40, j83, ↓j145, j171, ↓reduceIte, Nat.reduceEqDiff]
    exact Final.one (.inr rfl) (r := .tmp 8) rfl ⟨rfl, fun vs h => by cases h⟩ (fun vs h => by cases h) (fun vs h => by cases h) (.same _ trivial)
  · simp -dsimp -implicitDefEqProofs only [↓j4, ↓j5, ↓j8, ↓j12, ↓j15, j17, j18, j20, j24, ↓j25, ↓j27, ↓j29, ↓j38, ↓j43, ↓j48, ↓j76, ↓j89, ↓j91, j129, ↓j145, ↓j146, ↓j147, ↓j150, ↓j153, j157, AV.proj, AV.offOf, AV.size, AV.sizeL, AV.flat, AV.flatL, j163, j164, j170, j171, j172, j173, j174, j175, reduceCtorEq, ↓reduceIte, Nat.reduceAdd, Nat.reduceEqDiff, j182, j184, j185, j195, j197, j211, kindOf, j240, j241, j284, j285, j298, j299, j300, j301, j303, j304, hal, hbl, hp, hq, hce, hk1, hn1, hcd]
    refine ⟨kinds_dt2 hal, ?_⟩
    simp -dsimp -implicitDefEqProofs only [↓j3, ↓j4, j17, j18, j20, j24, ↓j25, ↓j29, ↓j30, j32, ↓j40, ↓j48, j83, ↓j90, ↓j145, ↓j146, j170, j171, j172, j174, ↓reduceIte, Nat.reduceEqDiff, j195, j212, j390, b2]
    refine ⟨by kernel_rfl, ?_⟩
    simp -dsimp -implicitDefEqProofs only [↓j1, ↓j7, ↓j9, ↓j12, ↓j13, ↓j15, j17, j18, j20, ↓j25, ↓j27, ↓j29, ↓j38, ↓j43, ↓j53, ↓j76, j129, ↓j145, ↓j146, ↓j148, ↓j149, ↓j153, AV.proj, AV.offOf, j171, reduceCtorEq, ↓reduceIte, Nat.reduceEqDiff, j182, j240, j300, j301, hp]
    refine CallTo.pure (args := [.int .u16 on, arrAV p]) rfl fok9 (by simp -dsimp -implicitDefEqProofs only [↓j25, ↓j29, j173, j174, ↓reduceIte, Nat.reduceEqDiff]) (fun x hx => (args_np x hx).2) hgd ?_
    simp -dsimp -implicitDefEqProofs only [↓j0, ↓j1, ↓j7, ↓j12, ↓j15, j17, j18, j19, j20, j21, j22, j23, ↓j25, ↓j27, ↓j29, ↓j38, ↓j39, ↓j41, ↓j43, ↓j44, ↓j53, ↓j57, ↓j76, ↓j78, j85, j129, ↓j145, ↓j146, ↓j153, AV.proj, AV.offOf, AV.upd, AV.size, AV.sizeL, AV.layable, j163, j164, j170, j171, reduceCtorEq, ↓reduceIte, Nat.reduceAdd, Nat.reduceEqDiff, j182, j197, j240, j284, j300, j301, j366, hp, hgl, hz64]
    refine CallTo.pure (args := [.int .u16 no, arrAV p]) rfl fok19 (by simp -dsimp -implicitDefEqProofs only [↓j25, ↓j29, j173, j174, ↓reduceIte, Nat.reduceEqDiff]) (fun x hx => (args_np x hx).2) hub ?_
    simp -dsimp -implicitDefEqProofs only [↓j0, ↓j1, ↓j2, ↓j7, ↓j12, ↓j15, j17, j18, j19, j20, j21, j22, j23, ↓j25, ↓j27, ↓j29, ↓j30, j32, j33, ↓j38, ↓j39, ↓j40, ↓j41, ↓j44, ↓j48, ↓j53, ↓j57, ↓j78, j83, j85, ↓j89, ↓j90, ↓j145, ↓j146, ↓j147, ↓j150, ↓j153, j157, AV.proj, AV.offOf, AV.upd, AV.size, AV.sizeL, AV.layable, j163, j164, j170, j171, j175, reduceCtorEq, ↓reduceIte, Nat.reduceAdd, Nat.reduceEqDiff, j182, j185, j195, j197, j211, j312, j370, j390, hn1, hc4, i0, i2]
    refine CallTo.pure (args := []) rfl fok15 rfl nil0 awake_spec ?_
    simp -dsimp -implicitDefEqProofs only [↓j0, ↓j1, ↓j10, j17, j18, j20, ↓j25, ↓j29, ↓j30, j32, ↓j39, ↓j40, j83, ↓j145, j171, ↓reduceIte, Nat.reduceEqDiff]
    exact Final.one (.inr rfl) (r := .tmp 8) rfl ⟨rfl, fun vs h => by cases h⟩ (fun vs h => by cases h) (fun vs h => by cases h) (.same _ trivial)
end Go.Proofs.Ytbellkdglifahaa
