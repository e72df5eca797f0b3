import Derived.Test.YtimdepgenefkmaaPB
set_option maxRecDepth 8000
set_option linter.unusedVariables false
set_option linter.unusedSimpArgs false
section
namespace Go.Proofs.Ytimdepgenefkmaa
open Go Go.RowKit

theorem putL_cons (v n : Nat) : putL v (n + 1) = UInt8.ofNat v :: putL (v / 256) n := by
  simp only [putL, List.range_succ_eq_map, List.map_cons, List.map_map]
  rw [Nat.mul_zero, Nat.pow_zero, Nat.div_one]
  congr 1
  apply List.map_congr_left
  intro i _
  simp only [Function.comp]
  congr 1
  rw [Nat.div_div_eq_div_mul]
  congr 1
  rw [show 8 * (i + 1) = 8 + 8 * i by omega, Nat.pow_add]
theorem putL_get : ∀ l : List UInt8, putL (getL l) l.length = l
  | [] => rfl
  | b :: r => by
    have h2 := b.toNat_lt
    rw [List.length_cons, putL_cons, getL, show (b.toNat + 256 * getL r) / 256 = getL r by omega, putL_get r]
    congr 1
    apply UInt8.toNat_inj.1
    simp
theorem putL_num {p : List UInt8} {o n : Nat} (h : o + n ≤ p.length) : putL (numAt p o n) n = (p.drop o).take n := by
  have hl : ((p.drop o).take n).length = n := by simp; omega
  have := putL_get ((p.drop o).take n)
  rw [hl] at this
  exact this
theorem seal_parts {k : UInt8} {no lsn : Nat} {t : List UInt8} (hno : no < 65536) (hl : lsn < 18446744073709551616) :
    (sealP k no lsn t).getD 0 0 = k ∧ numAt (sealP k no lsn t) 1 2 = no ∧ numAt (sealP k no lsn t) 3 4 = pgSum (sealP k no lsn t) ∧ lsnOf (sealP k no lsn t) = lsn ∧ (sealP k no lsn t).drop 15 = t := by
  have g2 : getL (putL no 2) = no := by rw [getL_put, Nat.mod_eq_of_lt (by omega)]
  have g8 : getL (putL lsn 8) = lsn := by rw [getL_put, Nat.mod_eq_of_lt (by omega)]
  have hS := crcSum_lt ((k :: putL no 2) ++ (zb 4 ++ behL lsn t))
  have g4 : getL (putL (crcSum ((k :: putL no 2) ++ (zb 4 ++ behL lsn t))) 4) = crcSum ((k :: putL no 2) ++ (zb 4 ++ behL lsn t)) := by rw [getL_put, Nat.mod_eq_of_lt (by omega)]
  have hps : pgSum (sealP k no lsn t) = crcSum ((k :: putL no 2) ++ (zb 4 ++ behL lsn t)) := by
    have h4 := putL_len (crcSum ((k :: putL no 2) ++ (zb 4 ++ behL lsn t))) 4
    have h2 := putL_len no 2
    unfold pgSum
    congr 1
  obtain ⟨S, hSe⟩ : ∃ S, crcSum ((k :: putL no 2) ++ (zb 4 ++ behL lsn t)) = S := ⟨_, rfl⟩
  rw [hSe] at g4 hps
  have hse : sealP k no lsn t = (k :: putL no 2) ++ (putL S 4 ++ behL lsn t) := by rw [sealP, hSe]
  rw [hps, hse]
  obtain ⟨a1, a2, ha⟩ : ∃ a b, putL no 2 = [a, b] := ⟨_, _, rfl⟩
  obtain ⟨b1, b2, b3, b4, hb⟩ : ∃ a b c d, putL S 4 = [a, b, c, d] := ⟨_, _, _, _, rfl⟩
  obtain ⟨c1, c2, c3, c4, c5, c6, c7, c8, hc⟩ : ∃ a b c d e f g h, putL lsn 8 = [a, b, c, d, e, f, g, h] := ⟨_, _, _, _, _, _, _, _, rfl⟩
  rw [ha] at g2
  rw [hb] at g4
  rw [hc] at g8
  unfold behL
  rw [ha, hb, hc]
  exact ⟨rfl, g2, g4, g8, rfl⟩
theorem opens_iff {k : UInt8} {no : Nat} (hno : no < 65536) {p : List UInt8} (hp : p.length = 224) : opensP k no p = true ↔ p = sealP k no (lsnOf p) (p.drop 15) := by
  have hll : lsnOf p < 18446744073709551616 := Nat.lt_of_lt_of_le (numAt_lt (p := p) (o := 7) (n := 8)) (by decide)
  constructor
  · intro h
    simp only [opensP, Bool.and_eq_true, beq_iff_eq] at h
    obtain ⟨⟨h1, h2⟩, h3⟩ := h
    have h1 : p.getD 0 0 = k := UInt8.toNat_inj.1 (by omega)
    have h2 : numAt p 1 2 = no := by have : (numAt p 1 2 : Int) = no := h2; omega
    have h3 : numAt p 3 4 = pgSum p := by have : (numAt p 3 4 : Int) = pgSum p := h3; omega
    have e1 := putL_num (p := p) (o := 1) (n := 2) (by omega)
    have e2 := putL_num (p := p) (o := 3) (n := 4) (by omega)
    have e3 := putL_num (p := p) (o := 7) (n := 8) (by omega)
    rw [h2] at e1
    rw [h3] at e2
    have ep : p = p.getD 0 0 :: ((p.drop 1).take 2 ++ ((p.drop 3).take 4 ++ ((p.drop 7).take 8 ++ p.drop 15))) := by
      have a1 : (p.drop 7).take 8 ++ p.drop 15 = p.drop 7 := by rw [show p.drop 15 = (p.drop 7).drop 8 by rw [List.drop_drop], List.take_append_drop]
      have a2 : (p.drop 3).take 4 ++ p.drop 7 = p.drop 3 := by rw [show p.drop 7 = (p.drop 3).drop 4 by rw [List.drop_drop], List.take_append_drop]
      have a3 : (p.drop 1).take 2 ++ p.drop 3 = p.drop 1 := by rw [show p.drop 3 = (p.drop 1).drop 2 by rw [List.drop_drop], List.take_append_drop]
      rw [a1, a2, a3]
      cases p with
      | nil => simp at hp
      | cons a r => rfl
    have b1 : (p.drop 7).take 8 ++ p.drop 15 = behL (lsnOf p) (p.drop 15) := by rw [behL, ← e3]; rfl
    have b2 : p.take 3 = k :: putL no 2 := by
      rw [e1, ← h1]
      cases p with
      | nil => simp at hp
      | cons a r => simp
    have b3 : p.drop 7 = behL (lsnOf p) (p.drop 15) := by
      rw [← b1, show p.drop 15 = (p.drop 7).drop 8 by rw [List.drop_drop], List.take_append_drop]
    conv => lhs; rw [ep]
    rw [h1, b1, ← e1, ← e2, pgSum, b2, b3]
    rfl
  · intro h
    obtain ⟨s1, s2, s3, s4, s5⟩ := seal_parts (k := k) (no := no) (lsn := lsnOf p) (t := p.drop 15) hno hll
    rw [← h] at s1 s2 s3
    have s2 : getL ((p.drop 1).take 2) = no := s2
    have s3 : getL ((p.drop 3).take 4) = pgSum p := s3
    simp only [opensP, s1, s2, s3, Bool.and_eq_true, beq_iff_eq, and_self]
theorem opens_seal {k k' : UInt8} {no no' lsn : Nat} {t : List UInt8} (hno : no < 65536) (hl : lsn < 18446744073709551616) : opensP k' no' (sealP k no lsn t) = (((k.toNat : Int) == (k'.toNat : Int)) && ((no : Int) == (no' : Int))) := by
  obtain ⟨s1, s2, s3, s4, s5⟩ := seal_parts (k := k) (t := t) hno hl
  have s2 : getL (((sealP k no lsn t).drop 1).take 2) = no := s2
  have s3 : getL (((sealP k no lsn t).drop 3).take 4) = pgSum (sealP k no lsn t) := s3
  simp only [opensP, s1, s2, s3]
  simp
theorem dtRest_of {p : List UInt8} (hp : p.length = 224) : dtRest (dtOf p) = (p.drop 15).take 71 := by
  have e1 := putL_num (p := p) (o := 15) (n := 4) (by omega)
  have e2 := putL_num (p := p) (o := 19) (n := 2) (by omega)
  show putL (numAt p 15 4) 4 ++ (putL (numAt p 19 2) 2 ++ (p.getD 21 0 :: (p.drop 22).take 64)) = _
  rw [e1, e2]
  have h1 : (p.drop 15).take 71 = (p.drop 15).take 4 ++ ((p.drop 19).take 67) := by
    rw [show 71 = 4 + 67 from rfl, List.take_add, List.drop_drop]
  have h2 : (p.drop 19).take 67 = (p.drop 19).take 2 ++ ((p.drop 21).take 65) := by
    rw [show 67 = 2 + 65 from rfl, List.take_add, List.drop_drop]
  have h3 : (p.drop 21).take 65 = p.getD 21 0 :: (p.drop 22).take 64 := by
    rw [List.drop_eq_getElem_cons (by omega), List.take_succ_cons, List.getD_eq_getElem?_getD, List.getElem?_eq_getElem (by omega)]; rfl
  rw [h1, h2, h3]
theorem zeros_iff : ∀ l : List UInt8, l.all (· == 0) = true ↔ l = zb l.length
  | [] => by simp [zb]
  | b :: l => by
    have ih := zeros_iff l
    rw [List.all_cons, List.length_cons, zb, List.replicate_succ, ← zb]
    simp only [Bool.and_eq_true, beq_iff_eq, ih, List.cons.injEq]
theorem getOk_iff {no : Nat} (hno : no < 65536) {p : List UInt8} (hp : p.length = 224) : (putData no (dtOf p) == p) = getOk no p := by
  have hll : lsnOf p < 18446744073709551616 := Nat.lt_of_lt_of_le (numAt_lt (p := p) (o := 7) (n := 8)) (by decide)
  have hd15 : p.drop 15 = (p.drop 15).take 71 ++ p.drop 86 := by
    rw [show p.drop 86 = (p.drop 15).drop 71 by rw [List.drop_drop], List.take_append_drop]
  have h86 : (p.drop 86).length = 138 := by simp; omega
  rw [Bool.eq_iff_iff, beq_iff_eq]
  unfold getOk putData
  rw [dtRest_of hp, Bool.and_eq_true, opens_iff hno hp, zeros_iff, h86]
  show sealP 1 no (lsnOf p) _ = p ↔ _
  constructor
  · intro h
    obtain ⟨_, _, _, s4, s5⟩ := seal_parts (k := 1) (no := no) (lsn := lsnOf p) (t := (p.drop 15).take 71 ++ zb 138) hno hll
    rw [h] at s5
    have e : p.drop 86 = zb 138 := by
      have h2 : (p.drop 15).take 71 ++ p.drop 86 = (p.drop 15).take 71 ++ zb 138 := hd15.symm.trans s5
      exact List.append_cancel_left h2
    refine ⟨?_, e⟩
    conv => lhs; rw [← h]
    rw [← s5]
  · rintro ⟨h1, h2⟩
    rw [← h2, ← hd15, ← h1]
theorem rget_get {no : Nat} (hno : no < 65536) {p : List UInt8} (hp : p.length = 224) : rgetData no p = getData no p := by
  unfold rgetData getData
  rw [getOk_iff hno hp]
theorem dt_back {no : Nat} (hno : no < 65536) {d : Dt} (hd : d.Ok) : dtOf (putData no d) = d ∧ getOk no (putData no d) = true := by
  obtain ⟨s1, s2, s3, s4, s5⟩ := seal_parts (k := 1) (no := no) (lsn := d.lsn) (t := dtRest d ++ zb 138) hno hd.lsn
  have hl := putData_len (no := no) hd
  have h71 := dtRest_len hd
  have hS : opensP 1 no (putData no d) = true := by
    unfold putData; rw [opens_seal hno hd.lsn]; simp
  have s5 : (putData no d).drop 15 = dtRest d ++ zb 138 := s5
  have hgo : getOk no (putData no d) = true := by
    unfold getOk
    rw [hS, show (putData no d).drop 86 = ((putData no d).drop 15).drop 71 by rw [List.drop_drop], s5, List.drop_append, List.drop_eq_nil_of_le (by omega), h71, Nat.sub_self, List.drop_zero, List.nil_append]
    rw [Bool.true_and, zeros_iff, zb_len]
  refine ⟨?_, hgo⟩
  have g4 : getL (putL d.ts 4) = d.ts := by rw [getL_put, Nat.mod_eq_of_lt (by have := hd.ts; omega)]
  have g2 : getL (putL d.pg 2) = d.pg := by rw [getL_put, Nat.mod_eq_of_lt (by have := hd.pg; omega)]
  have hb := hd.body
  have f1 : numAt (putData no d) 15 4 = d.ts := by
    unfold numAt; rw [s5, dtRest]
    obtain ⟨b1, b2, b3, b4, hb⟩ : ∃ a b c e, putL d.ts 4 = [a, b, c, e] := ⟨_, _, _, _, rfl⟩
    rw [hb] at g4 ⊢; exact g4
  have f2 : numAt (putData no d) 19 2 = d.pg := by
    unfold numAt
    rw [show (putData no d).drop 19 = ((putData no d).drop 15).drop 4 by rw [List.drop_drop], s5, dtRest]
    obtain ⟨b1, b2, b3, b4, hb⟩ : ∃ a b c e, putL d.ts 4 = [a, b, c, e] := ⟨_, _, _, _, rfl⟩
    obtain ⟨a1, a2, ha⟩ : ∃ a b, putL d.pg 2 = [a, b] := ⟨_, _, rfl⟩
    rw [hb, ha]; rw [ha] at g2; exact g2
  have f3 : (putData no d).drop 21 = d.sl :: (d.body ++ zb 138) := by
    rw [show (putData no d).drop 21 = ((putData no d).drop 15).drop 6 by rw [List.drop_drop], s5, dtRest]
    obtain ⟨b1, b2, b3, b4, hb⟩ : ∃ a b c e, putL d.ts 4 = [a, b, c, e] := ⟨_, _, _, _, rfl⟩
    obtain ⟨a1, a2, ha⟩ : ∃ a b, putL d.pg 2 = [a, b] := ⟨_, _, rfl⟩
    rw [hb, ha]; rfl
  have f4 : (putData no d).getD 21 0 = d.sl := by
    rw [List.getD_eq_getElem?_getD, show (putData no d)[21]? = ((putData no d).drop 21)[0]? by rw [List.getElem?_drop], f3]; rfl
  have f5 : ((putData no d).drop 22).take 64 = d.body := by
    rw [show (putData no d).drop 22 = ((putData no d).drop 21).drop 1 by rw [List.drop_drop], f3, List.drop_succ_cons, List.drop_zero, List.take_append_of_le_length (by omega), List.take_of_length_le (by omega)]
  unfold dtOf
  rw [show lsnOf (putData no d) = d.lsn from s4, f1, f2, f4, f5]
end Go.Proofs.Ytimdepgenefkmaa
end
section
namespace Go.Proofs.Ytimdepgenefkmaa
open Go Go.RowKit

theorem zero_ok : Dt.zero.Ok := ⟨by decide, by decide, by decide, zb_len 64⟩
def Dt.eqb (d e : Dt) : Bool := ((d.lsn : Int) == (e.lsn : Int)) && (((d.ts : Int) == (e.ts : Int)) && (((d.pg : Int) == (e.pg : Int)) && (((d.sl.toNat : Int) == (e.sl.toNat : Int)) && (d.body == e.body))))
theorem Dt.eqb_iff {d e : Dt} : d.eqb e = true ↔ d = e := by
  obtain ⟨a, b, c, x, l⟩ := d
  obtain ⟨a', b', c', x', l'⟩ := e
  simp only [Dt.eqb, Bool.and_eq_true, beq_iff_eq, Dt.mk.injEq]
  constructor
  · rintro ⟨h1, h2, h3, h4, h5⟩
    exact ⟨by omega, by omega, by omega, UInt8.toNat_inj.1 (by omega), h5⟩
  · rintro ⟨rfl, rfl, rfl, rfl, rfl⟩
    exact ⟨rfl, rfl, rfl, rfl, rfl⟩
theorem scEq_int {k : IntKind} {a b : Int} : scEq (.int k a) (.int k b) = some (a == b) := by simp [scEq]
abbrev idAV (u : Bool) (no : Nat) : AV := .agg [.bool u, .int .u16 no]
theorem args_id {u : Bool} {no : Nat} : ∀ x, x ∈ [idAV u no] → AV.on (fun _ => False) x ∧ ∀ vs, x ≠ .tuple vs := fun x hx => by
  simp only [List.mem_singleton] at hx; subst hx; exact ⟨⟨trivial, trivial, trivial⟩, fun vs h => by cases h⟩
theorem args_idp {u : Bool} {no : Nat} {p : List UInt8} : ∀ x, x ∈ [idAV u no, arrAV p] → AV.on (fun _ => False) x ∧ ∀ vs, x ≠ .tuple vs := fun x hx => by
  simp only [List.mem_cons, List.not_mem_nil, or_false] at hx
  rcases hx with rfl | rfl
  · exact ⟨⟨trivial, trivial, trivial⟩, fun vs h => by cases h⟩
  · exact ⟨on_bytes _ _, fun vs h => by cases h⟩
theorem blankD_spec (no : Nat) (hno : no < 65536) : ACall Try.prog 30 [idAV false no] [] (arrAV (putData no .zero)) [] := by
  refine ACall.run (Z := Z) (N := 19) mixed hZ Try.func30 rfl rfl (by kernel_rfl) (by simp) args_id 0 ?_
  have hz := zb_len 224
  have hl := putData_len (no := no) zero_ok
  simp -dsimp -implicitDefEqProofs only [↓j0, ↓j1, ↓j7, ↓j9, ↓j12, ↓j13, ↓j15, j17, j18, j20, ↓j25, ↓j27, ↓j29, ↓j41, ↓j42, ↓j43, ↓j45, ↓j53, ↓j54, ↓j76, ↓j79, ↓j124, j125, j127, j130, j131, ↓j145, ↓j146, ↓j148, ↓j149, ↓j153, partsAV, AV.proj, AV.offOf, AV.size, AV.sizeL, AV.layable, argEnv, j163, j164, j166, j167, j170, j171, j172, reduceCtorEq, ↓reduceIte, Nat.reduceAdd, Nat.reduceEqDiff, j182, j196, j197, j214, j218, j219, j253, j261, j266, j269, j419, j449]
  refine CallTo.pure (args := [.int .u16 no, Dt.zero.av]) rfl fok20 (by simp -dsimp -implicitDefEqProofs only [↓j25, ↓j29, j173, j174, ↓reduceIte, Nat.reduceEqDiff]; rfl) (fun x hx => (args_nd x hx).2) (putData_spec no hno .zero zero_ok) ?_
  simp -dsimp -implicitDefEqProofs only [↓j0, ↓j1, ↓j10, j17, j18, j19, j20, j21, j22, j23, ↓j25, ↓j27, ↓j29, ↓j44, ↓j78, ↓j145, ↓j146, ↓j153, AV.proj, AV.offOf, AV.upd, AV.size, AV.layable, j170, j171, reduceCtorEq, ↓reduceIte, Nat.reduceEqDiff, j182, j240, j273, hz, hl]
  exact Final.one (.inr rfl) (r := .cell 2 26) rfl ⟨1, 0, [], _, rfl, rfl, rfl, rfl, by simp -dsimp -implicitDefEqProofs only [j129, j182, j240, j273, j274, hl]⟩ (fun vs h => by cases h) (fun vs h => by cases h) (.same _ (on_bytes _ _))
theorem rightD_spec (no : Nat) (hno : no < 65536) (p : List UInt8) (hp : p.length = 224) : ACall Try.prog 14 [idAV false no, arrAV p] [] (.bool (getOk no p)) [] := by
  refine ACall.run (Z := Z) (N := 29) mixed hZ Try.func14 rfl rfl (by kernel_rfl) (by simp) args_idp 0 ?_
  have hbl : (getData no p).1.body.length = 64 := by
    unfold getData; split
    · exact (dtOf_ok hp).body
    · exact zb_len 64
  have hg2 : (getData no p).2 = getOk no p := by
    unfold getData; cases getOk no p <;> rfl
  have hgs := getData_spec no hno p hp
  obtain ⟨⟨D, b⟩, hr⟩ : ∃ r, getData no p = r := ⟨_, rfl⟩
  rw [hr] at hbl hg2 hgs
  have hbl : D.body.length = 64 := hbl
  have hg2 : b = getOk no p := hg2
  rw [← hg2]
  have hz := zb_len 64
  simp -dsimp -implicitDefEqProofs only [↓j0, ↓j1, ↓j7, ↓j9, ↓j12, ↓j13, ↓j15, j17, j18, j20, ↓j25, ↓j27, ↓j29, ↓j30, j32, ↓j39, ↓j42, ↓j43, ↓j45, ↓j53, ↓j76, ↓j79, j129, j130, j131, ↓j145, ↓j146, ↓j148, ↓j149, ↓j153, AV.proj, AV.offOf, AV.size, AV.sizeL, AV.layable, argEnv, j163, j164, j166, j167, j170, j171, j172, reduceCtorEq, ↓reduceIte, Nat.reduceAdd, Nat.reduceEqDiff, j182, j196, j197, j240, j253, j261, j266, j269, j273, j274, hp]
  refine CallTo.pure (args := [.int .u16 no, arrAV p]) rfl fok18 (by simp -dsimp -implicitDefEqProofs only [↓j25, ↓j29, j173, j174, ↓reduceIte, Nat.reduceEqDiff]) (fun x hx => (args_np x hx).2) hgs ?_
  simp -dsimp -implicitDefEqProofs only [↓j0, ↓j1, ↓j7, ↓j10, ↓j12, ↓j15, j17, j18, j19, j20, j21, j22, j23, ↓j25, ↓j27, ↓j29, ↓j30, j33, ↓j38, ↓j39, ↓j41, ↓j44, ↓j48, ↓j57, ↓j78, j85, ↓j89, ↓j145, ↓j146, ↓j153, j157, AV.proj, AV.offOf, AV.upd, AV.size, AV.sizeL, AV.layable, j163, j164, j170, j171, reduceCtorEq, ↓reduceIte, Nat.reduceAdd, Nat.reduceEqDiff, j182, j185, j197, j240, j371, j431, hbl, hz]
  have hc : ((if b then (0 : Int) else 2) == 0) = b := by cases b <;> rfl
  simp -dsimp -implicitDefEqProofs only [hc]
  exact Final.one (.inr rfl) (r := .tmp 4) rfl ⟨rfl, fun vs h => by cases h⟩ (fun vs h => by cases h) (fun vs h => by cases h) (.same _ trivial)
end Go.Proofs.Ytimdepgenefkmaa
end
section
namespace Go.Proofs.Ytimdepgenefkmaa
open Go Go.RowKit

theorem getData_len {no : Nat} {p : List UInt8} (hp : p.length = 224) : (getData no p).1.body.length = 64 := by
  unfold getData; split
  · exact (dtOf_ok hp).body
  · exact zb_len 64
end Go.Proofs.Ytimdepgenefkmaa
end
section
namespace Go.Proofs.Ytimdepgenefkmaa
open Go Go.RowKit

theorem getUndo_bad (no : Nat) (hno : no < 65536) (p : List UInt8) (hp : p.length = 224) (h : opensP 2 no p = false) : ACall Try.prog 33 [.int .u16 no, arrAV p] [] (.tuple [.agg [.int .u64 0, .vsl [] 0], .int .i64 2]) [] := by
  refine ACall.run (Z := Z) (N := 146) mixed hZ Try.func33 rfl rfl (by kernel_rfl) (by simp) args_np 0 ?_
  have ho := opens_spec 2 no hno p hp
  rw [h] at ho
  simp -dsimp -implicitDefEqProofs only [↓j0, ↓j1, ↓j7, ↓j12, ↓j15, j17, j18, j20, ↓j25, ↓j27, ↓j29, ↓j30, j33, ↓j38, ↓j39, ↓j41, ↓j42, ↓j43, ↓j53, ↓j76, j129, ↓j145, ↓j146, ↓j153, AV.proj, AV.offOf, AV.layable, argEnv, j170, j171, j172, reduceCtorEq, ↓reduceIte, Nat.reduceAdd, Nat.reduceEqDiff, j182, j196, j240, j273, j274, j433, hp]
  refine CallTo.pure (args := [.int .u8 ((2 : UInt8).toNat : Nat), .int .u16 no, arrAV p]) rfl fok40 (by simp -dsimp -implicitDefEqProofs only [↓j25, ↓j29, ↓j30, j33, j173, j174, ↓reduceIte, Nat.reduceEqDiff]; rfl) (fun x hx => (args_opens x hx).2) ho ?_
  simp -dsimp -implicitDefEqProofs only [↓j0, ↓j1, ↓j7, ↓j10, ↓j12, ↓j13, ↓j15, j17, j18, j19, j20, j21, j22, j23, ↓j25, ↓j27, ↓j29, ↓j30, j33, ↓j39, ↓j44, ↓j54, ↓j55, ↓j78, j84, ↓j124, j125, j127, ↓j145, ↓j146, ↓j147, ↓j149, ↓j153, partsAV, AV.proj, AV.offOf, AV.upd, AV.size, AV.sizeL, AV.layable, j170, j171, reduceCtorEq, ↓reduceIte, Nat.reduceAdd, Nat.reduceEqDiff, j182, j194, j197, j214, j218, j219, j391, j453]
  exact Final.many (.inr rfl) (rs := [.cell 4 71, .tmp 5]) (us := [.agg [.int .u64 0, .nilsl], .int .i64 2]) rfl ⟨⟨1, 0, [], _, rfl, rfl, rfl, rfl, by simp -dsimp -implicitDefEqProofs only [j129, AV.size, AV.sizeL, Nat.reduceAdd, j182, j197, j391, j392]⟩, ⟨rfl, fun vs h => by cases h⟩, trivial⟩ (by simp) ⟨Frz.agg _ _ rfl (fun k hk => match k, hk with | 0, _ => .same _ trivial | 1, _ => .nil), .same _ trivial, trivial⟩
end Go.Proofs.Ytimdepgenefkmaa
end
