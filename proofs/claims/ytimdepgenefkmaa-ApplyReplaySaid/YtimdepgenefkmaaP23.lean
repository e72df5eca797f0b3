import Derived.Test.YtimdepgenefkmaaPD
set_option maxRecDepth 8000
set_option linter.unusedVariables false
set_option linter.unusedSimpArgs false
namespace Go.Proofs.Ytimdepgenefkmaa
open Go Go.RowKit

def decO (p : List UInt8) (a : Nat) : Option Od :=
  if 224 ≤ a then none
  else if 1 < (p.getD a 0).toNat then none
  else if p.getD a 0 = 0 then some .zero
  else if 224 < a + 11 then none
  else if 224 < a + 11 + (p.getD (a + 10) 0).toNat then none
  else some ⟨true, numAt p (a + 1) 2, numAt p (a + 3) 4, numAt p (a + 7) 2, p.getD (a + 9) 0, (p.drop (a + 11)).take (p.getD (a + 10) 0).toNat⟩
def decL (p : List UInt8) : Nat → Nat → Option (List Od)
  | 0, _ => some []
  | n + 1, a => match decO p a with
    | none => none
    | some o => (decL p n (a + o.size)).map (o :: ·)
def getUndo (no : Nat) (p : List UInt8) : Option Ud :=
  if opensP 2 no p then
    match decL p (p.getD 15 0).toNat 16 with
    | none => none
    | some l => if (p.drop (16 + sumS l)).all (· == 0) && mayP ⟨lsnOf p, l⟩ then some ⟨lsnOf p, l⟩ else none
  else none
abbrev guAV (r : Option Ud) : AV := .tuple [(r.getD ⟨0, []⟩).av, .int .i64 (if r.isSome then 0 else 2)]
theorem decO_ok {p : List UInt8} {a : Nat} {o : Od} (h : decO p a = some o) : o.Ok ∧ a + o.size ≤ 224 := by
  unfold decO at h
  split at h
  · cases h
  split at h
  · cases h
  split at h
  · cases h
    exact ⟨⟨by decide, by decide, by decide, by decide⟩, by show a + 1 ≤ 224; omega⟩
  split at h
  · cases h
  split at h
  · cases h
  cases h
  have hl : ((p.drop (a + 11)).take (p.getD (a + 10) 0).toNat).length ≤ (p.getD (a + 10) 0).toNat := List.length_take_le _ _
  have hb := (p.getD (a + 10) 0).toNat_lt
  exact ⟨⟨numAt_lt (n := 2), numAt_lt (n := 4), numAt_lt (n := 2), by show ((p.drop (a + 11)).take (p.getD (a + 10) 0).toNat).length ≤ _; omega⟩, by show a + (11 + ((p.drop (a + 11)).take (p.getD (a + 10) 0).toNat).length) ≤ 224; omega⟩
def gAcc (l : List Od) : AV := if l = [] then .nilsl else .sl 103 0 [] 0 l.length l.length 6
def gH (l : List Od) : Heap := if l = [] then [] else [(103, .cells (.agg (l.map Od.av)))]
def guT (no : Nat) (p : List UInt8) (n : Nat) (l : List Od) : Env := [(30, .int .i64 l.length), (29, .int .i64 n), (8, .int .i64 (16 + sumS l : Nat)), (7, .ptr 102 0 []), (6, .str ⟨p.toArray⟩), (3, .ptr 100 0 []), (4, .ptr 101 0 []), (5, .int .i64 0), (0, .int .u16 no)]
def guH (p : List UInt8) (l : List Od) : Heap := (102, .cells (.agg [.int .u64 (lsnOf p), gAcc l])) :: (101, .cells (.agg [.int .u64 0, .nilsl])) :: (100, .cells (arrAV p)) :: gH l
def guSt (no : Nat) (p : List UInt8) (n : Nat) (l : List Od) : St := ⟨146, guT no p n l, guH p l, 104⟩
def guT2 (no : Nat) (p : List UInt8) (b : Nat) : Env := [(8, .int .i64 b), (7, .ptr 102 0 []), (6, .str ⟨p.toArray⟩), (3, .ptr 100 0 []), (4, .ptr 101 0 []), (5, .int .i64 0), (0, .int .u16 no)]
def guSt2 (no : Nat) (p : List UInt8) (l : List Od) (b : Nat) : St := ⟨146, guT2 no p b, guH p l, 104⟩
def guHr (p : List UInt8) (l : List Od) (r : Nat) : Heap := [(102, .cells (.agg [.int .u64 (lsnOf p), .sl r 0 [] 0 l.length l.length 6])), (101, .cells (.agg [.int .u64 0, .nilsl])), (100, .cells (arrAV p)), (r, .cells (.agg (l.map Od.av)))]
theorem gu_onT {no m : Nat} {p : List UInt8} {l : List Od} : onTL (fun k => k < 104 ∧ k ∉ [((106 : Nat), (103 : Nat))].map (·.2)) (guT no p m l) :=
  onTL_cons trivial (onTL_cons trivial (onTL_cons trivial (onTL_cons (show (102 : Nat) < 104 ∧ 102 ∉ _ by simp) (onTL_cons trivial (onTL_cons (show (100 : Nat) < 104 ∧ 100 ∉ _ by simp) (onTL_cons (show (101 : Nat) < 104 ∧ 101 ∉ _ by simp) (onTL_cons trivial (onTL_cons trivial onTL_nil))))))))
theorem gu_onH {p : List UInt8} {l : List Od} : onHL (okN [(106, 103)] 104) (guHr p l 106) :=
  onHL_cons (.inl (by simp)) ⟨trivial, .inr (by simp), trivial⟩ (onHL_cons (.inl (by simp)) ⟨trivial, trivial, trivial⟩ (onHL_cons (.inl (by simp)) (on_bytes _ _) (onHL_cons (.inr (by simp)) (on_ods _ _) onHL_nil)))
theorem gu_ren {p : List UInt8} {l : List Od} (h : l ≠ []) : (guHr p l 106).ren (rnL [(106, 103)]) = guH p l := by
  have e1 : AV.ren (rnL [(106, 103)]) (arrAV p) = arrAV p := AV.ren_fix (S := fun _ => False) (fun n h => h.elim) (on_bytes _ _)
  have e2 : AV.ren (rnL [(106, 103)]) (.agg (l.map Od.av)) = .agg (l.map Od.av) := AV.ren_fix (S := fun _ => False) (fun n h => h.elim) (on_ods _ l)
  simp only [guHr, Heap.ren, List.map, ABlk.ren, e1, e2]
  simp only [AV.ren, AV.renL, rnL]
  simp [guH, gAcc, gH, h]
set_option maxRecDepth 4000 in
set_option maxHeartbeats 1600000 in
theorem getUndo_spec (no : Nat) (hno : no < 65536) (p : List UInt8) (hp : p.length = 224) : ACall Try.prog 33 [.int .u16 no, arrAV p] [] (guAV (getUndo no p)) [] := by
  cases ho : opensP 2 no p
  · have h := getUndo_bad no hno p hp ho
    have : getUndo no p = none := by unfold getUndo; rw [ho]; rfl
    rw [this]; exact h
  refine ACall.run (Z := Z) (N := 146) mixed hZ Try.func33 rfl rfl (by kernel_rfl) (by simp) args_np 100 ?_
  have up := unif_bytes p
  have hbo := bytesOf_bytes p
  have hT : List.take 224 (p.map byteAV) = p.map byteAV := List.take_of_length_le (by simp; omega)
  have hops := opens_spec 2 no hno p hp
  rw [ho] at hops
  have hls := lsn_spec p hp
  have c15 : (15 : Int) < ((224 : Nat) : Int) := by omega
  have hsz : AV.sizeL ((p.map byteAV).take 15) = 15 * 1 := up.sizeL_take (by simp; omega)
  obtain ⟨y, h15⟩ := list_get (xs := p) (i := 15) (by omega)
  have hyd : p.getD 15 0 = y := by rw [List.getD_eq_getElem?_getD, h15]; rfl
  obtain ⟨m, hm⟩ : ∃ m, y.toNat = m := ⟨_, rfl⟩
  have hmb : m < 256 := by have := y.toNat_lt; omega
  have w1 : IntKind.i64.wrap (m : Int) = (m : Int) := by rw [wrap_i64 (by omega) (by omega)]
  have hG : getUndo no p = match decL p m 16 with
    | none => none
    | some l => if (p.drop (16 + sumS l)).all (· == 0) && mayP ⟨lsnOf p, l⟩ then some ⟨lsnOf p, l⟩ else none := by
    unfold getUndo; rw [ho, if_pos rfl, hyd, hm]
  have err : ∀ (t : Env) (H : Heap) (nx : Nat), getUndo no p = none → look t 4 = some (.ptr 101 0 []) → look t 5 = some (.int .i64 2) → Heap.get H 101 = some (.cells (.agg [.int .u64 0, .nilsl])) → Final Try.prog Try.f33 (guAV (getUndo no p)) [] .ret ⟨146, t, H, nx⟩ := fun t H nx hn h4 h5 hH => by
    rw [hn]
    exact Final.many (.inr rfl) (rs := [.cell 4 71, .tmp 5]) (us := [.agg [.int .u64 0, .nilsl], .int .i64 2]) rfl ⟨⟨101, 0, [], _, h4, hH, rfl, rfl, by simp -dsimp -implicitDefEqProofs only [j129, AV.size, AV.sizeL, Nat.reduceAdd, j182, j197, j391, j392]⟩, ⟨h5, fun vs h => by cases h⟩, trivial⟩ (by simp) ⟨Frz.agg _ _ rfl (fun k hk => match k, hk with | 0, _ => .same _ trivial | 1, _ => .nil), .same _ trivial, trivial⟩
  simp -dsimp -implicitDefEqProofs only [↓j0, ↓j1, ↓j7, ↓j12, ↓j15, j17, j18, j20, ↓j25, ↓j27, ↓j29, ↓j30, j33, ↓j38, ↓j39, ↓j41, ↓j42, ↓j43, ↓j53, ↓j76, j129, ↓j145, ↓j146, ↓j153, AV.proj, AV.offOf, AV.layable, argEnv, j170, j171, j172, reduceCtorEq, ↓reduceIte, Nat.reduceAdd, Nat.reduceEqDiff, j182, j196, j240, j273, j274, j433, hp]
  refine CallTo.pure (args := [.int .u8 ((2 : UInt8).toNat : Nat), .int .u16 no, arrAV p]) rfl fok40 (by simp -dsimp -implicitDefEqProofs only [↓j25, ↓j29, ↓j30, j33, j173, j174, ↓reduceIte, Nat.reduceEqDiff]; rfl) (fun x hx => (args_opens x hx).2) hops ?_
  simp -dsimp -implicitDefEqProofs only [↓j0, ↓j1, ↓j7, ↓j9, ↓j12, ↓j13, ↓j15, j17, j18, j20, ↓j25, ↓j27, ↓j29, ↓j39, ↓j43, ↓j49, ↓j50, ↓j53, ↓j55, ↓j76, j84, ↓j106, j107, ↓j121, j129, ↓j145, ↓j146, ↓j148, ↓j149, ↓j153, AV.proj, AV.offOf, j171, ↓reduceIte, Nat.reduceMul, Nat.reduceEqDiff, Int.reduceToNat, j182, j193, j196, j197, j207, j208, j222, j223, j227, bndAV, j232, j233, j234, ↓j238, j240, j259, j273, j274, j275, j403, hp, up, hbo, hT]
  refine CallTo.pure (args := [arrAV p]) rfl fok15 (by simp -dsimp -implicitDefEqProofs only [↓j25, ↓j29, j173, j174, ↓reduceIte]) (fun x hx => (args_arr x hx).2) hls ?_
  simp -dsimp -implicitDefEqProofs only [↓j0, ↓j1, ↓j7, ↓j12, ↓j14, ↓j15, ↓j16, j17, j18, j19, j20, j21, j22, j23, ↓j25, ↓j27, ↓j29, ↓j30, j33, ↓j38, ↓j39, ↓j41, ↓j43, ↓j44, ↓j46, ↓j50, ↓j54, ↓j76, ↓j78, ↓j94, ↓j124, j125, j126, j127, j128, j130, ↓j145, ↓j146, ↓j153, partsAV, AV.proj, AV.offOf, AV.upd, AV.size, AV.sizeL, AV.layable, j163, j167, j169, j170, j171, j177, j179, j180, ↓reduceIte, Nat.reduceAdd, Nat.reduceMul, Nat.reduceEqDiff, Int.reduceLE, Int.reduceToNat, j182, j183, j196, j197, j206, j213, j214, j215, j217, ↓j225, j251, j255, j275, j391, j395, j433, j453, j461, h15, c15, hsz, byteAV, hm, w1]
  refine AWp.loopR (Z := Z) mixed hZ (by kernel_rfl) (fun n s => ∃ l, l.length + n = m ∧ decL p m 16 = (decL p n (16 + sumS l)).map (l ++ ·) ∧ (∀ o, o ∈ l → o.Ok) ∧ 16 + sumS l ≤ 224 ∧ s = guSt no p m l) (n0 := m) (s0 := guSt no p m []) ?_ ⟨[], by simp, by simp [sumS], by simp, by simp [sumS], rfl⟩ ?_ rfl
  · exact Wk.sub (by simp -dsimp -implicitDefEqProofs only [↓j25, ↓j27, j179, reduceCtorEq, ↓reduceIte, Nat.reduceEqDiff, Nat.reduceLeDiff, j182, j183, j184, j202, j203, j204, j205, j209, j231, guT, guH, gAcc, gH] <;> simp [sumS])
  rintro n s ⟨l, hl, hdl, hlo, hla, rfl⟩
  refine ⟨rfl, ?_⟩
  have huo := unif_od l
  have hu0 : Unif 6 [] := fun x hx => by simp at hx
  have hTl : List.take l.length (l.map Od.av) = l.map Od.av := List.take_of_length_le (by simp)
  have hacc : (gAcc l = .nilsl ∧ gH l = [] ∧ l = []) ∨ (gAcc l = .sl 103 0 [] 0 l.length l.length 6 ∧ gH l = [(103, .cells (.agg (l.map Od.av)))]) := by
    unfold gAcc gH
    by_cases h : l = []
    · left; rw [if_pos h, if_pos h]; exact ⟨rfl, rfl, h⟩
    · right; rw [if_neg h, if_neg h]; exact ⟨rfl, rfl⟩
  obtain ⟨a, ha⟩ : ∃ a, 16 + sumS l = a := ⟨_, rfl⟩
  rw [ha] at hdl hla
  cases n with
  | succ n =>
    have hd : decide ((l.length : Int) < (m : Int)) = true := decide_eq_true (by omega)
    have hw : IntKind.i64.wrap ((l.length : Int) + 1) = ((l.length + 1 : Nat) : Int) := by rw [wrap_i64 (by omega) (by omega)]; omega
    have bad : decO p a = none → getUndo no p = none := fun h => by
      rw [hG, hdl, decL, h]; rfl
    have nxt : ∀ o, decO p a = some o → decL p m 16 = (decL p n (16 + sumS (l ++ [o]))).map ((l ++ [o]) ++ ·) ∧ (l ++ [o]).length + n = m ∧ (∀ x, x ∈ l ++ [o] → x.Ok) ∧ 16 + sumS (l ++ [o]) = a + o.size := fun o h => by
      have e : 16 + sumS (l ++ [o]) = a + o.size := by rw [sumS_append]; simp only [sumS]; omega
      refine ⟨?_, by simp; omega, fun x hx => ?_, e⟩
      · rw [hdl, decL, h, e]
        show ((decL p n (a + o.size)).map (o :: ·)).map _ = _
        rw [Option.map_map]
        congr 1
        funext z
        simp
      · rcases List.mem_append.1 hx with hx | hx
        · exact hlo x hx
        · rw [List.mem_singleton] at hx; subst hx; exact (decO_ok h).1
    have step : ∀ (o : Od) (t : Env) (H : Heap) (nx : Nat), decO p a = some o → SubT (guT no p m (l ++ [o])) t → SubH (guHr p (l ++ [o]) 106) H → ∃ k s'', k < n + 1 ∧ (∃ l, l.length + k = m ∧ decL p m 16 = (decL p k (16 + sumS l)).map (l ++ ·) ∧ (∀ o, o ∈ l → o.Ok) ∧ 16 + sumS l ≤ 224 ∧ s'' = guSt no p m l) ∧ Wk ⟨146, t, H, nx⟩ s'' := fun o t H nx h ht hH => by
      obtain ⟨z1, z2, z3, z4⟩ := nxt o h
      have hr := Wk.rensT (n := 146) (nx := nx) [(106, 103)] (K := 104) (by decide) (by simp) (by simp) (gu_onT (no := no) (m := m) (p := p) (l := l ++ [o])) gu_onH (gu_ren (p := p) (l := l ++ [o]) (by simp))
      exact ⟨n, _, by omega, ⟨l ++ [o], z2, z1, z3, by have := (decO_ok h).2; omega, rfl⟩, Wk.trans (Wk.mk (s' := ⟨146, guT no p m (l ++ [o]), guHr p (l ++ [o]) 106, nx⟩) ht.spec hH.spec (Nat.le_refl _) rfl) hr⟩
    rcases Nat.lt_or_ge a 224 with ha2 | ha2
    · have g0 : decide ((p.length : Int) ≤ (a : Int)) = false := decide_eq_false (by omega)
      have g1 : (a : Int) < (p.length : Int) := by omega
      obtain ⟨b, hb⟩ := list_get (xs := p) (i := a) (by omega)
      have hbd : p.getD a 0 = b := by rw [List.getD_eq_getElem?_getD, hb]; rfl
      have hba : byteAt ⟨p.toArray⟩ (a : Int) = (b.toNat : Int) := byteAt_list hb
      have wa1 : IntKind.i64.wrap ((a : Int) + 1) = ((a + 1 : Nat) : Int) := by rw [wrap_i64 (by omega) (by omega)]; omega
      rcases Nat.lt_or_ge 1 b.toNat with hb1 | hb1
      · have g2 : decide (1 < (b.toNat : Int)) = true := decide_eq_true (by omega)
        simp -dsimp -implicitDefEqProofs only [↓j0, ↓j1, ↓j2, ↓j7, ↓j9, ↓j10, ↓j12, ↓j13, ↓j14, ↓j15, j17, j18, j19, j20, j21, j23, ↓j25, ↓j27, ↓j29, ↓j30, j32, j33, ↓j38, ↓j39, ↓j40, ↓j41, ↓j44, ↓j47, ↓j48, ↓j54, ↓j58, ↓j59, ↓j78, j83, ↓j89, ↓j95, ↓j124, j125, j127, j141, ↓j145, ↓j146, ↓j147, ↓j148, ↓j149, ↓j151, ↓j153, j159, j161, j162, partsAV, AV.proj, AV.offOf, AV.upd, AV.size, AV.sizeL, AV.layable, j163, j164, j170, j171, j175, ↓reduceIte, Nat.reduceAdd, Nat.reduceEqDiff, j182, j185, j195, j197, j208, j214, j218, j219, j259, j391, j423, j453, guSt, guT, guH, ha, hd, str_bytes, g0, g1, hba, g2]
        exact err _ _ _ (bad (by unfold decO; rw [if_neg (by omega), hbd, if_pos hb1])) rfl rfl rfl
      have g2 : decide (1 < (b.toNat : Int)) = false := decide_eq_false (by omega)
      rcases Nat.lt_or_ge 0 b.toNat with hb0 | hb0
      · have g3 : ((b.toNat : Int) == 1) = true := by rw [beq_iff_eq]; omega
        have hbne : b ≠ 0 := fun e => by rw [e] at hb0; simp at hb0
        have c10 : IntKind.i64.wrap (((a + 1 : Nat) : Int) + 10) = ((a + 11 : Nat) : Int) := by rw [wrap_i64 (by omega) (by omega)]; omega
        rcases Nat.lt_or_ge 224 (a + 11) with ha3 | ha3
        · have g4 : decide ((p.length : Int) < ((a + 11 : Nat) : Int)) = true := decide_eq_true (by omega)
          simp -dsimp -implicitDefEqProofs only [↓j0, ↓j1, ↓j2, ↓j7, ↓j9, ↓j10, ↓j12, ↓j13, ↓j14, ↓j15, j17, j18, j19, j20, j21, j23, ↓j25, ↓j27, ↓j29, ↓j30, j32, j33, ↓j38, ↓j39, ↓j40, ↓j41, ↓j43, ↓j44, ↓j45, ↓j47, ↓j48, ↓j54, ↓j58, ↓j59, ↓j76, ↓j78, ↓j79, j81, j83, ↓j89, ↓j95, ↓j124, j125, j127, j131, j141, ↓j145, ↓j146, ↓j147, ↓j148, ↓j149, ↓j151, ↓j153, j154, j157, j159, j161, j162, partsAV, AV.proj, AV.offOf, AV.upd, AV.size, AV.sizeL, AV.layable, j163, j164, j167, j169, j170, j171, j175, ↓reduceIte, Nat.reduceAdd, Nat.reduceEqDiff, j182, j185, j195, j197, j208, j214, j218, j219, j252, j253, j259, j297, j391, j423, j453, guSt, guT, guH, ha, hd, str_bytes, g0, g1, hba, g2, g3, wa1, c10, g4]
          exact err _ _ _ (bad (by unfold decO; rw [if_neg (by omega), hbd, if_neg (by omega), if_neg hbne, if_pos ha3])) rfl rfl rfl
        have g4 : decide ((p.length : Int) < ((a + 11 : Nat) : Int)) = false := decide_eq_false (by omega)
        have c9 : IntKind.i64.wrap (((a + 1 : Nat) : Int) + 9) = ((a + 10 : Nat) : Int) := by rw [wrap_i64 (by omega) (by omega)]; omega
        have c8 : IntKind.i64.wrap (((a + 1 : Nat) : Int) + 8) = ((a + 9 : Nat) : Int) := by rw [wrap_i64 (by omega) (by omega)]; omega
        have c6 : IntKind.i64.wrap (((a + 1 : Nat) : Int) + 6) = ((a + 7 : Nat) : Int) := by rw [wrap_i64 (by omega) (by omega)]; omega
        have c2 : IntKind.i64.wrap (((a + 1 : Nat) : Int) + 2) = ((a + 3 : Nat) : Int) := by rw [wrap_i64 (by omega) (by omega)]; omega
        have g5 : ((a + 10 : Nat) : Int) < (p.length : Int) := by omega
        have g6 : ((a + 9 : Nat) : Int) < (p.length : Int) := by omega
        obtain ⟨b9, hb9⟩ := list_get (xs := p) (i := a + 9) (by omega)
        obtain ⟨b10, hb10⟩ := list_get (xs := p) (i := a + 10) (by omega)
        have hd9 : p.getD (a + 9) 0 = b9 := by rw [List.getD_eq_getElem?_getD, hb9]; rfl
        have hd10 : p.getD (a + 10) 0 = b10 := by rw [List.getD_eq_getElem?_getD, hb10]; rfl
        have hba9 : byteAt ⟨p.toArray⟩ ((a + 9 : Nat) : Int) = (b9.toNat : Int) := byteAt_list hb9
        have hba10 : byteAt ⟨p.toArray⟩ ((a + 10 : Nat) : Int) = (b10.toNat : Int) := byteAt_list hb10
        obtain ⟨k, hk⟩ : ∃ k, b10.toNat = k := ⟨_, rfl⟩
        have hkb : k < 256 := by have := b10.toNat_lt; omega
        have wk : IntKind.i64.wrap (k : Int) = (k : Int) := by rw [wrap_i64 (by omega) (by omega)]
        have ck : IntKind.i64.wrap (((a + 11 : Nat) : Int) + (k : Int)) = ((a + (11 + k) : Nat) : Int) := by rw [wrap_i64 (by omega) (by omega)]; omega
        rw [hk] at hba10
        rcases Nat.lt_or_ge 224 (a + (11 + k)) with ha4 | ha4
        · have g7 : decide ((p.length : Int) < ((a + (11 + k) : Nat) : Int)) = true := decide_eq_true (by omega)
          simp -dsimp -implicitDefEqProofs only [↓j0, ↓j1, ↓j2, ↓j7, ↓j9, ↓j10, ↓j12, ↓j13, ↓j14, ↓j15, j17, j18, j19, j20, j21, j23, ↓j25, ↓j27, ↓j29, ↓j30, j32, j33, ↓j38, ↓j39, ↓j40, ↓j41, ↓j43, ↓j44, ↓j45, ↓j47, ↓j48, ↓j50, ↓j54, ↓j58, ↓j59, ↓j76, ↓j78, ↓j79, j83, ↓j89, ↓j95, ↓j124, j125, j127, j131, j141, ↓j145, ↓j146, ↓j147, ↓j148, ↓j149, ↓j151, ↓j153, j154, j157, j159, j161, j162, partsAV, AV.proj, AV.offOf, AV.upd, AV.size, AV.sizeL, AV.layable, j163, j164, j167, j169, j170, j171, j175, ↓reduceIte, Nat.reduceAdd, Nat.reduceEqDiff, j182, j185, j195, j197, j208, j214, j218, j219, ↓j225, j251, j252, j253, j259, j297, j391, j423, j453, j461, guSt, guT, guH, ha, hd, str_bytes, g0, g1, hba, g2, g3, wa1, c10, g4, c9, g5, hba10, wk, ck, g7]
          exact err _ _ _ (bad (by unfold decO; rw [if_neg (by omega), hbd, if_neg (by omega), if_neg hbne, if_neg (by omega), hd10, hk, if_pos (show 224 < a + 11 + k by omega)])) rfl rfl rfl
        have g7 : decide ((p.length : Int) < ((a + (11 + k) : Nat) : Int)) = false := decide_eq_false (by omega)
        have hdo : decO p a = some ⟨true, numAt p (a + 1) 2, numAt p (a + 3) 4, numAt p (a + 7) 2, b9, (p.drop (a + 11)).take k⟩ := by
          unfold decO
          rw [if_neg (by omega), hbd, if_neg (by omega), if_neg hbne, if_neg (by omega), hd10, hk, if_neg (by omega), hd9]
        obtain ⟨z1, z2, z3, z4⟩ := nxt _ hdo
        have hG1 := get_spec p (a + 1) 2 (by omega) (by omega) (by omega)
        have hG2 := get_spec p (a + 3) 4 (by omega) (by omega) (by omega)
        have hG3 := get_spec p (a + 7) 2 (by omega) (by omega) (by omega)
        have l1 : numAt p (a + 1) 2 < 65536 := numAt_lt (n := 2)
        have l2 : numAt p (a + 3) 4 < 4294967296 := numAt_lt (n := 4)
        have l3 : numAt p (a + 7) 2 < 65536 := numAt_lt (n := 2)
        rw [show getL ((p.drop (a + 1)).take 2) = numAt p (a + 1) 2 from rfl] at hG1
        rw [show getL ((p.drop (a + 3)).take 4) = numAt p (a + 3) 4 from rfl] at hG2
        rw [show getL ((p.drop (a + 7)).take 2) = numAt p (a + 7) 2 from rfl] at hG3
        obtain ⟨N1, hN1⟩ : ∃ x, numAt p (a + 1) 2 = x := ⟨_, rfl⟩
        obtain ⟨N2, hN2⟩ : ∃ x, numAt p (a + 3) 4 = x := ⟨_, rfl⟩
        obtain ⟨N3, hN3⟩ : ∃ x, numAt p (a + 7) 2 = x := ⟨_, rfl⟩
        rw [hN1] at hG1 l1 hdo z1 z2 z3 z4
        rw [hN2] at hG2 l2 hdo z1 z2 z3 z4
        rw [hN3] at hG3 l3 hdo z1 z2 z3 z4
        have x1 : IntKind.u16.wrap (N1 : Int) = (N1 : Int) := by rw [wrap_u16, Nat.mod_eq_of_lt l1]
        have x2 : IntKind.u32.wrap (N2 : Int) = (N2 : Int) := by rw [wrap_u32, Nat.mod_eq_of_lt l2]
        have x3 : IntKind.u16.wrap (N3 : Int) = (N3 : Int) := by rw [wrap_u16, Nat.mod_eq_of_lt l3]
        have hex : (ByteArray.mk p.toArray).extract (a + 11) (a + (11 + k)) = ⟨((p.drop (a + 11)).take k).toArray⟩ := by
          apply ByteArray.ext
          rw [ByteArray.data_extract]
          rw [List.extract_toArray, List.extract_eq_take_drop, show a + (11 + k) - (a + 11) = k by omega]
        obtain ⟨D, hD⟩ : ∃ D, (p.drop (a + 11)).take k = D := ⟨_, rfl⟩
        have hDl : D.length = k := by rw [← hD]; simp; omega
        rw [hD] at hex hdo z1 z2 z3 z4
        have hs : Od.size ⟨true, N1, N2, N3, b9, D⟩ = 11 + k := by rw [← hDl]; rfl
        rw [hs] at z4
        have c22 : IntKind.i64.wrap (10 + (k : Int)) = ((10 + k : Nat) : Int) := by rw [wrap_i64 (by omega) (by omega)]; omega
        have c23 : IntKind.i64.wrap (((a + 1 : Nat) : Int) + ((10 + k : Nat) : Int)) = ((a + (11 + k) : Nat) : Int) := by rw [wrap_i64 (by omega) (by omega)]; omega
        rcases hacc with ⟨q1, q2, q3⟩ | ⟨q1, q2⟩
        · simp -dsimp -implicitDefEqProofs only [↓j0, ↓j1, ↓j2, ↓j7, ↓j9, ↓j12, ↓j13, ↓j14, ↓j15, j17, j18, j19, j20, j21, j22, j23, ↓j25, ↓j27, ↓j29, ↓j30, j32, j33, ↓j38, ↓j39, ↓j40, ↓j41, ↓j43, ↓j44, ↓j45, ↓j47, ↓j48, ↓j50, ↓j53, ↓j58, ↓j59, ↓j76, ↓j78, ↓j79, j83, ↓j89, ↓j95, j131, j141, ↓j145, ↓j146, ↓j147, ↓j148, ↓j149, ↓j151, ↓j153, j154, j157, j159, j161, j162, AV.proj, AV.offOf, AV.upd, AV.size, AV.sizeL, AV.layable, j163, j164, j167, j169, j170, j171, j175, ↓reduceIte, Nat.reduceAdd, Nat.reduceEqDiff, j182, j185, j195, j197, j208, ↓j225, j251, j252, j253, j259, j297, j423, j461, guSt, guT, guH, ha, hd, str_bytes, g0, g1, hba, g2, g3, wa1, c10, g4, c9, g5, hba10, wk, ck, g7, q1, q2]
          refine CallTo.pure (args := [.str ⟨p.toArray⟩, .int .i64 ((a + 1 : Nat) : Int), .int .i64 ((2 : Nat) : Int)]) rfl fok34 (by simp -dsimp -implicitDefEqProofs only [↓j25, ↓j29, ↓j30, j33, j173, j174, ↓reduceIte, Nat.reduceEqDiff]; rfl) (fun x hx => (args_sii x hx).2) hG1 ?_
          simp -dsimp -implicitDefEqProofs only [↓j0, ↓j1, ↓j7, ↓j12, ↓j15, j17, j18, j20, ↓j25, ↓j29, ↓j30, j33, ↓j38, ↓j39, ↓j48, ↓j53, ↓j57, j85, ↓j89, ↓j145, ↓j146, j154, j163, j164, j171, ↓reduceIte, Nat.reduceEqDiff, j185, c2]
          refine CallTo.pure (args := [.str ⟨p.toArray⟩, .int .i64 ((a + 3 : Nat) : Int), .int .i64 ((4 : Nat) : Int)]) rfl fok34 (by simp -dsimp -implicitDefEqProofs only [↓j25, ↓j29, ↓j30, j33, j173, j174, ↓reduceIte, Nat.reduceEqDiff]; rfl) (fun x hx => (args_sii x hx).2) hG2 ?_
          simp -dsimp -implicitDefEqProofs only [↓j0, ↓j1, ↓j7, ↓j12, ↓j15, j17, j18, j20, ↓j25, ↓j29, ↓j30, j33, ↓j38, ↓j39, ↓j48, ↓j53, ↓j57, j85, ↓j89, ↓j145, ↓j146, j154, j163, j164, j171, ↓reduceIte, Nat.reduceEqDiff, j185, c6]
          refine CallTo.pure (args := [.str ⟨p.toArray⟩, .int .i64 ((a + 7 : Nat) : Int), .int .i64 ((2 : Nat) : Int)]) rfl fok34 (by simp -dsimp -implicitDefEqProofs only [↓j25, ↓j29, ↓j30, j33, j173, j174, ↓reduceIte, Nat.reduceEqDiff]; rfl) (fun x hx => (args_sii x hx).2) hG3 ?_
          simp -dsimp -implicitDefEqProofs only [↓j0, ↓j1, ↓j3, ↓j4, ↓j8, ↓j12, ↓j15, j17, j18, j19, j20, j21, j22, j23, j24, ↓j25, ↓j27, ↓j29, ↓j30, j33, ↓j38, ↓j39, ↓j44, ↓j45, ↓j47, ↓j48, ↓j50, ↓j54, ↓j57, ↓j78, ↓j79, j85, ↓j89, ↓j95, ↓j124, j125, j126, j127, j128, ↓j145, ↓j146, ↓j153, j154, partsAV, AV.proj, AV.offOf, AV.upd, AV.size, AV.sizeL, AV.layable, j163, j164, j166, j167, j168, j169, j170, j171, j172, j173, j174, j179, j180, ↓reduceIte, Nat.reduceAdd, Nat.reduceEqDiff, j182, j183, j185, j196, j197, j208, j213, j214, j215, j216, j217, ↓j225, j259, j260, j262, j281, j283, j284, j288, j291, j300, j303, j306, j440, j466, c8, str_bytes, g6, hba9, x1, x2, x3]
          refine ⟨by kernel_rfl, ?_⟩
          simp -dsimp -implicitDefEqProofs only [↓j0, ↓j1, ↓j7, ↓j12, ↓j15, j17, j18, j20, ↓j25, ↓j29, ↓j30, j33, ↓j38, ↓j39, ↓j47, ↓j48, ↓j49, ↓j50, ↓j89, ↓j95, ↓j97, ↓j145, ↓j146, j154, j171, ↓reduceIte, Nat.reduceEqDiff, j182, j184, j185, j208, ↓j225, bndAV, j251, j259, j461, c9, str_bytes, g5, hba10, wk, c10, ck]
          refine ⟨⟨by omega, by omega⟩, ?_⟩
          simp -dsimp -implicitDefEqProofs only [↓j0, ↓j1, ↓j7, ↓j15, j17, j18, j19, j20, j21, j22, j23, ↓j25, ↓j27, ↓j29, ↓j30, j33, ↓j38, ↓j39, ↓j43, ↓j44, ↓j45, ↓j48, ↓j51, ↓j74, ↓j76, ↓j78, ↓j79, ↓j89, j125, j126, j127, j128, j129, j134, ↓j145, ↓j146, ↓j153, j154, partsAV, AV.proj, AV.offOf, AV.upd, AV.size, AV.sizeL, AV.layable, j163, j164, j166, j167, j168, j169, j170, j171, j179, j180, ↓reduceIte, Nat.reduceAdd, Nat.reduceMul, Nat.reduceEqDiff, Nat.reduceLeDiff, j182, j183, j185, j196, j197, j207, j213, j214, j215, j217, Nat.reducePow, List.replicate, j234, j257, j294, j295, j309, j388, j397, j450, hex, c22, c23]
          refine DoAppend_of rfl rfl at69 ?_
          have huD : Unif 6 [AV.agg [.bool true, .int .u16 N1, .int .u32 N2, .agg [.int .u16 N3, .int .u8 b9.toNat], .str ⟨D.toArray⟩]] := unif_od [⟨true, N1, N2, N3, b9, D⟩]
          simp -dsimp -implicitDefEqProofs only [↓j0, ↓j1, ↓j7, ↓j15, j17, j18, j19, j20, j21, j22, j23, ↓j25, ↓j27, ↓j29, ↓j30, j33, ↓j38, ↓j44, ↓j45, ↓j48, ↓j78, ↓j79, ↓j89, ↓j100, ↓j106, j107, ↓j145, ↓j146, ↓j148, ↓j153, j154, AV.proj, AV.offOf, AV.upd, AV.size, AV.sizeL, AV.layable, j163, j164, j166, j167, j168, j169, j170, j171, ↓reduceIte, Nat.reduceAdd, Nat.reduceMul, Nat.reduceEqDiff, Nat.reduceLeDiff, j182, j185, j196, j197, j223, j227, j228, j230, j231, Nat.reduceBEq, j234, j387, j397, huD]
          exact step _ _ _ _ hdo (by simp -dsimp -implicitDefEqProofs only [↓j25, reduceCtorEq, ↓reduceIte, Nat.reduceEqDiff, j182, j196, j202, j203, j230, j231, j242, guT, hw, z4] <;> simp) (by simp -dsimp -implicitDefEqProofs only [↓j27, j171, j173, j174, ↓reduceIte, Nat.reduceEqDiff, j182, j196, j204, j205, j230, j231, guHr, q3] <;> simp)
        · simp -dsimp -implicitDefEqProofs only [↓j0, ↓j1, ↓j2, ↓j7, ↓j9, ↓j12, ↓j13, ↓j14, ↓j15, j17, j18, j19, j20, j21, j22, j23, ↓j25, ↓j27, ↓j29, ↓j30, j32, j33, ↓j38, ↓j39, ↓j40, ↓j41, ↓j43, ↓j44, ↓j45, ↓j47, ↓j48, ↓j50, ↓j53, ↓j58, ↓j59, ↓j76, ↓j78, ↓j79, j83, ↓j89, ↓j95, j131, j141, ↓j145, ↓j146, ↓j147, ↓j148, ↓j149, ↓j151, ↓j153, j154, j157, j159, j161, j162, AV.proj, AV.offOf, AV.upd, AV.size, AV.sizeL, AV.layable, j163, j164, j167, j169, j170, j171, j175, ↓reduceIte, Nat.reduceAdd, Nat.reduceEqDiff, j182, j185, j195, j197, j208, ↓j225, j251, j252, j253, j259, j297, j423, j461, guSt, guT, guH, ha, hd, str_bytes, g0, g1, hba, g2, g3, wa1, c10, g4, c9, g5, hba10, wk, ck, g7, q1, q2]
          refine CallTo.pure (args := [.str ⟨p.toArray⟩, .int .i64 ((a + 1 : Nat) : Int), .int .i64 ((2 : Nat) : Int)]) rfl fok34 (by simp -dsimp -implicitDefEqProofs only [↓j25, ↓j29, ↓j30, j33, j173, j174, ↓reduceIte, Nat.reduceEqDiff]; rfl) (fun x hx => (args_sii x hx).2) hG1 ?_
          simp -dsimp -implicitDefEqProofs only [↓j0, ↓j1, ↓j7, ↓j12, ↓j15, j17, j18, j20, ↓j25, ↓j29, ↓j30, j33, ↓j38, ↓j39, ↓j48, ↓j53, ↓j57, j85, ↓j89, ↓j145, ↓j146, j154, j163, j164, j171, ↓reduceIte, Nat.reduceEqDiff, j185, c2]
          refine CallTo.pure (args := [.str ⟨p.toArray⟩, .int .i64 ((a + 3 : Nat) : Int), .int .i64 ((4 : Nat) : Int)]) rfl fok34 (by simp -dsimp -implicitDefEqProofs only [↓j25, ↓j29, ↓j30, j33, j173, j174, ↓reduceIte, Nat.reduceEqDiff]; rfl) (fun x hx => (args_sii x hx).2) hG2 ?_
          simp -dsimp -implicitDefEqProofs only [↓j0, ↓j1, ↓j7, ↓j12, ↓j15, j17, j18, j20, ↓j25, ↓j29, ↓j30, j33, ↓j38, ↓j39, ↓j48, ↓j53, ↓j57, j85, ↓j89, ↓j145, ↓j146, j154, j163, j164, j171, ↓reduceIte, Nat.reduceEqDiff, j185, c6]
          refine CallTo.pure (args := [.str ⟨p.toArray⟩, .int .i64 ((a + 7 : Nat) : Int), .int .i64 ((2 : Nat) : Int)]) rfl fok34 (by simp -dsimp -implicitDefEqProofs only [↓j25, ↓j29, ↓j30, j33, j173, j174, ↓reduceIte, Nat.reduceEqDiff]; rfl) (fun x hx => (args_sii x hx).2) hG3 ?_
          simp -dsimp -implicitDefEqProofs only [↓j0, ↓j1, ↓j3, ↓j4, ↓j8, ↓j12, ↓j15, j17, j18, j19, j20, j21, j22, j23, j24, ↓j25, ↓j27, ↓j29, ↓j30, j33, ↓j38, ↓j39, ↓j44, ↓j45, ↓j47, ↓j48, ↓j50, ↓j54, ↓j57, ↓j78, ↓j79, j85, ↓j89, ↓j95, ↓j124, j125, j126, j127, j128, ↓j145, ↓j146, ↓j153, j154, partsAV, AV.proj, AV.offOf, AV.upd, AV.size, AV.sizeL, AV.layable, j163, j164, j166, j167, j168, j169, j170, j171, j172, j173, j174, j179, j180, ↓reduceIte, Nat.reduceAdd, Nat.reduceEqDiff, j182, j183, j185, j196, j197, j208, j213, j214, j215, j216, j217, ↓j225, j259, j260, j262, j281, j283, j284, j288, j291, j300, j303, j306, j440, j466, c8, str_bytes, g6, hba9, x1, x2, x3]
          refine ⟨by kernel_rfl, ?_⟩
          simp -dsimp -implicitDefEqProofs only [↓j0, ↓j1, ↓j7, ↓j12, ↓j15, j17, j18, j20, ↓j25, ↓j29, ↓j30, j33, ↓j38, ↓j39, ↓j47, ↓j48, ↓j49, ↓j50, ↓j89, ↓j95, ↓j97, ↓j145, ↓j146, j154, j171, ↓reduceIte, Nat.reduceEqDiff, j182, j184, j185, j208, ↓j225, bndAV, j251, j259, j461, c9, str_bytes, g5, hba10, wk, c10, ck]
          refine ⟨⟨by omega, by omega⟩, ?_⟩
          simp -dsimp -implicitDefEqProofs only [↓j0, ↓j1, ↓j7, ↓j15, j17, j18, j19, j20, j21, j22, j23, ↓j25, ↓j27, ↓j29, ↓j30, j33, ↓j38, ↓j39, ↓j43, ↓j44, ↓j45, ↓j48, ↓j51, ↓j74, ↓j76, ↓j78, ↓j79, ↓j89, j125, j126, j127, j128, j129, j135, ↓j145, ↓j146, ↓j153, j154, partsAV, AV.proj, AV.offOf, AV.upd, AV.size, AV.sizeL, AV.layable, j163, j164, j166, j167, j168, j169, j170, j171, j179, j180, ↓reduceIte, Nat.reduceAdd, Nat.reduceMul, Nat.reduceEqDiff, Nat.reduceLeDiff, j182, j183, j185, j196, j197, j207, j213, j214, j215, j217, Nat.reducePow, List.replicate, j234, j257, j294, j295, j309, j388, j397, j450, hex, c22, c23]
          refine DoAppend_of rfl rfl at69 ?_
          have huD : Unif 6 [AV.agg [.bool true, .int .u16 N1, .int .u32 N2, .agg [.int .u16 N3, .int .u8 b9.toNat], .str ⟨D.toArray⟩]] := unif_od [⟨true, N1, N2, N3, b9, D⟩]
          simp -dsimp -implicitDefEqProofs only [↓j27, ↓j101, ↓j102, ↓j106, j107, ↓j145, ↓j146, ↓j153, AV.proj, AV.offOf, j166, ↓reduceIte, Nat.reduceEqDiff, Nat.reduceLeDiff, j182, j184, j188, j189, j196, j197, j213, j214, j215, j222, j223, j227, j228, j230, j231, j234, huo, huD]
          refine ⟨⟨by omega, by omega⟩, ?_⟩
          simp -dsimp -implicitDefEqProofs only [↓j0, ↓j1, ↓j7, ↓j15, j17, j18, j19, j20, j21, j22, j23, ↓j25, ↓j27, ↓j29, ↓j30, j33, ↓j38, ↓j44, ↓j45, ↓j48, ↓j78, ↓j79, ↓j89, ↓j145, ↓j146, ↓j153, j154, AV.proj, AV.offOf, AV.upd, AV.size, AV.sizeL, AV.layable, j163, j164, j166, j167, j168, j169, j170, j171, ↓reduceIte, Nat.reduceAdd, Nat.reduceEqDiff, j182, j185, j196, j197, j227, j228, j230, j231, j387, j397, hTl]
          exact step _ _ _ _ hdo (by simp -dsimp -implicitDefEqProofs only [↓j25, reduceCtorEq, ↓reduceIte, Nat.reduceEqDiff, j182, j196, j202, j203, j230, j231, j242, guT, hw, z4] <;> simp) (by simp -dsimp -implicitDefEqProofs only [↓j27, j179, ↓reduceIte, Nat.reduceEqDiff, j183, j184, j196, j204, j205, j230, j231, j242, guHr] <;> simp)
      · have g3 : ((b.toNat : Int) == 1) = false := by rw [beq_eq_false_iff_ne]; omega
        have hdz : decO p a = some .zero := by
          unfold decO
          rw [if_neg (by omega), hbd, if_neg (by omega), if_pos (UInt8.toNat_inj.1 (by show b.toNat = 0; omega))]
        obtain ⟨z1, z2, z3, z4⟩ := nxt _ hdz
        rw [show Od.zero.size = 1 from rfl] at z4
        have huz : Unif 6 [AV.agg [.bool false, .int .u16 0, .int .u32 0, .agg [.int .u16 0, .int .u8 0], .str ⟨#[]⟩]] := unif_od [.zero]
        rcases hacc with ⟨q1, q2, q3⟩ | ⟨q1, q2⟩
        · simp -dsimp -implicitDefEqProofs only [↓j0, ↓j1, ↓j2, ↓j7, ↓j9, ↓j12, ↓j13, ↓j14, ↓j15, j17, j18, j19, j20, j21, j22, j23, ↓j25, ↓j27, ↓j29, ↓j30, j32, j33, ↓j38, ↓j39, ↓j40, ↓j41, ↓j43, ↓j44, ↓j45, ↓j47, ↓j48, ↓j51, ↓j58, ↓j59, ↓j74, ↓j76, ↓j78, ↓j79, j83, ↓j89, ↓j95, j125, j126, j127, j128, j129, j131, j134, j141, ↓j145, ↓j146, ↓j147, ↓j148, ↓j149, ↓j151, ↓j153, j154, j157, j159, j161, j162, partsAV, AV.proj, AV.offOf, AV.upd, AV.size, AV.sizeL, AV.layable, j163, j164, j166, j167, j169, j170, j171, j175, j179, j180, ↓reduceIte, Nat.reduceAdd, Nat.reduceMul, Nat.reduceEqDiff, Nat.reduceLeDiff, j182, j183, j185, j195, j196, j197, j208, j213, j214, j215, j217, Nat.reducePow, List.replicate, j234, j252, j253, j259, j294, j295, j297, j388, j397, j423, j450, guSt, guT, guH, ha, hd, str_bytes, g0, g1, hba, g2, g3, q1, q2, wa1]
          refine DoAppend_of rfl rfl at69 ?_
          simp -dsimp -implicitDefEqProofs only [↓j0, ↓j1, ↓j7, ↓j15, j17, j18, j19, j20, j21, j22, j23, ↓j25, ↓j27, ↓j29, ↓j30, j33, ↓j38, ↓j44, ↓j45, ↓j48, ↓j78, ↓j79, ↓j89, ↓j100, ↓j106, j107, ↓j145, ↓j146, ↓j148, ↓j153, j154, AV.proj, AV.offOf, AV.upd, AV.size, AV.sizeL, AV.layable, j163, j164, j166, j167, j168, j169, j170, j171, ↓reduceIte, Nat.reduceAdd, Nat.reduceMul, Nat.reduceEqDiff, Nat.reduceLeDiff, j182, j185, j196, j197, j223, j227, j228, j230, j231, Nat.reduceBEq, j234, j387, j397, huz]
          exact step _ _ _ _ hdz (by simp -dsimp -implicitDefEqProofs only [↓j25, reduceCtorEq, ↓reduceIte, Nat.reduceEqDiff, j182, j196, j202, j203, j230, j231, j242, guT, hw, z4] <;> simp) (by simp -dsimp -implicitDefEqProofs only [↓j27, j171, j173, j174, j179, ↓reduceIte, Nat.reduceEqDiff, j183, j184, j196, j204, j205, j230, j231, guHr, q3] <;> simp [Od.zero])
        · simp -dsimp -implicitDefEqProofs only [↓j0, ↓j1, ↓j2, ↓j7, ↓j9, ↓j12, ↓j13, ↓j14, ↓j15, j17, j18, j19, j20, j21, j22, j23, ↓j25, ↓j27, ↓j29, ↓j30, j32, j33, ↓j38, ↓j39, ↓j40, ↓j41, ↓j43, ↓j44, ↓j45, ↓j47, ↓j48, ↓j51, ↓j58, ↓j59, ↓j74, ↓j76, ↓j78, ↓j79, j83, ↓j89, ↓j95, j125, j126, j127, j128, j129, j131, j135, j141, ↓j145, ↓j146, ↓j147, ↓j148, ↓j149, ↓j151, ↓j153, j154, j157, j159, j161, j162, partsAV, AV.proj, AV.offOf, AV.upd, AV.size, AV.sizeL, AV.layable, j163, j164, j166, j167, j169, j170, j171, j175, j179, j180, ↓reduceIte, Nat.reduceAdd, Nat.reduceMul, Nat.reduceEqDiff, Nat.reduceLeDiff, j182, j183, j185, j195, j196, j197, j208, j213, j214, j215, j217, Nat.reducePow, List.replicate, j234, j252, j253, j259, j294, j295, j297, j388, j397, j423, j450, guSt, guT, guH, ha, hd, str_bytes, g0, g1, hba, g2, g3, q1, q2, wa1]
          refine DoAppend_of rfl rfl at69 ?_
          simp -dsimp -implicitDefEqProofs only [↓j27, ↓j101, ↓j102, ↓j106, j107, ↓j145, ↓j146, ↓j153, AV.proj, AV.offOf, j166, ↓reduceIte, Nat.reduceEqDiff, Nat.reduceLeDiff, j182, j184, j188, j189, j196, j197, j213, j214, j215, j222, j223, j227, j228, j230, j231, j234, huo, huz]
          refine ⟨⟨by omega, by omega⟩, ?_⟩
          simp -dsimp -implicitDefEqProofs only [↓j0, ↓j1, ↓j7, ↓j15, j17, j18, j19, j20, j21, j22, j23, ↓j25, ↓j27, ↓j29, ↓j30, j33, ↓j38, ↓j44, ↓j45, ↓j48, ↓j78, ↓j79, ↓j89, ↓j145, ↓j146, ↓j153, j154, AV.proj, AV.offOf, AV.upd, AV.size, AV.sizeL, AV.layable, j163, j164, j166, j167, j168, j169, j170, j171, ↓reduceIte, Nat.reduceAdd, Nat.reduceEqDiff, j182, j185, j196, j197, j227, j228, j230, j231, j387, j397, hTl]
          exact step _ _ _ _ hdz (by simp -dsimp -implicitDefEqProofs only [↓j25, reduceCtorEq, ↓reduceIte, Nat.reduceEqDiff, j182, j196, j202, j203, j230, j231, j242, guT, hw, z4] <;> simp) (by simp -dsimp -implicitDefEqProofs only [↓j27, j179, ↓reduceIte, Nat.reduceEqDiff, j183, j184, j196, j204, j205, j230, j231, j242, guHr] <;> simp [Od.zero])
    · have g0 : decide ((p.length : Int) ≤ (a : Int)) = true := decide_eq_true (by omega)
      simp -dsimp -implicitDefEqProofs only [↓j0, ↓j1, ↓j2, ↓j7, ↓j9, ↓j10, ↓j12, ↓j13, ↓j14, ↓j15, j17, j18, j19, j20, j21, j23, ↓j25, ↓j27, ↓j29, ↓j30, j32, j33, ↓j38, ↓j39, ↓j40, ↓j41, ↓j44, ↓j48, ↓j54, ↓j58, ↓j59, ↓j78, j81, ↓j89, ↓j124, j125, j127, j141, ↓j145, ↓j146, ↓j147, ↓j149, ↓j151, ↓j153, j159, j162, partsAV, AV.proj, AV.offOf, AV.upd, AV.size, AV.sizeL, AV.layable, j163, j164, j170, j171, j175, ↓reduceIte, Nat.reduceAdd, Nat.reduceEqDiff, j182, j185, j197, j214, j218, j219, j259, j391, j423, j453, guSt, guT, guH, ha, hd, str_bytes, g0]
      exact err _ _ _ (bad (by unfold decO; rw [if_pos ha2])) rfl rfl rfl
  | zero =>
    have hd : decide ((l.length : Int) < (m : Int)) = false := decide_eq_false (by omega)
    have hdl : decL p m 16 = some l := by rw [hdl]; simp [decL]
    have hG : getUndo no p = if (p.drop a).all (· == 0) && mayP ⟨lsnOf p, l⟩ then some ⟨lsnOf p, l⟩ else none := by rw [hG, hdl]; simp only [ha]
    have hu : (⟨lsnOf p, l⟩ : Ud).Ok := ⟨Nat.lt_of_lt_of_le (numAt_lt (p := p) (o := 7) (n := 8)) (by decide), by show l.length ≤ _; omega, hlo⟩
    have hms := may_spec ⟨lsnOf p, l⟩ hu
    simp -dsimp -implicitDefEqProofs only [↓j0, ↓j1, ↓j7, ↓j11, ↓j12, ↓j13, ↓j14, ↓j15, ↓j16, j17, j18, j20, ↓j25, ↓j29, ↓j48, ↓j89, ↓j145, ↓j146, ↓j148, ↓j149, j159, j171, ↓reduceIte, Nat.reduceEqDiff, j185, guSt, guT, ha, hd]
    refine AWp.loopR (Z := Z) mixed hZ (by kernel_rfl) (fun n s => ∃ b, b + n = 224 ∧ (p.drop a).all (· == 0) = (p.drop b).all (· == 0) ∧ s = guSt2 no p l b) (n0 := 224 - a) (s0 := guSt2 no p l a) ?_ ⟨a, by omega, rfl, rfl⟩ ?_ rfl
    · exact Wk.mk (SubT.spec (by simp -dsimp -implicitDefEqProofs only [↓j25, reduceCtorEq, ↓reduceIte, Nat.reduceEqDiff, j182, j202, j203, guSt2, guT2] <;> simp)) (fun n c h => h) (Nat.le_refl _) rfl
    rintro n s ⟨b, hb, hz, rfl⟩
    refine ⟨rfl, ?_⟩
    cases n with
    | succ n =>
      have g0 : decide ((b : Int) < (p.length : Int)) = true := decide_eq_true (by omega)
      have g1 : (b : Int) < (p.length : Int) := by omega
      obtain ⟨x, hx⟩ := list_get (xs := p) (i := b) (by omega)
      have hba : byteAt ⟨p.toArray⟩ (b : Int) = (x.toNat : Int) := byteAt_list hx
      have wb : IntKind.i64.wrap ((b : Int) + 1) = ((b + 1 : Nat) : Int) := by rw [wrap_i64 (by omega) (by omega)]; omega
      have hdr : p.drop b = x :: p.drop (b + 1) := by
        rw [List.drop_eq_getElem_cons (by omega)]
        rw [List.getElem?_eq_getElem (by omega)] at hx
        rw [Option.some.inj hx]
      rcases Nat.lt_or_ge 0 x.toNat with h0 | h0
      · have g2 : ((x.toNat : Int) != 0) = true := by rw [bne_iff_ne]; omega
        have hx0 : (x == 0) = false := by
          rw [beq_eq_false_iff_ne]; intro e; rw [e] at h0; simp at h0
        simp -dsimp -implicitDefEqProofs only [↓j0, ↓j1, ↓j7, ↓j9, ↓j10, ↓j12, ↓j13, ↓j14, ↓j15, j17, j18, j19, j20, j21, j23, ↓j25, ↓j27, ↓j29, ↓j30, j33, ↓j38, ↓j39, ↓j44, ↓j47, ↓j48, ↓j54, ↓j58, ↓j59, ↓j78, ↓j89, ↓j95, ↓j124, j125, j127, j141, ↓j145, ↓j146, ↓j147, ↓j149, ↓j153, j158, j159, partsAV, AV.proj, AV.offOf, AV.upd, AV.size, AV.sizeL, AV.layable, j170, j171, ↓reduceIte, Nat.reduceAdd, Nat.reduceEqDiff, j182, j185, j191, j197, j208, j214, j218, j219, j259, j391, j453, guSt2, guT2, guH, str_bytes, g1, hba, g2]
        exact err _ _ _ (by rw [hG, hz, hdr, List.all_cons, hx0]; rfl) rfl rfl rfl
      · have g2 : ((x.toNat : Int) != 0) = false := by
          rw [show x.toNat = 0 by omega]; rfl
        have hx0 : (x == 0) = true := by
          rw [beq_iff_eq]; exact UInt8.toNat_inj.1 (by show x.toNat = 0; omega)
        simp -dsimp -implicitDefEqProofs only [↓j0, ↓j1, ↓j7, ↓j9, ↓j12, ↓j13, ↓j14, ↓j15, j17, j18, j20, ↓j25, ↓j29, ↓j30, j33, ↓j38, ↓j39, ↓j47, ↓j48, ↓j58, ↓j59, ↓j89, ↓j95, j141, ↓j145, ↓j146, ↓j147, ↓j148, ↓j149, j154, j158, j159, j171, ↓reduceIte, Nat.reduceEqDiff, j182, j185, j191, j208, j259, guSt2, guT2, str_bytes, g1, hba, g2, wb]
        exact ⟨n, guSt2 no p l (b + 1), by omega, ⟨b + 1, by omega, by rw [hz, hdr, List.all_cons, hx0, Bool.true_and], rfl⟩, Wk.mk (SubT.spec (by simp -dsimp -implicitDefEqProofs only [↓j25, reduceCtorEq, ↓reduceIte, Nat.reduceEqDiff, j182, j202, j203, guSt2, guT2] <;> simp)) (fun n c h => h) (Nat.le_refl _) rfl⟩
    | zero =>
      have g0 : decide ((b : Int) < (p.length : Int)) = false := decide_eq_false (by omega)
      have hzz : (p.drop a).all (· == 0) = true := by rw [hz, List.drop_eq_nil_of_le (by omega)]; rfl
      have hG : getUndo no p = if mayP ⟨lsnOf p, l⟩ then some ⟨lsnOf p, l⟩ else none := by rw [hG, hzz, Bool.true_and]
      rcases hacc with ⟨q1, q2, q3⟩ | ⟨q1, q2⟩
      · have hms1 : ACall Try.prog 53 [.agg [.int .u64 (lsnOf p), .nilsl]] [] (.bool (mayP ⟨lsnOf p, l⟩)) [] := by
          refine hms.nilArgs ⟨?_, trivial⟩
          rw [q3]
          exact Frz.agg _ _ rfl (fun k hk => match k, hk with | 0, _ => .same _ trivial | 1, _ => .nil)
        simp -dsimp -implicitDefEqProofs only [↓j0, ↓j1, ↓j7, ↓j11, ↓j12, ↓j13, ↓j15, j17, j18, j20, ↓j25, ↓j27, ↓j29, ↓j38, ↓j43, ↓j48, ↓j53, ↓j58, ↓j59, ↓j76, ↓j89, j129, j141, ↓j145, ↓j146, ↓j148, ↓j149, ↓j153, j159, AV.proj, AV.offOf, AV.size, AV.sizeL, j171, ↓reduceIte, Nat.reduceAdd, Nat.reduceEqDiff, j182, j185, j197, j259, j391, j392, guSt2, guT2, guH, q1, q2, g0, str_bytes]
        refine CallTo.pure (args := [.agg [.int .u64 (lsnOf p), .nilsl]]) rfl fok53 (by simp -dsimp -implicitDefEqProofs only [↓j25, ↓j29, j173, j174, ↓reduceIte]) (fun x hx => by rw [List.mem_singleton] at hx; subst hx; exact fun vs h => by cases h) hms1 ?_
        cases hm : mayP ⟨lsnOf p, l⟩
        · simp -dsimp -implicitDefEqProofs only [↓j0, ↓j1, ↓j7, ↓j10, ↓j12, ↓j13, ↓j15, j17, j18, j19, j20, j21, j22, j23, ↓j25, ↓j27, ↓j29, ↓j30, j33, ↓j39, ↓j44, ↓j54, ↓j55, ↓j78, j84, ↓j124, j125, j127, ↓j145, ↓j146, ↓j147, ↓j149, ↓j153, partsAV, AV.proj, AV.offOf, AV.upd, AV.size, AV.sizeL, AV.layable, j170, j171, ↓reduceIte, Nat.reduceAdd, Nat.reduceEqDiff, j182, j194, j197, j214, j218, j219, j391, j453]
          exact err _ _ _ (by rw [hG, hm]; rfl) rfl rfl rfl
        · simp -dsimp -implicitDefEqProofs only [↓j0, ↓j1, ↓j7, ↓j9, ↓j10, ↓j12, ↓j13, ↓j15, j17, j18, j19, j20, j21, j22, j23, ↓j25, ↓j27, ↓j29, ↓j30, j33, ↓j39, ↓j43, ↓j44, ↓j55, ↓j76, ↓j78, j84, j129, ↓j145, ↓j146, ↓j148, ↓j149, ↓j153, AV.proj, AV.offOf, AV.upd, AV.size, AV.sizeL, AV.layable, j170, j171, ↓reduceIte, Nat.reduceAdd, Nat.reduceEqDiff, j182, j193, j197, j391, j392]
          rw [hG, hm, q3]
          exact Final.many (.inr rfl) (rs := [.cell 4 71, .tmp 5]) (us := [.agg [.int .u64 (lsnOf p), .nilsl], .int .i64 0]) rfl ⟨⟨101, 0, [], _, rfl, rfl, rfl, rfl, by simp -dsimp -implicitDefEqProofs only [j129, AV.size, AV.sizeL, Nat.reduceAdd, j182, j197, j391, j392]⟩, ⟨rfl, fun vs h => by cases h⟩, trivial⟩ (by simp) ⟨Frz.agg _ _ rfl (fun k hk => match k, hk with | 0, _ => .same _ trivial | 1, _ => .nil), .same _ trivial, trivial⟩
      · have hsl : ∀ H : Heap, Heap.get H 103 = some (.cells (.agg (l.map Od.av))) → Frz (fun _ => False) H (.agg [.int .u64 (lsnOf p), .sl 103 0 [] 0 l.length l.length 6]) (Ud.av ⟨lsnOf p, l⟩) := fun H hH => by
          refine Frz.agg _ _ rfl fun k hk => ?_
          match k, hk with
          | 0, _ => exact .same _ trivial
          | 1, _ =>
            have h := Frz.sl (K := fun _ => False) (H := H) 103 0 [] 0 l.length l.length 6 _ (l.map Od.av) hH (fun h => h) rfl rfl (by simp) huo (fun x hx => AV.onL_iff.1 (on_ods _ l) x (List.mem_of_mem_drop (List.mem_of_mem_take hx)))
            rw [List.drop_zero, hTl] at h
            exact h
        have hms1 : ACall Try.prog 53 [.agg [.int .u64 (lsnOf p), .sl 103 0 [] 0 l.length l.length 6]] [(103, .cells (.agg (l.map Od.av)))] (.bool (mayP ⟨lsnOf p, l⟩)) [(103, .cells (.agg (l.map Od.av)))] :=
          ACall.borrow hms rfl ⟨hsl _ rfl, trivial⟩
        simp -dsimp -implicitDefEqProofs only [↓j0, ↓j1, ↓j7, ↓j11, ↓j12, ↓j13, ↓j15, j17, j18, j20, ↓j25, ↓j27, ↓j29, ↓j38, ↓j43, ↓j48, ↓j53, ↓j58, ↓j59, ↓j76, ↓j89, j129, j141, ↓j145, ↓j146, ↓j148, ↓j149, ↓j153, j159, AV.proj, AV.offOf, AV.size, AV.sizeL, j171, ↓reduceIte, Nat.reduceAdd, Nat.reduceEqDiff, j182, j185, j197, j259, j391, j392, guSt2, guT2, guH, q1, q2, g0, str_bytes]
        refine CallTo.gen (args := [.agg [.int .u64 (lsnOf p), .sl 103 0 [] 0 l.length l.length 6]]) [(103, .cells (.agg (l.map Od.av)))] [(103, .cells (.agg (l.map Od.av)))] 104 rfl fok53 (by simp -dsimp -implicitDefEqProofs only [↓j25, ↓j29, j173, j174, ↓reduceIte]) (fun x hx => by rw [List.mem_singleton] at hx; subst hx; exact fun vs h => by cases h) hms1 (SubH.of (by simp -dsimp -implicitDefEqProofs only [↓j27, ↓reduceIte, Nat.reduceEqDiff, j182, j204, j205])) ⟨by simp, fun n x h hn => by
          simp only [Heap.get] at h
          by_cases h1 : n = 103
          · subst h1; simp at hn
          · simp [h1] at h⟩ ?_
        cases hm : mayP ⟨lsnOf p, l⟩
        · simp -dsimp -implicitDefEqProofs only [↓j0, ↓j1, ↓j7, ↓j10, ↓j12, ↓j13, ↓j15, j17, j18, j19, j20, j21, j22, j23, ↓j25, ↓j27, ↓j29, ↓j30, j33, ↓j39, ↓j44, ↓j54, ↓j55, ↓j78, j84, ↓j124, j125, j127, ↓j145, ↓j146, ↓j147, ↓j149, ↓j153, partsAV, AV.proj, AV.offOf, AV.upd, AV.size, AV.sizeL, AV.layable, j170, j171, j173, j174, ↓reduceIte, Nat.reduceAdd, Nat.reduceEqDiff, j182, j194, j197, j214, j218, j219, j391, j453]
          exact err _ _ _ (by rw [hG, hm]; rfl) rfl rfl rfl
        · simp -dsimp -implicitDefEqProofs only [↓j0, ↓j1, ↓j7, ↓j9, ↓j10, ↓j12, ↓j13, ↓j15, j17, j18, j19, j20, j21, j22, j23, ↓j25, ↓j27, ↓j29, ↓j30, j33, ↓j39, ↓j43, ↓j44, ↓j55, ↓j76, ↓j78, j84, j129, ↓j145, ↓j146, ↓j148, ↓j149, ↓j153, AV.proj, AV.offOf, AV.upd, AV.size, AV.sizeL, AV.layable, j170, j171, j173, j174, ↓reduceIte, Nat.reduceAdd, Nat.reduceEqDiff, j182, j193, j197, j391, j392]
          rw [hG, hm]
          exact Final.many (.inr rfl) (rs := [.cell 4 71, .tmp 5]) (us := [.agg [.int .u64 (lsnOf p), .sl 103 0 [] 0 l.length l.length 6], .int .i64 0]) rfl ⟨⟨101, 0, [], _, rfl, rfl, rfl, rfl, by simp -dsimp -implicitDefEqProofs only [j129, AV.size, AV.sizeL, Nat.reduceAdd, j182, j197, j391, j392]⟩, ⟨rfl, fun vs h => by cases h⟩, trivial⟩ (by simp) ⟨hsl _ rfl, .same _ trivial, trivial⟩
end Go.Proofs.Ytimdepgenefkmaa
