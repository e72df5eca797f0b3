import Derived.Test.YtimdepgenefkmaaP28
import Derived.Test.YtimdepgenefkmaaF41
set_option maxRecDepth 8000
set_option linter.unusedVariables false
set_option linter.unusedSimpArgs false
namespace Go.Proofs.Ytimdepgenefkmaa
open Go Go.RowKit

def rdecO (p : List UInt8) (a : Nat) : Option Od :=
  if p.getD a 0 = 1 ∧ a ≤ 213 then
    if 213 - a < (p.getD (a + 10) 0).toNat then none
    else some ⟨true, numAt p (a + 1) 2, numAt p (a + 3) 4, numAt p (a + 7) 2, p.getD (a + 9) 0, (p.drop (a + 11)).take (p.getD (a + 10) 0).toNat⟩
  else some .zero
def rdecL (p : List UInt8) : Nat → Nat → Option (List Od)
  | 0, _ => some []
  | n + 1, a => if a < 224 then
      match rdecO p a with
      | none => none
      | some o => (rdecL p n (a + o.size)).map (o :: ·)
    else some []
def rgetUndo (no : Nat) (p : List UInt8) : Option Ud :=
  match rdecL p (p.getD 15 0).toNat 16 with
  | none => none
  | some l => if mayP ⟨lsnOf p, l⟩ && (putUndo no ⟨lsnOf p, l⟩ == p) then some ⟨lsnOf p, l⟩ else none
abbrev rguAV (r : Option Ud) : AV := .tuple [(r.getD ⟨0, []⟩).av, .bool r.isSome]
theorem rdecO_ok {p : List UInt8} {a : Nat} (ha : a < 224) {o : Od} (h : rdecO p a = some o) : o.Ok ∧ a + o.size ≤ 224 := by
  unfold rdecO at h
  split at h
  · rename_i h0
    split at h
    · cases h
    cases h
    have hl : ((p.drop (a + 11)).take (p.getD (a + 10) 0).toNat).length ≤ (p.getD (a + 10) 0).toNat := List.length_take_le _ _
    have hb := (p.getD (a + 10) 0).toNat_lt
    exact ⟨⟨numAt_lt (n := 2), numAt_lt (n := 4), numAt_lt (n := 2), by show ((p.drop (a + 11)).take (p.getD (a + 10) 0).toNat).length ≤ _; omega⟩, by show a + (11 + ((p.drop (a + 11)).take (p.getD (a + 10) 0).toNat).length) ≤ 224; omega⟩
  · cases h
    exact ⟨⟨by decide, by decide, by decide, by decide⟩, by show a + 1 ≤ 224; omega⟩
def rguT (no : Nat) (l : List Od) : Env := [(8, .int .i64 l.length), (7, .int .i64 (16 + sumS l : Nat)), (6, .ptr 102 0 []), (3, .ptr 100 0 []), (4, .ptr 101 0 []), (5, .bool false), (0, .int .u16 no)]
def rguSt (no : Nat) (p : List UInt8) (l : List Od) : St := ⟨104, rguT no l, guH p l, 104⟩
theorem rgu_onT {no : Nat} {l : List Od} : onTL (fun k => k < 104 ∧ k ∉ [((106 : Nat), (103 : Nat))].map (·.2)) (rguT no l) :=
  onTL_cons trivial (onTL_cons trivial (onTL_cons (show (102 : Nat) < 104 ∧ 102 ∉ _ by simp) (onTL_cons (show (100 : Nat) < 104 ∧ 100 ∉ _ by simp) (onTL_cons (show (101 : Nat) < 104 ∧ 101 ∉ _ by simp) (onTL_cons trivial (onTL_cons trivial onTL_nil))))))
set_option maxRecDepth 4000 in
set_option maxHeartbeats 6400000 in
theorem rgetUndo_spec (no : Nat) (hno : no < 65536) (p : List UInt8) (hp : p.length = 224) : ACall Try.prog 25 [.int .u16 no, arrAV p] [] (rguAV (rgetUndo no p)) [] := by
  refine ACall.run (Z := Z) (N := 104) mixed hZ Try.func25 rfl rfl (by kernel_rfl) (by simp) args_np 100 ?_
  have up := unif_bytes p
  have hbo := bytesOf_bytes p
  have hls := rlsn_spec p hp
  have c15 : (15 : Int) < ((224 : Nat) : Int) := by omega
  have hsz : AV.sizeL ((p.map byteAV).take 15) = 15 * 1 := up.sizeL_take (by simp; omega)
  obtain ⟨y, h15⟩ := list_get (xs := p) (i := 15) (by omega)
  have hyd : p.getD 15 0 = y := by rw [List.getD_eq_getElem?_getD, h15]; rfl
  obtain ⟨m, hm⟩ : ∃ m, y.toNat = m := ⟨_, rfl⟩
  have hmb : m < 256 := by have := y.toNat_lt; omega
  have w1 : IntKind.i64.wrap (m : Int) = (m : Int) := by rw [wrap_i64 (by omega) (by omega)]
  have hG : rgetUndo no p = match rdecL p m 16 with
    | none => none
    | some l => if mayP ⟨lsnOf p, l⟩ && (putUndo no ⟨lsnOf p, l⟩ == p) then some ⟨lsnOf p, l⟩ else none := by
    unfold rgetUndo; rw [hyd, hm]
  have err : ∀ (t : Env) (H : Heap) (nx : Nat), rgetUndo no p = none → look t 4 = some (.ptr 101 0 []) → look t 5 = some (.bool false) → Heap.get H 101 = some (.cells (.agg [.int .u64 0, .nilsl])) → Final Try.prog Try.f25 (rguAV (rgetUndo no p)) [] .ret ⟨104, t, H, nx⟩ := fun t H nx hn h4 h5 hH => by
    rw [hn]
    exact Final.many (.inr rfl) (rs := [.cell 4 71, .tmp 5]) (us := [.agg [.int .u64 0, .nilsl], .bool false]) rfl ⟨⟨101, 0, [], _, h4, hH, rfl, rfl, by simp -dsimp -implicitDefEqProofs only [j129, AV.size, AV.sizeL, Nat.reduceAdd, j182, j197, j391, j392]⟩, ⟨h5, fun vs h => by cases h⟩, trivial⟩ (by simp) ⟨Frz.agg _ _ rfl (fun k hk => match k, hk with | 0, _ => .same _ trivial | 1, _ => .nil), .same _ trivial, trivial⟩
  simp -dsimp -implicitDefEqProofs only [↓j0, ↓j1, ↓j7, ↓j12, ↓j15, j17, j18, j20, ↓j25, ↓j27, ↓j29, ↓j30, j32, ↓j39, ↓j41, ↓j42, ↓j43, ↓j53, ↓j76, j129, ↓j145, ↓j146, ↓j153, AV.proj, AV.offOf, AV.layable, argEnv, j170, j171, j172, reduceCtorEq, ↓reduceIte, Nat.reduceAdd, Nat.reduceEqDiff, j182, j196, j240, j273, j274, j433, hp]
  refine CallTo.pure (args := [arrAV p]) rfl fok32 (by simp -dsimp -implicitDefEqProofs only [↓j25, ↓j29, j173, j174, ↓reduceIte]) (fun x hx => (args_arr x hx).2) hls ?_
  simp -dsimp -implicitDefEqProofs only [↓j0, ↓j1, ↓j7, ↓j12, ↓j14, ↓j15, ↓j16, j17, j18, j19, j20, j21, j22, j23, ↓j25, ↓j27, ↓j29, ↓j30, j33, ↓j39, ↓j41, ↓j44, ↓j54, ↓j78, ↓j124, j125, j126, j127, j128, ↓j145, ↓j146, ↓j153, partsAV, AV.proj, AV.offOf, AV.upd, AV.size, AV.sizeL, AV.layable, j163, j167, j169, j170, j171, j179, j180, ↓reduceIte, Nat.reduceAdd, Nat.reduceEqDiff, j182, j183, j197, j213, j214, j215, j217, j391, j395, j433, j453]
  refine AWp.loopR (Z := Z) mixed hZ (by kernel_rfl) (fun n s => ∃ l, l.length + n = m ∧ rdecL p m 16 = (rdecL p n (16 + sumS l)).map (l ++ ·) ∧ (∀ o, o ∈ l → o.Ok) ∧ 16 + sumS l ≤ 224 ∧ s = rguSt no p l) (n0 := m) (s0 := rguSt no p []) ?_ ⟨[], by simp, by simp [sumS], by simp, by simp [sumS], rfl⟩ ?_ rfl
  · exact Wk.sub (by simp -dsimp -implicitDefEqProofs only [↓j25, ↓j27, j179, reduceCtorEq, ↓reduceIte, Nat.reduceEqDiff, Nat.reduceLeDiff, j182, j183, j184, j202, j203, j204, j205, j209, j231, rguT, guH, gAcc, gH] <;> simp [sumS])
  rintro n s ⟨l, hl, hdl, hlo, hla, rfl⟩
  refine ⟨rfl, ?_⟩
  have huo := unif_od l
  have hu0 : Unif 6 [] := fun x hx => by simp at hx
  have hTl : List.take l.length (l.map Od.av) = l.map Od.av := List.take_of_length_le (by simp)
  have hacc : (gAcc l = .nilsl ∧ gH l = [] ∧ l = []) ∨ (gAcc l = .sl 103 0 [] 0 l.length l.length 6 ∧ gH l = [(103, .cells (.agg (l.map Od.av)))]) := by
    unfold gAcc gH
    by_cases h : l = []
    · left; rw [if_pos h, if_pos h]; exact ⟨rfl, rfl, h⟩
    · right; rw [if_neg h, if_neg h]; exact ⟨rfl, rfl⟩
  obtain ⟨a, ha⟩ : ∃ a, 16 + sumS l = a := ⟨_, rfl⟩
  rw [ha] at hdl hla
  have two : (∃ k, n = k + 1 ∧ a < 224) ∨ (rdecL p m 16 = some l ∧ ((decide ((l.length : Int) < (m : Int)) = false ∧ decide ((l.length : Int) < (m : Int)) = false) ∨ (decide ((l.length : Int) < (m : Int)) = true ∧ decide ((a : Int) < 224) = false))) := by
    cases n with
    | zero => exact .inr ⟨by rw [hdl]; simp [rdecL], .inl ⟨decide_eq_false (by omega), decide_eq_false (by omega)⟩⟩
    | succ k =>
      by_cases h : a < 224
      · exact .inl ⟨k, rfl, h⟩
      · exact .inr ⟨by rw [hdl, rdecL, if_neg h]; simp, .inr ⟨decide_eq_true (by omega), decide_eq_false (by omega)⟩⟩
  rcases two with ⟨k, rfl, ha2⟩ | ⟨hdl, two⟩
  · have hd : decide ((l.length : Int) < (m : Int)) = true := decide_eq_true (by omega)
    have hd2 : decide ((a : Int) < 224) = true := decide_eq_true (by omega)
    have hw : IntKind.i64.wrap ((l.length : Int) + 1) = ((l.length + 1 : Nat) : Int) := by rw [wrap_i64 (by omega) (by omega)]; omega
    have bad : rdecO p a = none → rgetUndo no p = none := fun h => by
      rw [hG, hdl, rdecL, if_pos ha2, h]; rfl
    have nxt : ∀ o, rdecO p a = some o → rdecL p m 16 = (rdecL p k (16 + sumS (l ++ [o]))).map ((l ++ [o]) ++ ·) ∧ (l ++ [o]).length + k = m ∧ (∀ x, x ∈ l ++ [o] → x.Ok) ∧ 16 + sumS (l ++ [o]) = a + o.size := fun o h => by
      have e : 16 + sumS (l ++ [o]) = a + o.size := by rw [sumS_append]; simp only [sumS]; omega
      refine ⟨?_, by simp; omega, fun x hx => ?_, e⟩
      · rw [hdl, rdecL, if_pos ha2, h, e]
        show ((rdecL p k (a + o.size)).map (o :: ·)).map _ = _
        rw [Option.map_map]
        congr 1
        funext z
        simp
      · rcases List.mem_append.1 hx with hx | hx
        · exact hlo x hx
        · rw [List.mem_singleton] at hx; subst hx; exact (rdecO_ok ha2 h).1
    have step : ∀ (o : Od) (t : Env) (H : Heap) (nx : Nat), rdecO p a = some o → SubT (rguT no (l ++ [o])) t → SubH (guHr p (l ++ [o]) 106) H → ∃ j s'', j < k + 1 ∧ (∃ l, l.length + j = m ∧ rdecL p m 16 = (rdecL p j (16 + sumS l)).map (l ++ ·) ∧ (∀ o, o ∈ l → o.Ok) ∧ 16 + sumS l ≤ 224 ∧ s'' = rguSt no p l) ∧ Wk ⟨104, t, H, nx⟩ s'' := fun o t H nx h ht hH => by
      obtain ⟨z1, z2, z3, z4⟩ := nxt o h
      have hr := Wk.rensT (n := 104) (nx := nx) [(106, 103)] (K := 104) (by decide) (by simp) (by simp) (rgu_onT (no := no) (l := l ++ [o])) gu_onH (gu_ren (p := p) (l := l ++ [o]) (by simp))
      exact ⟨k, _, by omega, ⟨l ++ [o], z2, z1, z3, by have := (rdecO_ok ha2 h).2; omega, rfl⟩, Wk.trans (Wk.mk (s' := ⟨104, rguT no (l ++ [o]), guHr p (l ++ [o]) 106, nx⟩) ht.spec hH.spec (Nat.le_refl _) rfl) hr⟩
    obtain ⟨b, hb⟩ := list_get (xs := p) (i := a) (by omega)
    have hbd : p.getD a 0 = b := by rw [List.getD_eq_getElem?_getD, hb]; rfl
    have hsa : AV.sizeL ((p.map byteAV).take a) = a * 1 := up.sizeL_take (by simp; omega)
    have ca : (a : Int) < ((224 : Nat) : Int) := by omega
    have wa1 : IntKind.i64.wrap ((a : Int) + 1) = ((a + 1 : Nat) : Int) := by rw [wrap_i64 (by omega) (by omega)]; omega
    by_cases hb1 : b = 1 ∧ a ≤ 213
    · obtain ⟨rfl, h213⟩ := hb1
      have g1 : (((1 : UInt8).toNat : Int) == 1) = true := rfl
      have g2 : decide ((a : Int) ≤ 213) = true := decide_eq_true (by omega)
      have c10 : IntKind.i64.wrap ((a : Int) + 10) = ((a + 10 : Nat) : Int) := by rw [wrap_i64 (by omega) (by omega)]; omega
      have c9 : IntKind.i64.wrap ((a : Int) + 9) = ((a + 9 : Nat) : Int) := by rw [wrap_i64 (by omega) (by omega)]; omega
      have c7 : IntKind.i64.wrap ((a : Int) + 7) = ((a + 7 : Nat) : Int) := by rw [wrap_i64 (by omega) (by omega)]; omega
      have c3 : IntKind.i64.wrap ((a : Int) + 3) = ((a + 3 : Nat) : Int) := by rw [wrap_i64 (by omega) (by omega)]; omega
      have c11 : IntKind.i64.wrap ((a : Int) + 11) = ((a + 11 : Nat) : Int) := by rw [wrap_i64 (by omega) (by omega)]; omega
      have g5 : ((a + 10 : Nat) : Int) < ((224 : Nat) : Int) := by omega
      have g6 : ((a + 9 : Nat) : Int) < ((224 : Nat) : Int) := by omega
      obtain ⟨b9, hb9⟩ := list_get (xs := p) (i := a + 9) (by omega)
      obtain ⟨b10, hb10⟩ := list_get (xs := p) (i := a + 10) (by omega)
      have hs9 : AV.sizeL ((p.map byteAV).take (a + 9)) = (a + 9) * 1 := up.sizeL_take (by simp; omega)
      have hs10 : AV.sizeL ((p.map byteAV).take (a + 10)) = (a + 10) * 1 := up.sizeL_take (by simp; omega)
      have hd9 : p.getD (a + 9) 0 = b9 := by rw [List.getD_eq_getElem?_getD, hb9]; rfl
      have hd10 : p.getD (a + 10) 0 = b10 := by rw [List.getD_eq_getElem?_getD, hb10]; rfl
      obtain ⟨r, hr⟩ : ∃ r, b10.toNat = r := ⟨_, rfl⟩
      have hrb : r < 256 := by have := b10.toNat_lt; omega
      have wr : IntKind.i64.wrap (r : Int) = (r : Int) := by rw [wrap_i64 (by omega) (by omega)]
      have s1 : IntKind.i64.wrap (224 - (a : Int)) = ((224 - a : Nat) : Int) := by rw [wrap_i64 (by omega) (by omega)]; omega
      have s2 : IntKind.i64.wrap (((224 - a : Nat) : Int) - 11) = ((213 - a : Nat) : Int) := by rw [wrap_i64 (by omega) (by omega)]; omega
      have hG1 := num_spec p hp (a + 1) 2 (by omega) (by omega)
      have hG2 := num_spec p hp (a + 3) 4 (by omega) (by omega)
      have hG3 := num_spec p hp (a + 7) 2 (by omega) (by omega)
      have l1 : numAt p (a + 1) 2 < 65536 := numAt_lt (n := 2)
      have l2 : numAt p (a + 3) 4 < 4294967296 := numAt_lt (n := 4)
      have l3 : numAt p (a + 7) 2 < 65536 := numAt_lt (n := 2)
      have hdo0 : rdecO p a = if 213 - a < r then none else some ⟨true, numAt p (a + 1) 2, numAt p (a + 3) 4, numAt p (a + 7) 2, b9, (p.drop (a + 11)).take r⟩ := by
        unfold rdecO
        rw [hbd, if_pos ⟨rfl, h213⟩, hd10, hd9, hr]
      obtain ⟨N1, hN1⟩ : ∃ x, numAt p (a + 1) 2 = x := ⟨_, rfl⟩
      obtain ⟨N2, hN2⟩ : ∃ x, numAt p (a + 3) 4 = x := ⟨_, rfl⟩
      obtain ⟨N3, hN3⟩ : ∃ x, numAt p (a + 7) 2 = x := ⟨_, rfl⟩
      rw [hN1] at hG1 l1 hdo0
      rw [hN2] at hG2 l2 hdo0
      rw [hN3] at hG3 l3 hdo0
      have x1 : IntKind.u16.wrap (N1 : Int) = (N1 : Int) := by rw [wrap_u16, Nat.mod_eq_of_lt l1]
      have x2 : IntKind.u32.wrap (N2 : Int) = (N2 : Int) := by rw [wrap_u32, Nat.mod_eq_of_lt l2]
      have x3 : IntKind.u16.wrap (N3 : Int) = (N3 : Int) := by rw [wrap_u16, Nat.mod_eq_of_lt l3]
      have an : ∀ (o n : Nat), ∀ x, x ∈ [arrAV p, AV.int .i64 (o : Int), AV.int .i64 (n : Int)] → ∀ vs, x ≠ .tuple vs := fun o n x hx => (args_num x hx).2
      rcases hacc with ⟨q1, q2, q3⟩ | ⟨q1, q2⟩
      · simp -dsimp -implicitDefEqProofs only [↓j0, ↓j1, ↓j2, ↓j4, ↓j7, ↓j8, ↓j9, ↓j12, ↓j13, ↓j14, ↓j15, j17, j18, j19, j20, j21, j22, j23, j24, ↓j25, ↓j27, ↓j29, ↓j30, j32, j33, ↓j38, ↓j39, ↓j40, ↓j41, ↓j43, ↓j44, ↓j46, ↓j48, ↓j50, ↓j53, ↓j54, ↓j76, ↓j78, j83, ↓j89, ↓j94, ↓j124, j125, j127, j129, j130, ↓j145, ↓j146, ↓j147, ↓j149, ↓j150, ↓j153, j154, j157, j159, j160, partsAV, AV.proj, AV.offOf, AV.upd, AV.size, AV.sizeL, AV.layable, j163, j164, j170, j171, j172, j174, j175, j177, ↓reduceIte, Nat.reduceAdd, Nat.reduceMul, Nat.reduceEqDiff, Int.reduceLE, Int.reduceToNat, j182, j185, j196, j197, j206, j207, j208, j214, j218, j219, ↓j225, j240, j251, j255, j273, j274, j275, j294, j423, j441, j461, rguSt, rguT, guH, ha, hd, hd2, h15, c15, hsz, byteAV, hm, w1, hp, hb, hsa, ca, g1, g2, q1, q2, wa1, c10, hb10, hs10, g5, hr, wr]
        refine CallTo.pure (args := [arrAV p, .int .i64 ((a + 1 : Nat) : Int), .int .i64 ((2 : Nat) : Int)]) rfl fok45 (by simp -dsimp -implicitDefEqProofs only [↓j25, ↓j29, ↓j30, j33, j173, j174, ↓reduceIte, Nat.reduceEqDiff]; rfl) (an _ _) hG1 ?_
        simp -dsimp -implicitDefEqProofs only [↓j4, j17, j18, j20, j24, ↓j25, ↓j27, ↓j29, ↓j30, j33, ↓j38, ↓j43, ↓j48, ↓j50, ↓j53, ↓j76, ↓j89, j129, ↓j145, ↓j146, ↓j153, j154, AV.proj, AV.offOf, j170, j171, j172, j174, ↓reduceIte, Nat.reduceEqDiff, j182, j185, ↓j225, j240, j262, j273, j274, j466, x1, c3, hp]
        refine CallTo.pure (args := [arrAV p, .int .i64 ((a + 3 : Nat) : Int), .int .i64 ((4 : Nat) : Int)]) rfl fok45 (by simp -dsimp -implicitDefEqProofs only [↓j25, ↓j29, ↓j30, j33, j173, j174, ↓reduceIte, Nat.reduceEqDiff]; rfl) (an _ _) hG2 ?_
        simp -dsimp -implicitDefEqProofs only [↓j4, j17, j18, j20, j24, ↓j25, ↓j27, ↓j29, ↓j30, j33, ↓j38, ↓j43, ↓j48, ↓j50, ↓j53, ↓j76, ↓j89, j129, ↓j145, ↓j146, ↓j153, j154, AV.proj, AV.offOf, j170, j171, j172, j174, ↓reduceIte, Nat.reduceEqDiff, j182, j185, ↓j225, j240, j273, j274, j283, j466, x2, c7, hp]
        refine CallTo.pure (args := [arrAV p, .int .i64 ((a + 7 : Nat) : Int), .int .i64 ((2 : Nat) : Int)]) rfl fok45 (by simp -dsimp -implicitDefEqProofs only [↓j25, ↓j29, ↓j30, j33, j173, j174, ↓reduceIte, Nat.reduceEqDiff]; rfl) (an _ _) hG3 ?_
        simp -dsimp -implicitDefEqProofs only [↓j3, ↓j4, j17, j18, j19, j20, j21, j22, j23, j24, ↓j25, ↓j27, ↓j29, ↓j30, j32, j33, ↓j38, ↓j43, ↓j44, ↓j46, ↓j48, ↓j50, ↓j54, ↓j76, ↓j78, ↓j89, ↓j94, ↓j124, j125, j126, j127, j128, j130, ↓j145, ↓j146, ↓j153, j154, partsAV, AV.proj, AV.offOf, AV.upd, AV.size, AV.sizeL, AV.layable, j163, j164, j166, j167, j168, j169, j170, j171, j172, j173, j174, j177, j179, j180, ↓reduceIte, Nat.reduceAdd, Nat.reduceEqDiff, j182, j183, j185, j196, j197, j206, j207, j208, j213, j214, j215, j216, j217, ↓j225, j255, j262, j275, j288, j291, j294, j298, j301, j304, j307, j440, j441, j466, x3, c9, hb9, hs9, g6, byteAV]
        refine ⟨by kernel_rfl, ?_⟩
        rcases Nat.lt_or_ge (213 - a) r with hr2 | hr2
        · have g7 : decide (((213 - a : Nat) : Int) < (r : Int)) = true := decide_eq_true (by omega)
          simp -dsimp -implicitDefEqProofs only [↓j0, ↓j1, ↓j7, ↓j10, ↓j12, ↓j13, ↓j15, j17, j18, j19, j20, j21, j22, j23, ↓j25, ↓j27, ↓j29, ↓j30, j32, j33, ↓j38, ↓j39, ↓j44, ↓j48, ↓j54, ↓j78, ↓j89, ↓j124, j125, j127, ↓j145, ↓j146, ↓j147, ↓j149, ↓j153, j155, j161, partsAV, AV.proj, AV.offOf, AV.upd, AV.size, AV.sizeL, AV.layable, j170, j171, ↓reduceIte, Nat.reduceAdd, Nat.reduceEqDiff, j182, j185, j197, j214, j218, j219, j391, j453, s1, s2, g7]
          exact err _ _ _ (bad (by rw [hdo0, if_pos hr2])) rfl rfl rfl
        have g7 : decide (((213 - a : Nat) : Int) < (r : Int)) = false := decide_eq_false (by omega)
        have hdo : rdecO p a = some ⟨true, N1, N2, N3, b9, (p.drop (a + 11)).take r⟩ := by rw [hdo0, if_neg (by omega)]
        have ck : IntKind.i64.wrap (((a + 11 : Nat) : Int) + (r : Int)) = ((a + 11 + r : Nat) : Int) := by rw [wrap_i64 (by omega) (by omega)]; omega
        simp -dsimp -implicitDefEqProofs only [↓j0, ↓j1, ↓j7, ↓j9, ↓j12, ↓j13, ↓j15, j17, j18, j20, ↓j25, ↓j27, ↓j29, ↓j30, j33, ↓j38, ↓j48, ↓j49, ↓j89, j107, ↓j145, ↓j146, ↓j148, ↓j149, ↓j153, j154, j155, j161, AV.proj, AV.offOf, j171, ↓reduceIte, Nat.reduceMul, Nat.reduceEqDiff, j184, j185, j208, j224, bndAV, ↓j238, j240, j275, s1, s2, g7, c11, ck, hp]
        refine ⟨⟨by omega, by omega⟩, ?_⟩
        have hsub : a + (11 + r) - (a + 11) = r := by omega
        have hle2 : a + (11 + r) ≤ 224 := by omega
        obtain ⟨D, hD⟩ : ∃ D, (p.drop (a + 11)).take r = D := ⟨_, rfl⟩
        have hDl : D.length = r := by rw [← hD]; simp; omega
        have hbb : bytesOf (List.take r (List.drop (a + 11) (p.map byteAV))) = some D := by rw [← List.map_drop, ← List.map_take, hD]; exact bytesOf_bytes D
        rw [hD] at hdo
        obtain ⟨z1, z2, z3, z4⟩ := nxt _ hdo
        have hs : Od.size ⟨true, N1, N2, N3, b9, D⟩ = 11 + r := by rw [← hDl]; rfl
        rw [hs] at z4
        have c22 : IntKind.i64.wrap (10 + (r : Int)) = ((10 + r : Nat) : Int) := by rw [wrap_i64 (by omega) (by omega)]; omega
        have c23 : IntKind.i64.wrap ((a : Int) + ((10 + r : Nat) : Int)) = ((a + (10 + r) : Nat) : Int) := by rw [wrap_i64 (by omega) (by omega)]; omega
        have c24 : IntKind.i64.wrap (((a + (10 + r) : Nat) : Int) + 1) = ((a + (11 + r) : Nat) : Int) := by rw [wrap_i64 (by omega) (by omega)]; omega
        have huD : Unif 6 [AV.agg [.bool true, .int .u16 N1, .int .u32 N2, .agg [.int .u16 N3, .int .u8 b9.toNat], .str ⟨D.toArray⟩]] := unif_od [⟨true, N1, N2, N3, b9, D⟩]
        simp -dsimp -implicitDefEqProofs only [↓j0, ↓j1, ↓j7, ↓j12, ↓j15, j17, j18, j19, j20, j21, j22, j23, ↓j25, ↓j27, ↓j29, ↓j30, j33, ↓j38, ↓j39, ↓j43, ↓j44, ↓j45, ↓j48, ↓j50, ↓j51, ↓j74, ↓j76, ↓j78, ↓j79, ↓j89, ↓j106, j107, ↓j121, j125, j126, j127, j128, j129, j134, ↓j145, ↓j146, ↓j153, j154, partsAV, AV.proj, AV.offOf, AV.upd, AV.size, AV.sizeL, AV.layable, j163, j164, j166, j167, j168, j169, j170, j171, j179, j180, ↓reduceIte, Nat.reduceAdd, Nat.reduceMul, Nat.reduceEqDiff, Nat.reduceLeDiff, j182, j183, j185, j196, j197, j207, j213, j214, j215, j217, j222, j224, Nat.reducePow, List.replicate, j234, j257, j259, j294, j295, j309, j388, j397, j403, j450, hp, up, hsub, hbb, hle2, c22, c23, c24]
        refine DoAppend_of rfl rfl at69 ?_
        simp -dsimp -implicitDefEqProofs only [↓j0, ↓j1, ↓j7, ↓j15, j17, j18, j19, j20, j21, j22, j23, ↓j25, ↓j27, ↓j29, ↓j30, j33, ↓j38, ↓j39, ↓j44, ↓j45, ↓j48, ↓j78, ↓j79, ↓j89, ↓j100, ↓j106, j107, ↓j145, ↓j146, ↓j148, ↓j153, j154, AV.proj, AV.offOf, AV.upd, AV.size, AV.sizeL, AV.layable, j163, j164, j166, j167, j168, j169, j170, j171, ↓reduceIte, Nat.reduceAdd, Nat.reduceMul, Nat.reduceEqDiff, Nat.reduceLeDiff, j182, j185, j196, j197, j223, j227, j228, j230, j231, Nat.reduceBEq, j234, j387, j397, huD]
        exact step _ _ _ _ hdo (by simp -dsimp -implicitDefEqProofs only [↓j25, reduceCtorEq, ↓reduceIte, Nat.reduceEqDiff, j182, j196, j202, j203, j230, j231, j242, rguT, hw, z4] <;> simp) (by simp -dsimp -implicitDefEqProofs only [↓j27, j171, j173, j174, ↓reduceIte, Nat.reduceEqDiff, j182, j196, j204, j205, j230, j231, guHr, q3] <;> simp)
      · simp -dsimp -implicitDefEqProofs only [↓j0, ↓j1, ↓j2, ↓j4, ↓j7, ↓j8, ↓j9, ↓j12, ↓j13, ↓j14, ↓j15, j17, j18, j19, j20, j21, j22, j23, j24, ↓j25, ↓j27, ↓j29, ↓j30, j32, j33, ↓j38, ↓j39, ↓j40, ↓j41, ↓j43, ↓j44, ↓j46, ↓j48, ↓j50, ↓j53, ↓j54, ↓j76, ↓j78, j83, ↓j89, ↓j94, ↓j124, j125, j127, j129, j130, ↓j145, ↓j146, ↓j147, ↓j149, ↓j150, ↓j153, j154, j157, j159, j160, partsAV, AV.proj, AV.offOf, AV.upd, AV.size, AV.sizeL, AV.layable, j163, j164, j170, j171, j172, j174, j175, j177, ↓reduceIte, Nat.reduceAdd, Nat.reduceMul, Nat.reduceEqDiff, Int.reduceLE, Int.reduceToNat, j182, j185, j196, j197, j206, j207, j208, j214, j218, j219, ↓j225, j240, j251, j255, j273, j274, j275, j294, j423, j441, j461, rguSt, rguT, guH, ha, hd, hd2, h15, c15, hsz, byteAV, hm, w1, hp, hb, hsa, ca, g1, g2, q1, q2, wa1, c10, hb10, hs10, g5, hr, wr]
        refine CallTo.pure (args := [arrAV p, .int .i64 ((a + 1 : Nat) : Int), .int .i64 ((2 : Nat) : Int)]) rfl fok45 (by simp -dsimp -implicitDefEqProofs only [↓j25, ↓j29, ↓j30, j33, j173, j174, ↓reduceIte, Nat.reduceEqDiff]; rfl) (an _ _) hG1 ?_
        simp -dsimp -implicitDefEqProofs only [↓j4, j17, j18, j20, j24, ↓j25, ↓j27, ↓j29, ↓j30, j33, ↓j38, ↓j43, ↓j48, ↓j50, ↓j53, ↓j76, ↓j89, j129, ↓j145, ↓j146, ↓j153, j154, AV.proj, AV.offOf, j170, j171, j172, j174, ↓reduceIte, Nat.reduceEqDiff, j182, j185, ↓j225, j240, j262, j273, j274, j466, x1, c3, hp]
        refine CallTo.pure (args := [arrAV p, .int .i64 ((a + 3 : Nat) : Int), .int .i64 ((4 : Nat) : Int)]) rfl fok45 (by simp -dsimp -implicitDefEqProofs only [↓j25, ↓j29, ↓j30, j33, j173, j174, ↓reduceIte, Nat.reduceEqDiff]; rfl) (an _ _) hG2 ?_
        simp -dsimp -implicitDefEqProofs only [↓j4, j17, j18, j20, j24, ↓j25, ↓j27, ↓j29, ↓j30, j33, ↓j38, ↓j43, ↓j48, ↓j50, ↓j53, ↓j76, ↓j89, j129, ↓j145, ↓j146, ↓j153, j154, AV.proj, AV.offOf, j170, j171, j172, j174, ↓reduceIte, Nat.reduceEqDiff, j182, j185, ↓j225, j240, j273, j274, j283, j466, x2, c7, hp]
        refine CallTo.pure (args := [arrAV p, .int .i64 ((a + 7 : Nat) : Int), .int .i64 ((2 : Nat) : Int)]) rfl fok45 (by simp -dsimp -implicitDefEqProofs only [↓j25, ↓j29, ↓j30, j33, j173, j174, ↓reduceIte, Nat.reduceEqDiff]; rfl) (an _ _) hG3 ?_
        simp -dsimp -implicitDefEqProofs only [↓j3, ↓j4, j17, j18, j19, j20, j21, j22, j23, j24, ↓j25, ↓j27, ↓j29, ↓j30, j32, j33, ↓j38, ↓j43, ↓j44, ↓j46, ↓j48, ↓j50, ↓j54, ↓j76, ↓j78, ↓j89, ↓j94, ↓j124, j125, j126, j127, j128, j130, ↓j145, ↓j146, ↓j153, j154, partsAV, AV.proj, AV.offOf, AV.upd, AV.size, AV.sizeL, AV.layable, j163, j164, j166, j167, j168, j169, j170, j171, j172, j173, j174, j177, j179, j180, ↓reduceIte, Nat.reduceAdd, Nat.reduceEqDiff, j182, j183, j185, j196, j197, j206, j207, j208, j213, j214, j215, j216, j217, ↓j225, j255, j262, j275, j288, j291, j294, j298, j301, j304, j307, j440, j441, j466, x3, c9, hb9, hs9, g6, byteAV]
        refine ⟨by kernel_rfl, ?_⟩
        rcases Nat.lt_or_ge (213 - a) r with hr2 | hr2
        · have g7 : decide (((213 - a : Nat) : Int) < (r : Int)) = true := decide_eq_true (by omega)
          simp -dsimp -implicitDefEqProofs only [↓j0, ↓j1, ↓j7, ↓j10, ↓j12, ↓j13, ↓j15, j17, j18, j19, j20, j21, j22, j23, ↓j25, ↓j27, ↓j29, ↓j30, j32, j33, ↓j38, ↓j39, ↓j44, ↓j48, ↓j54, ↓j78, ↓j89, ↓j124, j125, j127, ↓j145, ↓j146, ↓j147, ↓j149, ↓j153, j155, j161, partsAV, AV.proj, AV.offOf, AV.upd, AV.size, AV.sizeL, AV.layable, j170, j171, ↓reduceIte, Nat.reduceAdd, Nat.reduceEqDiff, j182, j185, j197, j214, j218, j219, j391, j453, s1, s2, g7]
          exact err _ _ _ (bad (by rw [hdo0, if_pos hr2])) rfl rfl rfl
        have g7 : decide (((213 - a : Nat) : Int) < (r : Int)) = false := decide_eq_false (by omega)
        have hdo : rdecO p a = some ⟨true, N1, N2, N3, b9, (p.drop (a + 11)).take r⟩ := by rw [hdo0, if_neg (by omega)]
        have ck : IntKind.i64.wrap (((a + 11 : Nat) : Int) + (r : Int)) = ((a + 11 + r : Nat) : Int) := by rw [wrap_i64 (by omega) (by omega)]; omega
        simp -dsimp -implicitDefEqProofs only [↓j0, ↓j1, ↓j7, ↓j9, ↓j12, ↓j13, ↓j15, j17, j18, j20, ↓j25, ↓j27, ↓j29, ↓j30, j33, ↓j38, ↓j48, ↓j49, ↓j89, j107, ↓j145, ↓j146, ↓j148, ↓j149, ↓j153, j154, j155, j161, AV.proj, AV.offOf, j171, ↓reduceIte, Nat.reduceMul, Nat.reduceEqDiff, j184, j185, j208, j224, bndAV, ↓j238, j240, j275, s1, s2, g7, c11, ck, hp]
        refine ⟨⟨by omega, by omega⟩, ?_⟩
        have hsub : a + (11 + r) - (a + 11) = r := by omega
        have hle2 : a + (11 + r) ≤ 224 := by omega
        obtain ⟨D, hD⟩ : ∃ D, (p.drop (a + 11)).take r = D := ⟨_, rfl⟩
        have hDl : D.length = r := by rw [← hD]; simp; omega
        have hbb : bytesOf (List.take r (List.drop (a + 11) (p.map byteAV))) = some D := by rw [← List.map_drop, ← List.map_take, hD]; exact bytesOf_bytes D
        rw [hD] at hdo
        obtain ⟨z1, z2, z3, z4⟩ := nxt _ hdo
        have hs : Od.size ⟨true, N1, N2, N3, b9, D⟩ = 11 + r := by rw [← hDl]; rfl
        rw [hs] at z4
        have c22 : IntKind.i64.wrap (10 + (r : Int)) = ((10 + r : Nat) : Int) := by rw [wrap_i64 (by omega) (by omega)]; omega
        have c23 : IntKind.i64.wrap ((a : Int) + ((10 + r : Nat) : Int)) = ((a + (10 + r) : Nat) : Int) := by rw [wrap_i64 (by omega) (by omega)]; omega
        have c24 : IntKind.i64.wrap (((a + (10 + r) : Nat) : Int) + 1) = ((a + (11 + r) : Nat) : Int) := by rw [wrap_i64 (by omega) (by omega)]; omega
        have huD : Unif 6 [AV.agg [.bool true, .int .u16 N1, .int .u32 N2, .agg [.int .u16 N3, .int .u8 b9.toNat], .str ⟨D.toArray⟩]] := unif_od [⟨true, N1, N2, N3, b9, D⟩]
        simp -dsimp -implicitDefEqProofs only [↓j0, ↓j1, ↓j7, ↓j12, ↓j15, j17, j18, j19, j20, j21, j22, j23, ↓j25, ↓j27, ↓j29, ↓j30, j33, ↓j38, ↓j39, ↓j43, ↓j44, ↓j45, ↓j48, ↓j50, ↓j51, ↓j74, ↓j76, ↓j78, ↓j79, ↓j89, ↓j106, j107, ↓j121, j125, j126, j127, j128, j129, j135, ↓j145, ↓j146, ↓j153, j154, partsAV, AV.proj, AV.offOf, AV.upd, AV.size, AV.sizeL, AV.layable, j163, j164, j166, j167, j168, j169, j170, j171, j179, j180, ↓reduceIte, Nat.reduceAdd, Nat.reduceMul, Nat.reduceEqDiff, Nat.reduceLeDiff, j182, j183, j185, j196, j197, j207, j213, j214, j215, j217, j222, j224, Nat.reducePow, List.replicate, j234, j257, j259, j294, j295, j309, j388, j397, j403, j450, hp, up, hsub, hbb, hle2, c22, c23, c24]
        refine DoAppend_of rfl rfl at69 ?_
        simp -dsimp -implicitDefEqProofs only [↓j27, ↓j101, ↓j102, ↓j106, j107, ↓j145, ↓j146, ↓j153, AV.proj, AV.offOf, j166, ↓reduceIte, Nat.reduceEqDiff, Nat.reduceLeDiff, j182, j184, j188, j189, j196, j197, j213, j214, j215, j222, j223, j227, j228, j230, j231, j234, huo, huD]
        refine ⟨⟨by omega, by omega⟩, ?_⟩
        simp -dsimp -implicitDefEqProofs only [↓j0, ↓j1, ↓j7, ↓j15, j17, j18, j19, j20, j21, j22, j23, ↓j25, ↓j27, ↓j29, ↓j30, j33, ↓j38, ↓j39, ↓j44, ↓j45, ↓j48, ↓j78, ↓j79, ↓j89, ↓j145, ↓j146, ↓j153, j154, AV.proj, AV.offOf, AV.upd, AV.size, AV.sizeL, AV.layable, j163, j164, j166, j167, j168, j169, j170, j171, ↓reduceIte, Nat.reduceAdd, Nat.reduceEqDiff, j182, j185, j196, j197, j227, j228, j230, j231, j387, j397, hTl]
        exact step _ _ _ _ hdo (by simp -dsimp -implicitDefEqProofs only [↓j25, reduceCtorEq, ↓reduceIte, Nat.reduceEqDiff, j182, j196, j202, j203, j230, j231, j242, rguT, hw, z4] <;> simp) (by simp -dsimp -implicitDefEqProofs only [↓j27, j179, ↓reduceIte, Nat.reduceEqDiff, j183, j184, j196, j204, j205, j230, j231, j242, guHr] <;> simp)
    · have hdz : rdecO p a = some .zero := by unfold rdecO; rw [hbd, if_neg hb1]
      obtain ⟨z1, z2, z3, z4⟩ := nxt _ hdz
      rw [show Od.zero.size = 1 from rfl] at z4
      have huz : Unif 6 [AV.agg [.bool false, .int .u16 0, .int .u32 0, .agg [.int .u16 0, .int .u8 0], .str ⟨#[]⟩]] := unif_od [.zero]
      have three : (((b.toNat : Int) == 1) = false ∧ ((b.toNat : Int) == 1) = false) ∨ (((b.toNat : Int) == 1) = true ∧ decide ((a : Int) ≤ 213) = false) := by
        by_cases h : b = 1
        · exact .inr ⟨by rw [h]; rfl, decide_eq_false (by have : ¬ a ≤ 213 := fun h2 => hb1 ⟨h, h2⟩; omega)⟩
        · have : ((b.toNat : Int) == 1) = false := by
            rw [beq_eq_false_iff_ne]; intro h2; exact h (UInt8.toNat_inj.1 (by show b.toNat = 1; omega))
          exact .inl ⟨this, this⟩
      rcases three with ⟨g1, g2⟩ | ⟨g1, g2⟩
      all_goals
        rcases hacc with ⟨q1, q2, q3⟩ | ⟨q1, q2⟩
        · simp -dsimp -implicitDefEqProofs only [↓j0, ↓j1, ↓j2, ↓j7, ↓j9, ↓j12, ↓j13, ↓j14, ↓j15, j17, j18, j19, j20, j21, j22, j23, ↓j25, ↓j27, ↓j29, ↓j30, j32, j33, ↓j38, ↓j39, ↓j40, ↓j41, ↓j43, ↓j44, ↓j45, ↓j46, ↓j48, ↓j50, ↓j51, ↓j54, ↓j74, ↓j76, ↓j78, ↓j79, j82, j83, ↓j89, ↓j94, ↓j124, j125, j126, j127, j128, j129, j130, j134, ↓j145, ↓j146, ↓j147, ↓j148, ↓j149, ↓j150, ↓j153, j154, j157, j159, j160, partsAV, AV.proj, AV.offOf, AV.upd, AV.size, AV.sizeL, AV.layable, j163, j164, j166, j167, j169, j170, j171, j175, j177, j179, j180, ↓reduceIte, Nat.reduceAdd, Nat.reduceMul, Nat.reduceEqDiff, Nat.reduceLeDiff, Int.reduceLE, Int.reduceToNat, j182, j183, j185, j196, j197, j206, j207, j208, j213, j214, j215, j217, j218, j219, ↓j225, Nat.reducePow, List.replicate, j234, j251, j255, j275, j294, j295, j388, j397, j423, j441, j450, j461, rguSt, rguT, guH, ha, hd, hd2, h15, c15, hsz, byteAV, hm, w1, hb, hsa, ca, g1, g2, q1, q2, wa1]
          refine DoAppend_of rfl rfl at69 ?_
          simp -dsimp -implicitDefEqProofs only [↓j0, ↓j1, ↓j7, ↓j15, j17, j18, j19, j20, j21, j22, j23, ↓j25, ↓j27, ↓j29, ↓j30, j33, ↓j38, ↓j39, ↓j44, ↓j45, ↓j48, ↓j78, ↓j79, ↓j89, ↓j100, ↓j106, j107, ↓j145, ↓j146, ↓j148, ↓j153, j154, AV.proj, AV.offOf, AV.upd, AV.size, AV.sizeL, AV.layable, j163, j164, j166, j167, j168, j169, j170, j171, ↓reduceIte, Nat.reduceAdd, Nat.reduceMul, Nat.reduceEqDiff, Nat.reduceLeDiff, j182, j185, j196, j197, j223, j227, j228, j230, j231, Nat.reduceBEq, j234, j387, j397, huz]
          exact step _ _ _ _ hdz (by simp -dsimp -implicitDefEqProofs only [↓j25, reduceCtorEq, ↓reduceIte, Nat.reduceEqDiff, j182, j196, j202, j203, j230, j231, j242, rguT, hw, z4] <;> simp) (by simp -dsimp -implicitDefEqProofs only [↓j27, j171, j173, j174, j179, ↓reduceIte, Nat.reduceEqDiff, j183, j184, j196, j204, j205, j230, j231, guHr, q3] <;> simp [Od.zero])
        · simp -dsimp -implicitDefEqProofs only [↓j0, ↓j1, ↓j2, ↓j7, ↓j9, ↓j12, ↓j13, ↓j14, ↓j15, j17, j18, j19, j20, j21, j22, j23, ↓j25, ↓j27, ↓j29, ↓j30, j32, j33, ↓j38, ↓j39, ↓j40, ↓j41, ↓j43, ↓j44, ↓j45, ↓j46, ↓j48, ↓j50, ↓j51, ↓j54, ↓j74, ↓j76, ↓j78, ↓j79, j82, j83, ↓j89, ↓j94, ↓j124, j125, j126, j127, j128, j129, j130, j135, ↓j145, ↓j146, ↓j147, ↓j148, ↓j149, ↓j150, ↓j153, j154, j157, j159, j160, partsAV, AV.proj, AV.offOf, AV.upd, AV.size, AV.sizeL, AV.layable, j163, j164, j166, j167, j169, j170, j171, j175, j177, j179, j180, ↓reduceIte, Nat.reduceAdd, Nat.reduceMul, Nat.reduceEqDiff, Nat.reduceLeDiff, Int.reduceLE, Int.reduceToNat, j182, j183, j185, j196, j197, j206, j207, j208, j213, j214, j215, j217, j218, j219, ↓j225, Nat.reducePow, List.replicate, j234, j251, j255, j275, j294, j295, j388, j397, j423, j441, j450, j461, rguSt, rguT, guH, ha, hd, hd2, h15, c15, hsz, byteAV, hm, w1, hb, hsa, ca, g1, g2, q1, q2, wa1]
          refine DoAppend_of rfl rfl at69 ?_
          simp -dsimp -implicitDefEqProofs only [↓j27, ↓j101, ↓j102, ↓j106, j107, ↓j145, ↓j146, ↓j153, AV.proj, AV.offOf, j166, ↓reduceIte, Nat.reduceEqDiff, Nat.reduceLeDiff, j182, j184, j188, j189, j196, j197, j213, j214, j215, j222, j223, j227, j228, j230, j231, j234, huo, huz]
          refine ⟨⟨by omega, by omega⟩, ?_⟩
          simp -dsimp -implicitDefEqProofs only [↓j0, ↓j1, ↓j7, ↓j15, j17, j18, j19, j20, j21, j22, j23, ↓j25, ↓j27, ↓j29, ↓j30, j33, ↓j38, ↓j39, ↓j44, ↓j45, ↓j48, ↓j78, ↓j79, ↓j89, ↓j145, ↓j146, ↓j153, j154, AV.proj, AV.offOf, AV.upd, AV.size, AV.sizeL, AV.layable, j163, j164, j166, j167, j168, j169, j170, j171, ↓reduceIte, Nat.reduceAdd, Nat.reduceEqDiff, j182, j185, j196, j197, j227, j228, j230, j231, j387, j397, hTl]
          exact step _ _ _ _ hdz (by simp -dsimp -implicitDefEqProofs only [↓j25, reduceCtorEq, ↓reduceIte, Nat.reduceEqDiff, j182, j196, j202, j203, j230, j231, j242, rguT, hw, z4] <;> simp) (by simp -dsimp -implicitDefEqProofs only [↓j27, j179, ↓reduceIte, Nat.reduceEqDiff, j183, j184, j196, j204, j205, j230, j231, j242, guHr] <;> simp [Od.zero])
  · have hG : rgetUndo no p = if mayP ⟨lsnOf p, l⟩ && (putUndo no ⟨lsnOf p, l⟩ == p) then some ⟨lsnOf p, l⟩ else none := by rw [hG, hdl]
    have hu : (⟨lsnOf p, l⟩ : Ud).Ok := ⟨Nat.lt_of_lt_of_le (numAt_lt (p := p) (o := 7) (n := 8)) (by decide), by show l.length ≤ _; omega, hlo⟩
    have hpu := rputUndo_spec no hno ⟨lsnOf p, l⟩ hu
    have hql : (putUndo no ⟨lsnOf p, l⟩).length = 224 := putUndo_len
    obtain ⟨q, hq⟩ : ∃ q, putUndo no ⟨lsnOf p, l⟩ = q := ⟨_, rfl⟩
    rw [hq] at hpu hql hG
    have hce := cellsEq_bytes (l := q) (k := p) (by omega)
    have hk1 := kinds_bytes hql
    have hk2 := kinds_bytes hp
    have hz := zb_len 224
    have stq : Steady (.tuple [arrAV q, .bool (mayP ⟨lsnOf p, l⟩)]) := by
      refine Steady.tuple (fun v hv => ?_) (fun v hv us => ?_)
      · simp only [List.mem_cons, List.not_mem_nil, or_false] at hv
        rcases hv with rfl | rfl
        · refine Steady.agg fun x hx => ?_
          rw [flatL_bytes] at hx
          obtain ⟨b, _, rfl⟩ := List.mem_map.1 hx
          rfl
        · exact Steady.one rfl
      · simp only [List.mem_cons, List.not_mem_nil, or_false] at hv
        rcases hv with rfl | rfl <;> exact fun h => by cases h
    have i1 : (!true) = false := rfl
    rcases two with ⟨d1, d2⟩ | ⟨d1, d2⟩
    all_goals
      rcases hacc with ⟨q1, q2, q3⟩ | ⟨q1, q2⟩
      · have hms1 : ACall Try.prog 29 [.int .u16 no, .agg [.int .u64 (lsnOf p), .nilsl]] [] (.tuple [arrAV q, .bool (mayP ⟨lsnOf p, l⟩)]) [] := by
          refine hpu.nilArgs ⟨.same _ trivial, ?_, trivial⟩
          rw [q3]
          exact Frz.agg _ _ rfl (fun k hk => match k, hk with | 0, _ => .same _ trivial | 1, _ => .nil)
        simp -dsimp -implicitDefEqProofs only [↓j0, ↓j1, ↓j2, ↓j7, ↓j11, ↓j12, ↓j13, ↓j15, j17, j18, j20, ↓j25, ↓j27, ↓j29, ↓j30, j32, j33, ↓j38, ↓j40, ↓j43, ↓j46, ↓j48, ↓j50, ↓j53, ↓j76, j82, j83, ↓j89, ↓j94, j129, j130, ↓j145, ↓j146, ↓j147, ↓j148, ↓j149, ↓j150, ↓j153, j159, AV.proj, AV.offOf, AV.size, AV.sizeL, j163, j164, j171, j175, j177, reduceCtorEq, ↓reduceIte, Nat.reduceAdd, Nat.reduceMul, Nat.reduceEqDiff, Int.reduceLE, Int.reduceToNat, j182, j185, j196, j197, j206, ↓j225, j251, j255, j275, j391, j392, j461, rguSt, rguT, guH, ha, h15, c15, hsz, byteAV, hm, w1, q1, q2, d1, d2]
        refine CallTo.pure (args := [.int .u16 no, .agg [.int .u64 (lsnOf p), .nilsl]]) rfl fok29 (by simp -dsimp -implicitDefEqProofs only [↓j25, ↓j29, j173, j174, ↓reduceIte, Nat.reduceEqDiff]) (notup (fun vs h => by cases h) fun vs h => by cases h) hms1 ?_
        cases hmy : mayP ⟨lsnOf p, l⟩
        · simp -dsimp -implicitDefEqProofs only [↓j0, ↓j1, ↓j2, ↓j7, ↓j10, ↓j12, ↓j13, ↓j15, j17, j18, j19, j20, j21, j22, j23, ↓j25, ↓j27, ↓j29, ↓j30, j32, ↓j38, ↓j39, ↓j40, ↓j41, ↓j44, ↓j54, ↓j55, ↓j57, ↓j78, j81, j84, j85, ↓j124, j125, j127, ↓j145, ↓j146, ↓j147, ↓j149, ↓j151, ↓j153, partsAV, AV.proj, AV.offOf, AV.upd, AV.size, AV.sizeL, AV.layable, j163, j164, j170, j171, j175, ↓reduceIte, Nat.reduceAdd, Nat.reduceEqDiff, j182, j194, j197, j214, j218, j219, j240, j273, j391, j419, j453, hql, hz]
          exact err _ _ _ (by rw [hG, hmy]; rfl) rfl rfl rfl
        cases hqp : (q == p)
        · rw [hqp] at hce
          simp -dsimp -implicitDefEqProofs only [↓j0, ↓j1, ↓j2, ↓j7, ↓j10, ↓j12, ↓j13, ↓j15, j17, j18, j19, j20, j21, j22, j23, ↓j25, ↓j27, ↓j29, ↓j30, j32, ↓j38, ↓j39, ↓j40, ↓j41, ↓j43, ↓j44, ↓j48, ↓j54, ↓j55, ↓j57, ↓j76, ↓j78, j83, j84, j85, ↓j91, ↓j124, j125, j127, j129, ↓j145, ↓j146, ↓j147, ↓j148, ↓j149, ↓j151, ↓j153, partsAV, AV.proj, AV.offOf, AV.upd, AV.size, AV.sizeL, AV.layable, j163, j164, j170, j171, j175, ↓reduceIte, Nat.reduceAdd, Nat.reduceEqDiff, j182, j194, j195, j197, j212, j214, j218, j219, j240, j241, j273, j274, j276, j277, j391, j419, j453, hql, hp, hz, hce, hk1, i1]
          exact err _ _ _ (by rw [hG, hmy, hqp]; rfl) rfl rfl rfl
        · rw [hqp] at hce
          simp -dsimp -implicitDefEqProofs only [↓j0, ↓j1, ↓j2, ↓j7, ↓j9, ↓j10, ↓j12, ↓j13, ↓j15, j17, j18, j19, j20, j21, j22, j23, ↓j25, ↓j27, ↓j29, ↓j30, j32, ↓j38, ↓j39, ↓j40, ↓j41, ↓j43, ↓j44, ↓j48, ↓j55, ↓j57, ↓j76, ↓j78, j83, j84, j85, ↓j91, j129, ↓j145, ↓j146, ↓j148, ↓j149, ↓j151, ↓j153, AV.proj, AV.offOf, AV.upd, AV.size, AV.sizeL, AV.layable, j163, j164, j170, j171, j175, ↓reduceIte, Nat.reduceAdd, Nat.reduceEqDiff, j182, j195, j197, j212, j240, j241, j273, j274, j276, j277, j391, j392, j419, hql, hp, hz, hce, hk1, i1]
          rw [hG, hmy, hqp, q3]
          exact Final.many (.inr rfl) (rs := [.cell 4 71, .tmp 5]) (us := [.agg [.int .u64 (lsnOf p), .nilsl], .bool true]) rfl ⟨⟨101, 0, [], _, rfl, rfl, rfl, rfl, by simp -dsimp -implicitDefEqProofs only [j129, AV.size, AV.sizeL, Nat.reduceAdd, j182, j197, j391, j392]⟩, ⟨rfl, fun vs h => by cases h⟩, trivial⟩ (by simp) ⟨Frz.agg _ _ rfl (fun k hk => match k, hk with | 0, _ => .same _ trivial | 1, _ => .nil), .same _ trivial, trivial⟩
      · have hsl : ∀ H : Heap, Heap.get H 103 = some (.cells (.agg (l.map Od.av))) → Frz (fun _ => False) H (.agg [.int .u64 (lsnOf p), .sl 103 0 [] 0 l.length l.length 6]) (Ud.av ⟨lsnOf p, l⟩) := fun H hH => by
          refine Frz.agg _ _ rfl fun k hk => ?_
          match k, hk with
          | 0, _ => exact .same _ trivial
          | 1, _ =>
            have h := Frz.sl (K := fun _ => False) (H := H) 103 0 [] 0 l.length l.length 6 _ (l.map Od.av) hH (fun h => h) rfl rfl (by simp) huo (fun x hx => AV.onL_iff.1 (on_ods _ l) x (List.mem_of_mem_drop (List.mem_of_mem_take hx)))
            rw [List.drop_zero, hTl] at h
            exact h
        have hms1 : ACall Try.prog 29 [.int .u16 no, .agg [.int .u64 (lsnOf p), .sl 103 0 [] 0 l.length l.length 6]] [(103, .cells (.agg (l.map Od.av)))] (.tuple [arrAV q, .bool (mayP ⟨lsnOf p, l⟩)]) [(103, .cells (.agg (l.map Od.av)))] :=
          ACall.borrowS hpu stq ⟨.same _ trivial, hsl _ rfl, trivial⟩
        simp -dsimp -implicitDefEqProofs only [↓j0, ↓j1, ↓j2, ↓j7, ↓j11, ↓j12, ↓j13, ↓j15, j17, j18, j20, ↓j25, ↓j27, ↓j29, ↓j30, j32, j33, ↓j38, ↓j40, ↓j43, ↓j46, ↓j48, ↓j50, ↓j53, ↓j76, j82, j83, ↓j89, ↓j94, j129, j130, ↓j145, ↓j146, ↓j147, ↓j148, ↓j149, ↓j150, ↓j153, j159, AV.proj, AV.offOf, AV.size, AV.sizeL, j163, j164, j171, j175, j177, reduceCtorEq, ↓reduceIte, Nat.reduceAdd, Nat.reduceMul, Nat.reduceEqDiff, Int.reduceLE, Int.reduceToNat, j182, j185, j196, j197, j206, ↓j225, j251, j255, j275, j391, j392, j461, rguSt, rguT, guH, ha, h15, c15, hsz, byteAV, hm, w1, q1, q2, d1, d2]
        refine CallTo.gen (args := [.int .u16 no, .agg [.int .u64 (lsnOf p), .sl 103 0 [] 0 l.length l.length 6]]) [(103, .cells (.agg (l.map Od.av)))] [(103, .cells (.agg (l.map Od.av)))] 104 rfl fok29 (by simp -dsimp -implicitDefEqProofs only [↓j25, ↓j29, j173, j174, ↓reduceIte, Nat.reduceEqDiff]) (notup (fun vs h => by cases h) fun vs h => by cases h) hms1 (SubH.of (by simp -dsimp -implicitDefEqProofs only [↓j27, ↓reduceIte, Nat.reduceEqDiff, j182, j204, j205])) ⟨by simp, fun n x h hn => by
          simp only [Heap.get] at h
          by_cases h1 : n = 103
          · subst h1; simp at hn
          · simp [h1] at h⟩ ?_
        cases hmy : mayP ⟨lsnOf p, l⟩
        · simp -dsimp -implicitDefEqProofs only [↓j0, ↓j1, ↓j2, ↓j7, ↓j10, ↓j12, ↓j13, ↓j15, j17, j18, j19, j20, j21, j22, j23, ↓j25, ↓j27, ↓j29, ↓j30, j32, ↓j38, ↓j39, ↓j40, ↓j41, ↓j44, ↓j54, ↓j55, ↓j57, ↓j78, j81, j84, j85, ↓j124, j125, j127, ↓j145, ↓j146, ↓j147, ↓j149, ↓j151, ↓j153, partsAV, AV.proj, AV.offOf, AV.upd, AV.size, AV.sizeL, AV.layable, j163, j164, j170, j171, j173, j174, j175, ↓reduceIte, Nat.reduceAdd, Nat.reduceEqDiff, j182, j194, j197, j214, j218, j219, j240, j273, j391, j419, j453, hql, hz]
          exact err _ _ _ (by rw [hG, hmy]; rfl) rfl rfl rfl
        cases hqp : (q == p)
        · rw [hqp] at hce
          simp -dsimp -implicitDefEqProofs only [↓j0, ↓j1, ↓j2, ↓j7, ↓j10, ↓j12, ↓j13, ↓j15, j17, j18, j19, j20, j21, j22, j23, ↓j25, ↓j27, ↓j29, ↓j30, j32, ↓j38, ↓j39, ↓j40, ↓j41, ↓j43, ↓j44, ↓j48, ↓j54, ↓j55, ↓j57, ↓j76, ↓j78, j83, j84, j85, ↓j91, ↓j124, j125, j127, j129, ↓j145, ↓j146, ↓j147, ↓j148, ↓j149, ↓j151, ↓j153, partsAV, AV.proj, AV.offOf, AV.upd, AV.size, AV.sizeL, AV.layable, j163, j164, j170, j171, j173, j174, j175, ↓reduceIte, Nat.reduceAdd, Nat.reduceEqDiff, j182, j194, j195, j197, j212, j214, j218, j219, j240, j241, j273, j274, j276, j277, j391, j419, j453, hql, hp, hz, hce, hk1, i1]
          exact err _ _ _ (by rw [hG, hmy, hqp]; rfl) rfl rfl rfl
        · rw [hqp] at hce
          simp -dsimp -implicitDefEqProofs only [↓j0, ↓j1, ↓j2, ↓j7, ↓j9, ↓j10, ↓j12, ↓j13, ↓j15, j17, j18, j19, j20, j21, j22, j23, ↓j25, ↓j27, ↓j29, ↓j30, j32, ↓j38, ↓j39, ↓j40, ↓j41, ↓j43, ↓j44, ↓j48, ↓j55, ↓j57, ↓j76, ↓j78, j83, j84, j85, ↓j91, j129, ↓j145, ↓j146, ↓j148, ↓j149, ↓j151, ↓j153, AV.proj, AV.offOf, AV.upd, AV.size, AV.sizeL, AV.layable, j163, j164, j170, j171, j173, j174, j175, ↓reduceIte, Nat.reduceAdd, Nat.reduceEqDiff, j182, j195, j197, j212, j240, j241, j273, j274, j276, j277, j391, j392, j419, hql, hp, hz, hce, hk1, i1]
          rw [hG, hmy, hqp]
          exact Final.many (.inr rfl) (rs := [.cell 4 71, .tmp 5]) (us := [.agg [.int .u64 (lsnOf p), .sl 103 0 [] 0 l.length l.length 6], .bool true]) rfl ⟨⟨101, 0, [], _, rfl, rfl, rfl, rfl, by simp -dsimp -implicitDefEqProofs only [j129, AV.size, AV.sizeL, Nat.reduceAdd, j182, j197, j391, j392]⟩, ⟨rfl, fun vs h => by cases h⟩, trivial⟩ (by simp) ⟨hsl _ rfl, .same _ trivial, trivial⟩
end Go.Proofs.Ytimdepgenefkmaa
