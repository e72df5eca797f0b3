/- seal.Cut, seal.Lay; the law RingBack. -/
import Derived.Test.YtbhhbadeabhfcaaC14
import Derived.Test.YtbhhbadeabhfcaaM4
set_option linter.unusedVariables false
set_option linter.unusedSimpArgs false
namespace Go.Proofs.Ytbhhbadeabhfcaa
open Go Go.RowKit

theorem fok18 : fnOk Try.prog 18 = true := by kernel_rfl
theorem fok19 : fnOk Try.prog 19 = true := by kernel_rfl
theorem args_ai {p : List UInt8} {a : Int} {k : IntKind} : ∀ x, x ∈ [arrAV p, .int k a] → AV.on (fun _ => False) x ∧ ∀ vs, x ≠ .tuple vs := fun x hx => by
  simp only [List.mem_cons, List.not_mem_nil, or_false] at hx
  rcases hx with rfl | rfl
  · exact ⟨on_bytes _ _, fun vs h => by cases h⟩
  · exact ⟨trivial, fun vs h => by cases h⟩
theorem args_aia {p q : List UInt8} {a : Int} {k : IntKind} : ∀ x, x ∈ [arrAV p, .int k a, arrAV q] → AV.on (fun _ => False) x ∧ ∀ vs, x ≠ .tuple vs := fun x hx => by
  simp only [List.mem_cons, List.not_mem_nil, or_false] at hx
  rcases hx with rfl | rfl | rfl
  · exact ⟨on_bytes _ _, fun vs h => by cases h⟩
  · exact ⟨trivial, fun vs h => by cases h⟩
  · exact ⟨on_bytes _ _, fun vs h => by cases h⟩
theorem cut_spec (b : List UInt8) (i : Nat) (hb : b.length = 256) (hi : i < 4) : ACall Try.prog 19 [arrAV b, .int .i64 i] [] (arrAV (sec b i)) [] := by
  refine ACall.run (Z := Z) (N := 18) mixed hZ Try.func19 rfl rfl (by kernel_rfl) (by simp) args_ai 0 ?_
  have hz := zb_len 64
  have d1 : decide (0 ≤ (i : Int)) = true := decide_eq_true (by omega)
  have d2 : decide ((i : Int) < 4) = true := decide_eq_true (by omega)
  have w1 : IntKind.i64.wrap ((i : Int) * 64) = ((64 * i : Nat) : Int) := by rw [wrap_i64 (by omega) (by omega)]; omega
  have b1 : ((64 * i : Nat) : Int) ≤ ((256 : Nat) : Int) := by omega
  have b2 : 64 * i + (256 - 64 * i) ≤ 256 := by omega
  have ub := unif_bytes b
  have uz := unif_bytes (zb 64)
  have hxs : List.take (256 - 64 * i) (List.drop (64 * i) (b.map byteAV)) = (b.drop (64 * i)).map byteAV := by
    rw [← List.map_drop, List.take_of_length_le (by simp; omega)]
  have hdl : (b.drop (64 * i)).length = 256 - 64 * i := by rw [List.length_drop, hb]
  have hmn : Nat.min (256 - 64 * i) 64 = 64 := by
    show min (256 - 64 * i) 64 = 64
    omega
  have hcp : List.take 64 ((b.drop (64 * i)).map byteAV) ++ List.drop 64 ((zb 64).map byteAV) = (sec b i).map byteAV := by
    have hnil : List.drop 64 ((zb 64).map byteAV) = [] := List.drop_eq_nil_of_le (by simp [zb])
    rw [hnil, List.append_nil, ← List.map_take]; rfl
  have hsl := sec_len hb hi
  simp -dsimp -implicitDefEqProofs only [↓j0, ↓j1, ↓j2, ↓j3, ↓j4, ↓j7, ↓j8, ↓j12, ↓j13, ↓j15, j17, j18, j20, j21, j22, j23, j24, ↓j25, ↓j27, ↓j29, ↓j30, j32, j33, ↓j38, ↓j40, ↓j41, ↓j42, ↓j48, ↓j49, ↓j52, j70, ↓j76, ↓j93, j94, ↓j129, ↓j130, ↓j131, ↓j133, ↓j134, ↓j137, j140, j143, j146, AV.proj, AV.offOf, AV.upd, AV.layable, argEnv, j147, j148, j151, j154, j155, j156, j157, j158, j159, reduceCtorEq, ↓reduceIte, Nat.reduceAdd, Nat.reduceMul, Nat.reduceEqDiff, Int.reduceToNat, j166, j169, j173, j175, j180, j181, j191, j192, j197, j198, j199, j206, j207, bndAV, j216, j217, j218, ↓j222, ↓j223, j224, j269, j296, j336, j352, hb, hz, d2, w1, b1, b2, ub, uz, hxs, hdl, hmn, hcp]
  refine ⟨by kernel_rfl, ?_⟩
  simp -dsimp -implicitDefEqProofs only [↓j0, ↓j1, ↓j7, ↓j10, ↓j12, ↓j15, j17, j18, j19, j20, j21, j22, j23, ↓j25, ↓j27, ↓j29, ↓j43, ↓j44, ↓j63, ↓j65, j116, ↓j129, ↓j130, ↓j137, AV.proj, AV.offOf, AV.upd, AV.size, AV.layable, j154, j155, reduceCtorEq, ↓reduceIte, Nat.reduceEqDiff, j166, j224, j294, j295, hsl, hz]
  exact Final.one (.inr rfl) (r := .cell 4 46) rfl ⟨1, 0, [], _, rfl, rfl, rfl, rfl, by simp -dsimp -implicitDefEqProofs only [j116, j166, j224, j294, j295, hsl]⟩ (fun vs h => by cases h) (fun vs h => by cases h) (.same _ (on_bytes _ _))
theorem layL_len {b s : List UInt8} {i : Nat} (hb : b.length = 256) (hs : s.length = 64) (hi : i < 4) : (layL b i s).length = 256 := by
  simp only [layL, List.length_append, List.length_take, List.length_drop]; omega
theorem lay_spec (b s : List UInt8) (i : Nat) (hb : b.length = 256) (hs : s.length = 64) (hi : i < 4) : ACall Try.prog 18 [arrAV b, .int .i64 i, arrAV s] [] (arrAV (layL b i s)) [] := by
  refine ACall.run (Z := Z) (N := 19) mixed hZ Try.func18 rfl rfl (by kernel_rfl) (by simp) args_aia 0 ?_
  have hz := zb_len 256
  have d1 : decide (0 ≤ (i : Int)) = true := decide_eq_true (by omega)
  have d2 : decide ((i : Int) < 4) = true := decide_eq_true (by omega)
  have w1 : IntKind.i64.wrap ((i : Int) * 64) = ((64 * i : Nat) : Int) := by rw [wrap_i64 (by omega) (by omega)]; omega
  have b1 : ((64 * i : Nat) : Int) ≤ ((256 : Nat) : Int) := by omega
  have b2 : 64 * i + (256 - 64 * i) ≤ 256 := by omega
  have ub := unif_bytes b
  have us := unif_bytes s
  have hxs : List.take 64 (s.map byteAV) = s.map byteAV := List.take_of_length_le (by simp; omega)
  have hmn : Nat.min 64 (256 - 64 * i) = 64 := by
    show min 64 (256 - 64 * i) = 64
    omega
  have hcp : List.take (64 * i) (b.map byteAV) ++ s.map byteAV ++ List.drop (64 * i + 64) (b.map byteAV) = (layL b i s).map byteAV := by
    rw [← List.map_take, ← List.map_drop, ← List.map_append, ← List.map_append]; rfl
  have hll := layL_len hb hs hi
  simp -dsimp -implicitDefEqProofs only [↓j0, ↓j1, ↓j2, ↓j3, ↓j4, ↓j7, ↓j8, ↓j12, ↓j13, ↓j15, j17, j18, j20, j21, j22, j23, j24, ↓j25, ↓j27, ↓j29, ↓j30, j32, j33, ↓j38, ↓j40, ↓j41, ↓j42, ↓j48, ↓j49, ↓j52, j70, ↓j76, ↓j93, j94, ↓j129, ↓j130, ↓j131, ↓j133, ↓j134, ↓j137, j140, j143, j146, AV.proj, AV.offOf, AV.upd, AV.layable, argEnv, j147, j148, j154, j155, j156, j157, j158, j159, reduceCtorEq, ↓reduceIte, Nat.reduceAdd, Nat.reduceMul, Nat.reduceEqDiff, Int.reduceToNat, j166, j169, j173, j175, j180, j181, j191, j192, j197, j198, j199, j206, j207, j211, bndAV, j216, j217, j218, ↓j222, ↓j223, j224, j269, j296, j336, j347, hb, hs, d2, w1, b1, b2, ub, us, hxs, hmn, hcp]
  refine ⟨by kernel_rfl, ?_⟩
  simp -dsimp -implicitDefEqProofs only [↓j0, ↓j1, ↓j7, ↓j10, ↓j12, ↓j15, j17, j18, j19, j20, j21, j22, j23, ↓j25, ↓j27, ↓j29, ↓j43, ↓j44, ↓j63, ↓j65, j116, ↓j129, ↓j130, ↓j137, AV.proj, AV.offOf, AV.upd, AV.size, AV.layable, j154, j155, reduceCtorEq, ↓reduceIte, Nat.reduceEqDiff, j166, j224, j267, j268, hll, hz]
  exact Final.one (.inr rfl) (r := .cell 6 27) rfl ⟨2, 0, [], _, rfl, rfl, rfl, rfl, by simp -dsimp -implicitDefEqProofs only [j116, j166, j224, j267, j268, hll]⟩ (fun vs h => by cases h) (fun vs h => by cases h) (.same _ (on_bytes _ _))

theorem bAnd_u8 {a b : Nat} (ha : a < 256) (hb : b < 256) : bAnd .u8 (a : Int) (b : Int) = ((a &&& b : Nat) : Int) := by
  simp only [bAnd, BitVec.ofInt_natCast]
  have h : (BitVec.ofNat IntKind.u8.bits a &&& BitVec.ofNat IntKind.u8.bits b).toNat = a &&& b := by
    show (BitVec.ofNat 8 a &&& BitVec.ofNat 8 b).toNat = _
    rw [BitVec.toNat_and, BitVec.toNat_ofNat, BitVec.toNat_ofNat, Nat.mod_eq_of_lt ha, Nat.mod_eq_of_lt hb]
  rw [h, wrap_u8, Nat.mod_eq_of_lt (Nat.lt_of_le_of_lt Nat.and_le_left ha)]
def kbit (keep : Nat) (j : Nat) : Bool := decide (keep / 2 ^ j % 2 = 1)
theorem kbit0 {keep : Nat} (h : keep % 16 = 0) : ∀ j, j < 4 → kbit keep j = false := fun j hj => by
  have : j = 0 ∨ j = 1 ∨ j = 2 ∨ j = 3 := by omega
  rcases this with rfl | rfl | rfl | rfl <;> simp only [kbit, decide_eq_false_iff_not] <;> omega
theorem kbit15 {keep : Nat} (h : keep % 16 = 15) : ∀ j, j < 4 → kbit keep j = true := fun j hj => by
  have : j = 0 ∨ j = 1 ∨ j = 2 ∨ j = 3 := by omega
  rcases this with rfl | rfl | rfl | rfl <;> simp only [kbit, decide_eq_true_eq] <;> omega
theorem kbit_both {keep : Nat} (h0 : keep % 16 ≠ 0) (h15 : keep % 16 ≠ 15) : ∃ i j, i < 4 ∧ j < 4 ∧ kbit keep i = false ∧ kbit keep j = true := by
  have hf : ∃ i, i < 4 ∧ kbit keep i = false := by
    by_cases a0 : keep / 2 ^ 0 % 2 = 1
    · by_cases a1 : keep / 2 ^ 1 % 2 = 1
      · by_cases a2 : keep / 2 ^ 2 % 2 = 1
        · refine ⟨3, by omega, ?_⟩
          simp only [kbit, decide_eq_false_iff_not]; omega
        · exact ⟨2, by omega, by simp only [kbit, decide_eq_false_iff_not]; exact a2⟩
      · exact ⟨1, by omega, by simp only [kbit, decide_eq_false_iff_not]; exact a1⟩
    · exact ⟨0, by omega, by simp only [kbit, decide_eq_false_iff_not]; exact a0⟩
  have ht : ∃ i, i < 4 ∧ kbit keep i = true := by
    by_cases a0 : keep / 2 ^ 0 % 2 = 1
    · exact ⟨0, by omega, by simp only [kbit, decide_eq_true_eq]; exact a0⟩
    by_cases a1 : keep / 2 ^ 1 % 2 = 1
    · exact ⟨1, by omega, by simp only [kbit, decide_eq_true_eq]; exact a1⟩
    by_cases a2 : keep / 2 ^ 2 % 2 = 1
    · exact ⟨2, by omega, by simp only [kbit, decide_eq_true_eq]; exact a2⟩
    refine ⟨3, by omega, ?_⟩
    simp only [kbit, decide_eq_true_eq]; omega
  obtain ⟨i, h1, h2⟩ := hf
  obtain ⟨j, h3, h4⟩ := ht
  exact ⟨i, j, h1, h3, h2, h4⟩
abbrev chCells (c : Ch) : List AV := [.int .u32 c.ep, .int .u32 c.no, .int .u64 c.off, .str ⟨c.by_.toArray⟩]
theorem cellsEq_ch (c : Ch) : cellsEq (chCells c) (chCells c) = some true := by
  simp [cellsEq, scEq, strEq]
theorem args_back {c d : Ch} {keep : Int} : ∀ x, x ∈ [c.av, d.av, .int .u8 keep] → AV.on (fun _ => False) x ∧ ∀ vs, x ≠ .tuple vs := fun x hx => by
  simp only [List.mem_cons, List.not_mem_nil, or_false] at hx
  rcases hx with rfl | rfl | rfl
  · exact ⟨by simp [AV.on, AV.onL], fun vs h => by cases h⟩
  · exact ⟨by simp [AV.on, AV.onL], fun vs h => by cases h⟩
  · exact ⟨trivial, fun vs h => by cases h⟩
def bkSt (c d : Ch) (keep : Nat) (l b : List UInt8) (i : Nat) : St := ⟨113, [(13, .int .i64 i), (2, .int .u8 keep), (3, .ptr 0 0 []), (4, .ptr 1 0 []), (7, .ptr 2 0 []), (9, .ptr 3 0 []), (6, .bool false)], [(0, .cells c.av), (1, .cells d.av), (2, .cells (arrAV l)), (3, .cells (arrAV b))], 5⟩
theorem ringBack_spec (c d : Ch) (keep : Nat) (hc : c.Wf) (hd : d.Wf) (hkp : keep < 256) : ACall Try.prog 5 [c.av, d.av, .int .u8 keep] [] (.bool true) [] := by
  refine ACall.run (Z := Z) (N := 113) mixed hZ Try.func5 rfl rfl (by kernel_rfl) (by simp) args_back 0 ?_
  have ret : ∀ (t : Env) (H : Heap) (m : Nat), look t 6 = some (.bool true) → Final Try.prog Try.f5 (.bool true) [] .ret ⟨113, t, H, m⟩ := fun t H m h =>
    Final.one (.inr rfl) (r := .tmp 6) rfl ⟨h, fun vs h => by cases h⟩ (fun vs h => by cases h) (fun vs h => by cases h) (.same _ trivial)
  have nil0 : ∀ x : AV, x ∈ ([] : List AV) → ∀ vs, x ≠ .tuple vs := fun x hx => by simp at hx
  have hp1 := pack_spec c hc
  have hp2 := pack_spec d hd
  have hz := zb_len 256
  have hla := packP_len c
  have hlb := packP_len d
  have n0 : ((0 : Int) != 0) = false := rfl
  have n1 : ((1 : Int) != 0) = true := rfl
  simp -dsimp -implicitDefEqProofs only [↓j0, ↓j1, ↓j7, ↓j12, ↓j15, j17, j18, j20, ↓j25, ↓j27, ↓j29, ↓j30, j32, ↓j39, ↓j42, ↓j43, ↓j53, ↓j63, j116, ↓j129, ↓j130, ↓j137, AV.proj, AV.offOf, AV.size, AV.sizeL, AV.layable, argEnv, j154, j155, j156, reduceCtorEq, ↓reduceIte, Nat.reduceAdd, Nat.reduceEqDiff, j166, j180, j181, j246, j247]
  refine CallTo.pure (args := [c.av]) rfl fok10 (by simp -dsimp -implicitDefEqProofs only [↓j25, ↓j29, j157, j158, ↓reduceIte]) (fun x hx => (args_ch x hx).2) hp1 ?_
  simp -dsimp -implicitDefEqProofs only [↓j0, ↓j1, ↓j7, ↓j12, ↓j15, j17, j18, j19, j20, j21, j22, j23, ↓j25, ↓j27, ↓j29, ↓j38, ↓j39, ↓j41, ↓j43, ↓j44, ↓j53, ↓j57, ↓j63, ↓j65, j72, j116, ↓j129, ↓j130, ↓j137, AV.proj, AV.offOf, AV.upd, AV.size, AV.sizeL, AV.layable, j147, j148, j154, j155, reduceCtorEq, ↓reduceIte, Nat.reduceAdd, Nat.reduceEqDiff, j166, j181, j224, j246, j247, j267, j347, hla, hz]
  refine CallTo.pure (args := [d.av]) rfl fok10 (by simp -dsimp -implicitDefEqProofs only [↓j25, ↓j29, j157, j158, ↓reduceIte]) (fun x hx => (args_ch x hx).2) hp2 ?_
  have notok : ∀ x y : Bool, (x && y) = false → x = false ∨ (x = true ∧ y = false) := fun x y h => by cases x <;> cases y <;> simp at h ⊢
  by_cases hok : (packOk c && packOk d) = true
  case neg =>
    rcases notok _ _ (by simpa using hok) with h | ⟨h, h'⟩
    · have e1 : (if packOk c then (0 : Int) else 1) = 1 := by rw [h]; rfl
      simp -dsimp -implicitDefEqProofs only [↓j0, ↓j1, ↓j2, ↓j7, ↓j12, ↓j13, ↓j15, j17, j18, j19, j20, j21, j22, j23, ↓j25, ↓j27, ↓j29, ↓j30, j32, j33, ↓j38, ↓j39, ↓j40, ↓j41, ↓j44, ↓j48, ↓j53, ↓j57, ↓j65, j68, j72, ↓j76, ↓j129, ↓j130, ↓j131, ↓j133, ↓j135, ↓j137, j142, AV.proj, AV.offOf, AV.upd, AV.size, AV.layable, j147, j148, j154, j155, j159, reduceCtorEq, ↓reduceIte, Nat.reduceAdd, Nat.reduceEqDiff, j166, j169, j224, j267, j347, hlb, hz, e1, n1]
      refine CallTo.pure (args := []) rfl fok14 rfl nil0 awake_spec ?_
      simp -dsimp -implicitDefEqProofs only [↓j0, ↓j1, ↓j10, j17, j18, j20, ↓j25, ↓j29, ↓j39, ↓j129, j155, ↓reduceIte]
      exact ret _ _ _ rfl
    · have e1 : (if packOk c then (0 : Int) else 1) = 0 := by rw [h]; rfl
      have e2 : (if packOk d then (0 : Int) else 1) = 1 := by rw [h']; rfl
      simp -dsimp -implicitDefEqProofs only [↓j0, ↓j1, ↓j2, ↓j7, ↓j12, ↓j13, ↓j15, j17, j18, j19, j20, j21, j22, j23, ↓j25, ↓j27, ↓j29, ↓j30, j32, j33, ↓j38, ↓j39, ↓j40, ↓j41, ↓j44, ↓j48, ↓j53, ↓j57, ↓j65, j70, j72, ↓j76, ↓j129, ↓j130, ↓j131, ↓j132, ↓j133, ↓j135, ↓j137, j142, AV.proj, AV.offOf, AV.upd, AV.size, AV.layable, j147, j148, j154, j155, j159, reduceCtorEq, ↓reduceIte, Nat.reduceAdd, Nat.reduceEqDiff, j166, j169, j179, j224, j267, j347, hlb, hz, e1, e2, n0, n1]
      refine CallTo.pure (args := []) rfl fok14 rfl nil0 awake_spec ?_
      simp -dsimp -implicitDefEqProofs only [↓j0, ↓j1, ↓j10, j17, j18, j20, ↓j25, ↓j29, ↓j39, ↓j129, j155, ↓reduceIte]
      exact ret _ _ _ rfl
  case pos =>
    obtain ⟨hcO, hdO⟩ : packOk c = true ∧ packOk d = true := by simpa using hok
    have e1 : (if packOk c then (0 : Int) else 1) = 0 := by rw [hcO]; rfl
    have e2 : (if packOk d then (0 : Int) else 1) = 0 := by rw [hdO]; rfl
    have huc := unpack_spec (packP c) hla
    rw [unpack_pack hc hcO] at huc
    have hcc := cellsEq_ch c
    have hdd := cellsEq_ch d
    have hpc : packP c = sealL (c.ep * 4294967296 + c.no) (padP c) 4 := by rw [packP, hcO]; rfl
    have hpd : packP d = sealL (d.ep * 4294967296 + d.no) (padP d) 4 := by rw [packP, hdO]; rfl
    obtain ⟨a, haE⟩ : ∃ a, packP c = a := ⟨_, rfl⟩
    obtain ⟨b, hbE⟩ : ∃ b, packP d = b := ⟨_, rfl⟩
    rw [haE] at hla huc
    rw [hbE] at hlb
    simp -dsimp -implicitDefEqProofs only [↓j0, ↓j1, ↓j2, ↓j7, ↓j9, ↓j12, ↓j13, ↓j15, j17, j18, j19, j20, j21, j22, j23, ↓j25, ↓j27, ↓j29, ↓j30, j32, j33, ↓j38, ↓j39, ↓j40, ↓j41, ↓j43, ↓j44, ↓j48, ↓j53, ↓j57, ↓j63, ↓j65, j70, j72, ↓j76, j116, ↓j129, ↓j130, ↓j132, ↓j133, ↓j135, ↓j137, j142, AV.proj, AV.offOf, AV.upd, AV.size, AV.layable, j147, j148, j154, j155, j159, reduceCtorEq, ↓reduceIte, Nat.reduceAdd, Nat.reduceEqDiff, j166, j169, j179, j224, j267, j268, j347, haE, hbE, hla, hlb, hz, e1, e2, n0]
    refine CallTo.pure (args := [arrAV a]) rfl fok12 (by simp -dsimp -implicitDefEqProofs only [↓j25, ↓j29, j157, j158, ↓reduceIte]) (fun x hx => (args_arr x hx).2) huc ?_
    simp -dsimp -implicitDefEqProofs only [↓j0, ↓j1, ↓j2, ↓j7, ↓j9, ↓j12, ↓j13, ↓j14, ↓j15, ↓j16, j17, j18, j19, j20, j21, j22, j23, ↓j25, ↓j27, ↓j29, ↓j30, j32, j33, ↓j38, ↓j39, ↓j40, ↓j41, ↓j43, ↓j44, ↓j48, ↓j55, ↓j57, ↓j63, ↓j65, j70, j71, j72, ↓j78, j116, ↓j129, ↓j130, ↓j132, ↓j133, ↓j135, ↓j137, AV.proj, AV.offOf, AV.upd, AV.size, AV.sizeL, AV.layable, AV.flat, AV.flatL, j147, j148, j154, j155, j156, j157, j158, j159, reduceCtorEq, ↓reduceIte, Nat.reduceAdd, Nat.reduceEqDiff, j166, j177, j179, j181, j196, kindOf, j246, j247, j260, j261, j345, hcc]
    refine AWp.loopR (Z := Z) mixed hZ (by kernel_rfl) (fun n s => ∃ i, i + n = 4 ∧ s = bkSt c d keep (mixP (kbit keep) a b i ++ a.drop (64 * i)) b i) (n0 := 4) (s0 := bkSt c d keep a b 0) ?_ ⟨0, by omega, rfl⟩ ?_ rfl
    · exact Wk.sub (by simp -dsimp -implicitDefEqProofs only [↓j25, ↓j27, j163, reduceCtorEq, ↓reduceIte, Nat.reduceEqDiff, j166, j167, j168, j186, j187, j188, j189, j193, j207] <;> simp)
    rintro n s ⟨i, hi, rfl⟩
    refine ⟨rfl, ?_⟩
    have hml := mix_len (f := kbit keep) hla hlb i (by omega)
    have hdl : (mixP (kbit keep) a b i ++ a.drop (64 * i)).length = 256 := by
      rw [List.length_append, hml, List.length_drop]; omega
    rcases Nat.lt_or_ge i 4 with hlt | hge
    · have hd4 : decide ((i : Int) < 4) = true := decide_eq_true (by omega)
      have hneg : ((i : Int) < 0) = False := by simp
      have hsh : bShr .u8 (keep : Int) (i : Int) = ((keep / 2 ^ i : Nat) : Int) := by
        rw [bShr_nat, show IntKind.u8.bits = 8 from rfl, Nat.min_eq_left (by omega)]
      have hkl : keep / 2 ^ i < 256 := Nat.lt_of_le_of_lt (Nat.div_le_self _ _) hkp
      have han : bAnd .u8 ((keep / 2 ^ i : Nat) : Int) 1 = ((keep / 2 ^ i % 2 : Nat) : Int) := by
        have := bAnd_u8 (a := keep / 2 ^ i) (b := 1) hkl (by decide)
        rw [Nat.and_one_is_mod] at this
        exact this
      have hw : IntKind.i64.wrap ((i : Int) + 1) = ((i + 1 : Nat) : Int) := by rw [wrap_i64 (by omega) (by omega)]; omega
      have hct := cut_spec b i hlb hlt
      have hmx := mix_lay (f := kbit keep) hla hlb hlt
      have hmk := mix_keep hla hlt
      have hms : mixP (kbit keep) a b (i + 1) = mixP (kbit keep) a b i ++ (if kbit keep i then sec b i else sec a i) := rfl
      obtain ⟨l, hl⟩ : ∃ l, mixP (kbit keep) a b i ++ a.drop (64 * i) = l := ⟨_, rfl⟩
      rw [hl] at hdl hmx
      have hly := lay_spec l (sec b i) i hdl (sec_len hlb hlt) hlt
      have hll := layL_len hdl (sec_len hlb hlt) hlt
      simp -dsimp -implicitDefEqProofs only [↓j0, ↓j1, ↓j7, ↓j9, ↓j12, ↓j13, ↓j14, ↓j15, j17, j18, j20, ↓j25, ↓j29, ↓j30, j33, ↓j38, ↓j48, ↓j76, j97, j101, j106, ↓j129, ↓j130, ↓j131, ↓j133, j141, j143, j155, reduceCtorEq, ↓reduceIte, Nat.reduceEqDiff, j169, j170, bkSt, hl, hd4, hneg, hsh, han]
      refine ⟨fun hb1 => ?_, fun hb1 => ?_⟩
      · have hkb : kbit keep i = true := by
          simp only [kbit, decide_eq_true_eq]
          have : ((keep / 2 ^ i % 2 : Nat) : Int) = 1 := by simpa using hb1
          omega
        have hnx : mixP (kbit keep) a b (i + 1) ++ a.drop (64 * (i + 1)) = layL l i (sec b i) := by rw [hms, hkb, hmx, if_pos rfl]
        simp -dsimp -implicitDefEqProofs only [↓j4, ↓j8, ↓j15, j17, j18, j20, j24, ↓j25, ↓j27, ↓j29, ↓j38, ↓j43, ↓j53, ↓j63, j116, ↓j129, ↓j130, ↓j137, AV.proj, AV.offOf, j154, j155, j156, j158, reduceCtorEq, ↓reduceIte, Nat.reduceEqDiff, j166, j224, j267, j268, hb1, hdl, hlb]
        refine CallTo.pure (args := [arrAV b, .int .i64 i]) rfl fok19 (by simp -dsimp -implicitDefEqProofs only [↓j25, ↓j29, j157, j158, ↓reduceIte, Nat.reduceEqDiff]) (fun x hx => (args_ai x hx).2) hct ?_
        simp -dsimp -implicitDefEqProofs only [↓j4, j17, j18, j20, j24, ↓j53, j154, j155, j156, j158]
        refine CallTo.pure (args := [arrAV l, .int .i64 i, arrAV (sec b i)]) rfl fok18 (by simp -dsimp -implicitDefEqProofs only [↓j25, ↓j29, j157, j158, ↓reduceIte, Nat.reduceEqDiff]) (fun x hx => (args_aia x hx).2) hly ?_
        simp -dsimp -implicitDefEqProofs only [↓j3, ↓j4, j17, j18, j19, j20, j21, j22, j23, j24, ↓j25, ↓j27, ↓j29, ↓j44, ↓j65, ↓j129, ↓j130, ↓j137, AV.proj, AV.offOf, AV.upd, AV.size, AV.layable, j154, j155, j156, j157, j158, reduceCtorEq, ↓reduceIte, Nat.reduceEqDiff, j166, j224, j267, hdl, hll]
        refine ⟨by kernel_rfl, ?_⟩
        simp -dsimp -implicitDefEqProofs only [↓j0, ↓j1, ↓j7, ↓j15, j17, j18, j20, ↓j25, ↓j29, ↓j30, j33, ↓j38, ↓j39, ↓j48, ↓j76, ↓j129, ↓j130, j138, j155, ↓reduceIte, Nat.reduceEqDiff, j169]
        exact ⟨n - 1, bkSt c d keep (mixP (kbit keep) a b (i + 1) ++ a.drop (64 * (i + 1))) b (i + 1), by omega, ⟨i + 1, by omega, rfl⟩, Wk.sub (by rw [hnx]; simp -dsimp -implicitDefEqProofs only [↓j25, ↓j27, reduceCtorEq, ↓reduceIte, Nat.reduceEqDiff, j166, j186, j187, j188, j189, j207, hw] <;> simp)⟩
      · have hkb : kbit keep i = false := by
          simp only [kbit, decide_eq_false_iff_not]
          intro h; rw [h] at hb1; simp at hb1
        have hnx : mixP (kbit keep) a b (i + 1) ++ a.drop (64 * (i + 1)) = l := by
          rw [hms, hkb, ← hl, hmk]; simp
        simp -dsimp -implicitDefEqProofs only [↓j0, ↓j1, ↓j7, ↓j9, ↓j15, j17, j18, j20, ↓j25, ↓j29, ↓j30, j33, ↓j38, ↓j39, ↓j48, ↓j76, ↓j129, ↓j130, j138, j155, ↓reduceIte, Nat.reduceEqDiff, j169, hb1]
        exact ⟨n - 1, bkSt c d keep (mixP (kbit keep) a b (i + 1) ++ a.drop (64 * (i + 1))) b (i + 1), by omega, ⟨i + 1, by omega, rfl⟩, Wk.sub (by rw [hnx]; simp -dsimp -implicitDefEqProofs only [↓j25, ↓j27, reduceCtorEq, ↓reduceIte, Nat.reduceEqDiff, j166, j186, j187, j188, j189, j207, hw] <;> simp)⟩
    · have hi4 : i = 4 := by omega
      subst hi4
      have hd4 : decide (((4 : Nat) : Int) < 4) = false := rfl
      have hnil : a.drop (64 * 4) = [] := List.drop_eq_nil_of_le (by omega)
      rw [hnil, List.append_nil] at hdl
      have hul := unpack_spec (mixP (kbit keep) a b 4) hdl
      have e16 : (keep : Int).tmod 16 = ((keep % 16 : Nat) : Int) := by rw [Int.tmod_eq_emod_of_nonneg (by omega)]; omega
      have hA : keep % 16 = 0 → mixP (kbit keep) a b 4 = a := fun h => by
        rw [mix_all (x := false) hla hlb 4 (by omega) (kbit0 h)]
        simp only [Bool.false_eq_true, if_false]
        exact List.take_of_length_le (by omega)
      have hB : keep % 16 = 15 → mixP (kbit keep) a b 4 = b := fun h => by
        rw [mix_all (x := true) hla hlb 4 (by omega) (kbit15 h)]
        simp only [if_true]
        exact List.take_of_length_le (by omega)
      have hC : keep % 16 ≠ 0 → keep % 16 ≠ 15 → (unpackP (mixP (kbit keep) a b 4)).2 = true → c.ep = d.ep ∧ c.no = d.no := fun h0 h15 hu => by
        obtain ⟨i, j, hi, hj, hfi, hfj⟩ := kbit_both h0 h15
        have hop : openOk (mixP (kbit keep) a b 4) = true := by
          unfold unpackP at hu
          split at hu
          · simp at hu
          · rename_i hnb
            have hnb' : unpBad (mixP (kbit keep) a b 4) = false := by simpa using hnb
            unfold unpBad at hnb'
            simp only [Bool.or_eq_false_iff, Bool.not_eq_false'] at hnb'
            have h3 := hnb'.1.1.1
            unfold openP at h3
            split at h3
            · assumption
            · simp at h3
        have k1 := hc.ep
        have k2 := hc.no
        have k3 := hd.ep
        have k4 := hd.no
        have l1 : (padP c).length = 224 := padP_len (by simp only [packOk, Bool.and_eq_true, decide_eq_true_eq] at hcO; exact hcO.2)
        have l2 : (padP d).length = 224 := padP_len (by simp only [packOk, Bool.and_eq_true, decide_eq_true_eq] at hdO; exact hdO.2)
        rw [← haE, ← hbE, hpc, hpd] at hop
        have := mix_open (f := kbit keep) (by omega) (by omega) l1 l2 hi hj hfi hfj hop
        omega
      obtain ⟨l, hl⟩ : ∃ l, mixP (kbit keep) a b 4 = l := ⟨_, rfl⟩
      rw [hl] at hdl hul hA hB hC
      rw [hnil, List.append_nil, hl]
      by_cases h0 : keep % 16 = 0
      · have hl2 := hA h0
        subst hl2
        rw [← haE, unpack_pack hc hcO, haE] at hul
        have z0 : (((0 : Nat) : Int) == 0) = true := rfl
        simp -dsimp -implicitDefEqProofs only [↓j0, ↓j1, ↓j7, ↓j11, ↓j12, ↓j13, ↓j15, j17, j18, j20, ↓j25, ↓j27, ↓j29, ↓j30, j33, ↓j38, ↓j43, ↓j48, ↓j53, ↓j63, ↓j76, j116, ↓j129, ↓j130, ↓j132, ↓j133, ↓j137, j143, AV.proj, AV.offOf, j155, reduceCtorEq, ↓reduceIte, Nat.reduceEqDiff, j166, j169, j224, j267, j268, bkSt, hd4, hdl]
        refine CallTo.pure (args := [arrAV l]) rfl fok12 (by simp -dsimp -implicitDefEqProofs only [↓j25, ↓j29, j157, j158, ↓reduceIte]) (fun x hx => (args_arr x hx).2) hul ?_
        simp -dsimp -implicitDefEqProofs only [↓j0, ↓j1, ↓j2, ↓j7, ↓j12, ↓j13, ↓j15, j17, j18, j19, j20, j21, j22, j23, ↓j25, ↓j27, ↓j29, ↓j30, j32, j33, ↓j38, ↓j39, ↓j40, ↓j41, ↓j43, ↓j44, ↓j48, ↓j53, ↓j57, ↓j63, ↓j65, j68, j70, j72, ↓j76, ↓j78, j96, j116, ↓j129, ↓j130, ↓j131, ↓j133, ↓j134, ↓j135, ↓j136, ↓j137, j141, AV.proj, AV.offOf, AV.upd, AV.size, AV.sizeL, AV.layable, AV.flat, AV.flatL, j147, j148, j154, j155, j156, j157, j158, j159, reduceCtorEq, ↓reduceIte, Nat.reduceAdd, Nat.reduceEqDiff, Int.reduceEq, j166, j169, j179, j181, j195, kindOf, j246, j247, j260, j261, j345, e16, h0, z0, hcc]
        refine CallTo.pure (args := []) rfl fok14 rfl nil0 awake_spec ?_
        simp -dsimp -implicitDefEqProofs only [↓j0, ↓j1, ↓j10, j17, j18, j20, ↓j25, ↓j29, ↓j30, j32, ↓j39, ↓j40, j70, ↓j129, j155, ↓reduceIte, Nat.reduceEqDiff]
        exact ret _ _ _ rfl
      by_cases h15 : keep % 16 = 15
      · have hl2 := hB h15
        subst hl2
        rw [← hbE, unpack_pack hd hdO, hbE] at hul
        have z0 : (((15 : Nat) : Int) == 0) = false := rfl
        have z1 : (((15 : Nat) : Int) == 15) = true := rfl
        simp -dsimp -implicitDefEqProofs only [↓j0, ↓j1, ↓j7, ↓j11, ↓j12, ↓j13, ↓j15, j17, j18, j20, ↓j25, ↓j27, ↓j29, ↓j30, j33, ↓j38, ↓j43, ↓j48, ↓j53, ↓j63, ↓j76, j116, ↓j129, ↓j130, ↓j132, ↓j133, ↓j137, j143, AV.proj, AV.offOf, j155, reduceCtorEq, ↓reduceIte, Nat.reduceEqDiff, j166, j169, j224, j267, j268, bkSt, hd4, hdl]
        refine CallTo.pure (args := [arrAV l]) rfl fok12 (by simp -dsimp -implicitDefEqProofs only [↓j25, ↓j29, j157, j158, ↓reduceIte]) (fun x hx => (args_arr x hx).2) hul ?_
        simp -dsimp -implicitDefEqProofs only [↓j0, ↓j1, ↓j2, ↓j7, ↓j12, ↓j13, ↓j15, j17, j18, j19, j20, j21, j22, j23, ↓j25, ↓j27, ↓j29, ↓j30, j32, j33, ↓j38, ↓j39, ↓j40, ↓j41, ↓j43, ↓j44, ↓j48, ↓j53, ↓j57, ↓j63, ↓j65, j69, j70, j72, ↓j76, ↓j78, j96, j116, ↓j129, ↓j130, ↓j131, ↓j132, ↓j133, ↓j134, ↓j135, ↓j137, j141, AV.proj, AV.offOf, AV.upd, AV.size, AV.sizeL, AV.layable, AV.flat, AV.flatL, j147, j148, j154, j155, j156, j157, j158, j159, reduceCtorEq, ↓reduceIte, Nat.reduceAdd, Nat.reduceEqDiff, Int.reduceEq, j166, j169, j179, j181, j195, kindOf, j246, j247, j260, j261, j345, e16, h15, z0, z1, hdd]
        refine CallTo.pure (args := []) rfl fok14 rfl nil0 awake_spec ?_
        simp -dsimp -implicitDefEqProofs only [↓j0, ↓j1, ↓j10, j17, j18, j20, ↓j25, ↓j29, ↓j30, j32, ↓j39, ↓j40, j70, ↓j129, j155, ↓reduceIte, Nat.reduceEqDiff]
        exact ret _ _ _ rfl
      · have z0 : (((keep % 16 : Nat) : Int) == 0) = false := by
          have : ((keep % 16 : Nat) : Int) ≠ 0 := by omega
          simpa using this
        have z1 : (((keep % 16 : Nat) : Int) == 15) = false := by
          have : ((keep % 16 : Nat) : Int) ≠ 15 := by omega
          simpa using this
        have hcd := hC h0 h15
        obtain ⟨⟨y, is⟩, hy⟩ : ∃ r, unpackP l = r := ⟨_, rfl⟩
        rw [hy] at hul hcd
        simp -dsimp -implicitDefEqProofs only [↓j0, ↓j1, ↓j7, ↓j11, ↓j12, ↓j13, ↓j15, j17, j18, j20, ↓j25, ↓j27, ↓j29, ↓j30, j33, ↓j38, ↓j43, ↓j48, ↓j53, ↓j63, ↓j76, j116, ↓j129, ↓j130, ↓j132, ↓j133, ↓j137, j143, AV.proj, AV.offOf, j155, reduceCtorEq, ↓reduceIte, Nat.reduceEqDiff, j166, j169, j224, j267, j268, bkSt, hd4, hdl]
        refine CallTo.pure (args := [arrAV l]) rfl fok12 (by simp -dsimp -implicitDefEqProofs only [↓j25, ↓j29, j157, j158, ↓reduceIte]) (fun x hx => (args_arr x hx).2) hul ?_
        simp -dsimp -implicitDefEqProofs only [↓j0, ↓j1, ↓j2, ↓j7, ↓j9, ↓j12, ↓j13, ↓j15, j17, j18, j19, j20, j21, j22, j23, ↓j25, ↓j27, ↓j29, ↓j30, j32, j33, ↓j38, ↓j39, ↓j40, ↓j41, ↓j44, ↓j48, ↓j55, ↓j57, ↓j65, j70, j71, j72, ↓j76, j96, ↓j129, ↓j130, ↓j132, ↓j133, ↓j135, ↓j137, j141, AV.proj, AV.offOf, AV.upd, AV.size, AV.sizeL, AV.layable, j147, j148, j154, j155, j159, reduceCtorEq, ↓reduceIte, Nat.reduceAdd, Nat.reduceEqDiff, Int.reduceEq, j166, j169, j179, j181, j246, j345, e16, z0, z1]
        cases is
        · simp -dsimp -implicitDefEqProofs only [↓j0, ↓j1, ↓j2, ↓j10, j17, j18, j20, ↓j25, ↓j29, ↓j30, j32, ↓j39, ↓j40, j68, ↓j129, ↓j131, ↓j135, ↓j136, j147, j148, j155, j159, ↓reduceIte, Nat.reduceEqDiff, j178]
          exact ret _ _ _ rfl
        · obtain ⟨q1, q2⟩ := hcd rfl
          have r1 : ((c.ep : Int) == (d.ep : Int)) = true := by rw [q1]; simp
          have r2 : ((c.no : Int) == (d.no : Int)) = true := by rw [q2]; simp
          simp -dsimp -implicitDefEqProofs only [↓j0, ↓j1, ↓j2, ↓j10, j17, j18, j20, ↓j25, ↓j27, ↓j29, ↓j30, j32, ↓j38, ↓j39, ↓j40, ↓j43, ↓j45, ↓j48, ↓j63, ↓j66, j70, ↓j76, j117, ↓j129, ↓j130, ↓j131, ↓j132, ↓j134, ↓j135, ↓j137, j141, AV.proj, AV.offOf, AV.size, AV.sizeL, j147, j148, j150, j151, j155, j159, reduceCtorEq, ↓reduceIte, Nat.reduceEqDiff, j166, j169, j177, j179, j180, j181, j241, j249, j252, r1, r2]
          exact ret _ _ _ rfl
end Go.Proofs.Ytbhhbadeabhfcaa
