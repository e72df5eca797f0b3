/- A block of the log is unpacked. -/
import Derived.Test.YtbhhbadeabhfcaaC4
set_option linter.unusedVariables false
set_option linter.unusedSimpArgs false
namespace Go.Proofs.Ytbhhbadeabhfcaa
open Go Go.RowKit

theorem str_extract (l : List UInt8) (i j : Nat) : (ByteArray.mk l.toArray).extract i j = ByteArray.mk ((l.take j).drop i).toArray := by
  apply ByteArray.ext
  rw [ByteArray.data_extract]
  apply Array.ext'
  simp [List.extract_eq_take_drop, List.drop_take]
theorem openP_len {b : List UInt8} (hb : b.length = 256) : (openP b).2.1.length = 224 := by
  unfold openP
  split
  · exact partsL_len hb 4 (Nat.le_refl _)
  · exact zb_len 224
theorem openP_lt (b : List UInt8) : (openP b).1 < 18446744073709551616 := by
  unfold openP
  split
  · exact stampAt_lt b 0
  · show 0 < _; decide
def unpN (b : List UInt8) : Nat := getL (((openP b).2.1.drop 8).take 2)
def unpBad (b : List UInt8) : Bool := !(openP b).2.2 || decide (unpN b < 1) || decide (214 < unpN b) || ((openP b).2.1.drop (10 + unpN b)).any (· != 0)
def unpackP (b : List UInt8) : Ch × Bool := if unpBad b then (.zero, false) else
  (⟨(openP b).1 / 4294967296, (openP b).1 % 4294967296, getL ((openP b).2.1.take 8), ((openP b).2.1.take (10 + unpN b)).drop 10⟩, true)
abbrev unpackAV (r : Ch × Bool) : AV := .tuple [r.1.av, .bool r.2]
theorem fok32 : fnOk Try.prog 32 = true := by kernel_rfl
theorem fok33 : fnOk Try.prog 33 = true := by kernel_rfl

def unpSt (b p : List UInt8) (stamp d i : Nat) (n : Nat) : St := ⟨66, [(42, .int .i64 i), (41, .int .i64 (224 - d : Nat)), (40, .sl 2 (d * 1) [] d (224 - d) (224 - d) 1), (8, .int .u64 n), (7, .str ⟨p.toArray⟩), (4, .int .u64 stamp), (2, .ptr 1 0 []), (3, .bool false)], [(2, .cells (arrAV p)), (1, .cells (.agg [.int .u32 0, .int .u32 0, .int .u64 0, .str ⟨#[]⟩]))], 3⟩

theorem unpack_spec (b : List UInt8) (hb : b.length = 256) : ACall Try.prog 12 [arrAV b] [] (unpackAV (unpackP b)) [] := by
  refine ACall.run (Z := Z) (N := 66) mixed hZ Try.func12 rfl rfl (by kernel_rfl) (by simp) args_arr 0 ?_
  have fin : ∀ (r : Ch × Bool) (t : Env) (H : Heap) (m : Nat), r = unpackP b → look t 2 = some (.ptr 1 0 []) → look t 3 = some (.bool r.2) → Heap.get H 1 = some (.cells r.1.av) →
      Final Try.prog Try.f12 (unpackAV (unpackP b)) [] .ret ⟨66, t, H, m⟩ := by
    intro r t H m hr h2 h3 h1
    rw [← hr]
    exact Final.many (.inr rfl) (rs := [.cell 2 25, .tmp 3]) (us := [r.1.av, .bool r.2]) rfl ⟨⟨1, 0, [], _, h2, h1, rfl, rfl, by simp -dsimp -implicitDefEqProofs only [j116, AV.size, AV.sizeL, Nat.reduceAdd, j166, j181, j246, j247]⟩, ⟨h3, fun vs h => by cases h⟩, trivial⟩ (by simp) ⟨.same _ (by simp [AV.on, AV.onL]), .same _ trivial, trivial⟩
  have hos := open_spec b hb
  have hpl := openP_len hb
  have hsl := openP_lt b
  have hu : unpackP b = if unpBad b then (.zero, false) else
    (⟨(openP b).1 / 4294967296, (openP b).1 % 4294967296, getL ((openP b).2.1.take 8), ((openP b).2.1.take (10 + unpN b)).drop 10⟩, true) := rfl
  have hub : unpBad b = (!(openP b).2.2 || decide (unpN b < 1) || decide (214 < unpN b) || ((openP b).2.1.drop (10 + unpN b)).any (· != 0)) := rfl
  have hun : unpN b = getL (((openP b).2.1.drop 8).take 2) := rfl
  obtain ⟨n, hn⟩ : ∃ n, unpN b = n := ⟨_, rfl⟩
  rw [hn] at hu hub hun
  obtain ⟨⟨stamp, p, ok⟩, ho⟩ : ∃ r, openP b = r := ⟨_, rfl⟩
  rw [ho] at hos hpl hsl hu hub hun
  simp only at hpl hsl hu hub hun
  have hg2 := get_spec p 8 2 (by omega) (by omega) (by omega)
  have hg8 := get_spec p 0 8 (by omega) (by omega) (by omega)
  rw [← hun] at hg2
  rw [List.drop_zero] at hg8
  have hnl : n < 65536 := by
    have := getL_lt ((p.drop 8).take 2)
    rw [← hun] at this
    have h2 : ((p.drop 8).take 2).length = 2 := by simp; omega
    rw [h2] at this; omega
  have hup := unif_bytes p
  have hbo := bytesOf_bytes p
  have hT : List.take 224 (List.map byteAV p) = List.map byteAV p := List.take_of_length_le (by simp; omega)
  simp -dsimp -implicitDefEqProofs only [↓j0, ↓j1, ↓j7, ↓j12, ↓j15, j17, j18, j20, ↓j25, ↓j27, ↓j29, ↓j30, j32, ↓j39, ↓j41, ↓j42, ↓j43, ↓j53, ↓j63, j116, ↓j129, ↓j130, ↓j137, AV.proj, AV.offOf, AV.layable, argEnv, j154, j155, j156, reduceCtorEq, ↓reduceIte, Nat.reduceAdd, Nat.reduceEqDiff, j166, j180, j224, j267, j268, j345, hb]
  refine CallTo.pure (args := [arrAV b]) rfl fok32 (by simp -dsimp -implicitDefEqProofs only [↓j25, ↓j29, j157, j158, ↓reduceIte]) (fun x hx => (args_arr x hx).2) hos ?_
  simp -dsimp -implicitDefEqProofs only [↓j0, ↓j1, ↓j7, ↓j12, ↓j15, j17, j18, j19, j20, j21, j22, j23, ↓j25, ↓j27, ↓j29, ↓j38, ↓j39, ↓j41, ↓j44, ↓j49, ↓j50, ↓j53, ↓j57, ↓j65, j72, ↓j93, j94, ↓j108, ↓j129, ↓j130, ↓j137, AV.proj, AV.offOf, AV.upd, AV.size, AV.layable, j147, j148, j154, j155, reduceCtorEq, ↓reduceIte, Nat.reduceAdd, Nat.reduceMul, Nat.reduceEqDiff, Int.reduceToNat, j166, j180, j181, j191, j192, j206, j207, j211, bndAV, j216, j217, j218, ↓j222, j224, j239, j329, j331, j338, j359, hpl, zb_len, hup, hbo, hT]
  refine CallTo.pure (args := [.str ⟨p.toArray⟩, .int .i64 ((8 : Nat) : Int), .int .i64 ((2 : Nat) : Int)]) rfl fok33 (by simp -dsimp -implicitDefEqProofs only [↓j25, ↓j29, ↓j30, j33, j157, j158, ↓reduceIte]; rfl) (fun x hx => (args_sii x hx).2) hg2 ?_
  have bad : ∀ (t : Env) (H : Heap) (m : Nat), unpBad b = true → look t 2 = some (.ptr 1 0 []) → look t 3 = some (.bool false) → Heap.get H 1 = some (.cells Ch.zero.av) →
      Final Try.prog Try.f12 (unpackAV (unpackP b)) [] .ret ⟨66, t, H, m⟩ := by
    intro t H m hk h2 h3 h1
    refine fin (.zero, false) t H m ?_ h2 h3 h1
    rw [unpackP, hk]; rfl
  cases ok
  · simp -dsimp -implicitDefEqProofs only [↓j0, ↓j1, ↓j2, ↓j7, ↓j10, ↓j12, ↓j13, ↓j15, j17, j18, j19, j20, j21, j22, j23, ↓j25, ↓j27, ↓j29, ↓j30, j32, ↓j38, ↓j39, ↓j40, ↓j44, ↓j54, ↓j55, ↓j57, ↓j65, j68, j71, j72, ↓j111, j112, j114, ↓j129, ↓j130, ↓j131, ↓j133, ↓j135, ↓j137, partsAV, AV.proj, AV.offOf, AV.upd, AV.size, AV.sizeL, AV.layable, j147, j148, j154, j155, j159, reduceCtorEq, ↓reduceIte, Nat.reduceAdd, Nat.reduceEqDiff, j166, j178, j181, j198, j202, j203, j246, j361]
    refine bad _ _ _ ?_ rfl rfl rfl
    simp [hub]
  simp -dsimp -implicitDefEqProofs only [↓j0, ↓j1, ↓j2, ↓j7, ↓j12, ↓j15, j17, j18, j20, ↓j25, ↓j29, ↓j30, j32, j33, ↓j38, ↓j39, ↓j40, ↓j48, ↓j55, ↓j57, j70, j71, j72, ↓j76, ↓j129, ↓j130, ↓j132, ↓j135, j143, j147, j148, j155, j159, ↓reduceIte, Nat.reduceEqDiff, j169, j177, j179]
  refine ⟨fun h1 => ?_, fun h1 => ?_⟩
  · have h1' := of_decide_eq_true h1
    simp -dsimp -implicitDefEqProofs only [↓j0, ↓j1, ↓j2, ↓j7, ↓j10, ↓j12, ↓j13, ↓j15, j17, j18, j19, j20, j21, j22, j23, ↓j25, ↓j27, ↓j29, ↓j30, j32, ↓j39, ↓j40, ↓j44, ↓j54, ↓j65, j68, ↓j111, j112, j114, ↓j129, ↓j130, ↓j131, ↓j133, ↓j135, ↓j137, partsAV, AV.proj, AV.offOf, AV.upd, AV.size, AV.sizeL, AV.layable, j147, j148, j154, j155, j159, reduceCtorEq, ↓reduceIte, Nat.reduceAdd, Nat.reduceEqDiff, j166, j181, j198, j202, j203, j246, j361, h1]
    refine bad _ _ _ ?_ rfl rfl rfl
    have : n < 1 := by omega
    simp [hub, this]
  have h1' := of_decide_eq_false h1
  simp -dsimp -implicitDefEqProofs only [↓j0, ↓j1, ↓j2, ↓j13, j17, j18, j20, ↓j25, ↓j29, ↓j30, j32, j33, ↓j38, ↓j40, ↓j48, j70, ↓j76, ↓j129, ↓j130, ↓j132, ↓j133, ↓j135, j145, j147, j148, j155, j159, ↓reduceIte, Nat.reduceEqDiff, j169, j179, h1]
  refine ⟨fun h2 => ?_, fun h2 => ?_⟩
  · have h2' := of_decide_eq_true h2
    simp -dsimp -implicitDefEqProofs only [↓j0, ↓j1, ↓j7, ↓j10, ↓j12, ↓j15, j17, j18, j19, j20, j21, j22, j23, ↓j25, ↓j27, ↓j29, ↓j30, j32, ↓j39, ↓j44, ↓j54, ↓j65, ↓j111, j112, j114, ↓j129, ↓j130, ↓j137, partsAV, AV.proj, AV.offOf, AV.upd, AV.size, AV.sizeL, AV.layable, j154, j155, reduceCtorEq, ↓reduceIte, Nat.reduceAdd, Nat.reduceEqDiff, j166, j181, j198, j202, j203, j246, j361, h2]
    refine bad _ _ _ ?_ rfl rfl rfl
    have : 214 < n := by omega
    simp [hub, this]
  have h2' := of_decide_eq_false h2
  obtain ⟨d, hd⟩ : ∃ d, 10 + n = d := ⟨_, rfl⟩
  have w1 : IntKind.u64.wrap (10 + (n : Int)) = (d : Int) := by
    have : (10 : Int) + (n : Int) = ((10 + n : Nat) : Int) := by omega
    rw [this, hd, wrap_u64, Nat.mod_eq_of_lt (by omega)]
  have b1 : (d : Int) ≤ ((224 : Nat) : Int) := by omega
  simp -dsimp -implicitDefEqProofs only [↓j0, ↓j1, ↓j7, ↓j9, ↓j12, ↓j14, ↓j15, ↓j16, j17, j18, j20, ↓j25, ↓j27, ↓j29, ↓j30, j33, ↓j38, ↓j48, ↓j49, ↓j58, ↓j76, j94, j127, ↓j129, ↓j130, ↓j137, j138, AV.proj, AV.offOf, j155, ↓reduceIte, Nat.reduceMul, Nat.reduceEqDiff, j166, j169, j180, j191, j192, bndAV, j216, ↓j222, j224, j331, j407, h2, w1, b1, hpl]
  refine AWp.loopR (Z := Z) mixed hZ (by kernel_rfl) (fun k s => ∃ i, i + k = 224 - d ∧ (∀ j, j < i → p[d + j]? = some 0) ∧ s = unpSt b p stamp d i n) (n0 := 224 - d) (s0 := unpSt b p stamp d 0 n) ?_ ⟨0, by omega, fun j h => by omega, rfl⟩ ?_ rfl
  · exact Wk.sub (by simp -dsimp -implicitDefEqProofs only [↓j25, ↓j27, j163, ↓reduceIte, Nat.reduceEqDiff, j166, j167, j168, j186, j187, j188, j189, j193, j207] <;> simp)
  rintro k s ⟨i, hi, hz, rfl⟩
  refine ⟨rfl, ?_⟩
  rcases Nat.lt_or_ge i (224 - d) with hlt | hge
  · have hdl : decide ((i : Int) < ((224 - d : Nat) : Int)) = true := decide_eq_true (by omega)
    have hil : (i : Int) < ((224 - d : Nat) : Int) := by omega
    obtain ⟨x, hx⟩ := list_get (xs := p) (i := d + i) (by omega)
    have hsz : AV.sizeL ((p.map byteAV).take (d + i)) = d * 1 + i * 1 := by
      rw [(unif_bytes p).sizeL_take (by simp; omega)]; omega
    have w2 : IntKind.i64.wrap ((i : Int) + 1) = ((i + 1 : Nat) : Int) := by rw [wrap_i64 (by omega) (by omega)]; omega
    simp -dsimp -implicitDefEqProofs only [↓j0, ↓j1, ↓j7, ↓j9, ↓j12, ↓j13, ↓j14, ↓j15, j17, j18, j20, ↓j25, ↓j27, ↓j29, ↓j30, j33, ↓j38, ↓j39, ↓j43, ↓j46, ↓j48, ↓j63, ↓j76, ↓j80, j117, ↓j129, ↓j130, ↓j131, ↓j133, ↓j137, j142, j143, AV.proj, AV.offOf, j155, j161, ↓reduceIte, Nat.reduceEqDiff, j166, j169, j175, j181, j190, j191, j192, j235, j336, unpSt, hil, hx, hsz, byteAV]
    refine ⟨fun h3 => ?_, fun h3 => ?_⟩
    · have hx0 : x ≠ 0 := by rintro rfl; simp at h3
      simp -dsimp -implicitDefEqProofs only [↓j0, ↓j1, ↓j7, ↓j10, ↓j12, ↓j15, j17, j18, j19, j20, j21, j22, j23, ↓j25, ↓j27, ↓j29, ↓j30, j32, ↓j39, ↓j44, ↓j54, ↓j65, ↓j111, j112, j114, ↓j129, ↓j130, ↓j137, partsAV, AV.proj, AV.offOf, AV.upd, AV.size, AV.sizeL, AV.layable, j154, j155, ↓reduceIte, Nat.reduceAdd, Nat.reduceEqDiff, j166, j181, j198, j202, j203, j246, j361, h3]
      refine bad _ _ _ ?_ rfl rfl rfl
      have hany : (p.drop (10 + n)).any (· != 0) = true := by
        rw [List.any_eq_true]
        refine ⟨x, List.mem_iff_getElem?.2 ⟨i, ?_⟩, by simpa using hx0⟩
        rw [List.getElem?_drop, hd]; exact hx
      rw [hub, hany]; simp
    · have hx0 : x = 0 := by
        have : (x.toNat : Int) = 0 := by simpa using h3
        exact UInt8.toNat_inj.1 (by simpa using this)
      simp -dsimp -implicitDefEqProofs only [↓j0, ↓j1, ↓j7, ↓j9, ↓j15, j17, j18, j20, ↓j25, ↓j29, ↓j30, j33, ↓j38, ↓j48, ↓j76, ↓j129, ↓j130, j138, j155, ↓reduceIte, Nat.reduceEqDiff, j169, h3]
      exact ⟨k - 1, unpSt b p stamp d (i + 1) n, by omega, ⟨i + 1, by omega, fun j hj => by
        by_cases hji : j = i
        · subst hji; rw [← hx0]; exact hx
        · exact hz j (by omega), rfl⟩, Wk.sub (by simp -dsimp -implicitDefEqProofs only [↓j25, ↓j27, ↓reduceIte, Nat.reduceEqDiff, j166, j186, j187, j188, j189, j207, w2] <;> simp)⟩
  · have hi' : i = 224 - d := by omega
    subst hi'
    have hdl : decide (((224 - d : Nat) : Int) < ((224 - d : Nat) : Int)) = false := decide_eq_false (by omega)
    have hany : (p.drop (10 + n)).any (· != 0) = false := by
      rw [List.any_eq_false]
      intro x hx
      obtain ⟨j, hj⟩ := List.mem_iff_getElem?.1 hx
      rw [List.getElem?_drop, hd] at hj
      have hjl : d + j < p.length := by
        rcases Nat.lt_or_ge (d + j) p.length with h | h
        · exact h
        · rw [List.getElem?_eq_none h] at hj; cases hj
      have := hz j (by omega)
      rw [this] at hj
      cases hj; simp
    have hnb : unpBad b = false := by
      rw [hub, hany]
      have e1 : ¬ n < 1 := by omega
      have e2 : ¬ 214 < n := by omega
      simp [e1, e2]
    have n32 : ((32 : Int) < 0) = False := by simp
    have hsh : bShr .u64 (stamp : Int) 32 = ((stamp / 4294967296 : Nat) : Int) := by
      have := bShr_nat .u64 stamp 32
      rw [show min 32 IntKind.u64.bits = 32 from rfl] at this
      exact this
    have w3 : IntKind.u32.wrap ((stamp / 4294967296 : Nat) : Int) = ((stamp / 4294967296 : Nat) : Int) := by rw [wrap_u32, Nat.mod_eq_of_lt (by omega)]
    have w4 : IntKind.u32.wrap (stamp : Int) = ((stamp % 4294967296 : Nat) : Int) := wrap_u32 stamp
    have b2 : (10 : Int) ≤ (d : Int) := by omega
    have b3 : (d : Int) ≤ (p.length : Int) := by omega
    rw [hnb] at hu
    simp -dsimp -implicitDefEqProofs only [↓j0, ↓j1, ↓j7, ↓j11, ↓j12, ↓j13, ↓j15, j17, j18, j20, ↓j25, ↓j29, ↓j38, ↓j48, ↓j53, ↓j76, ↓j129, ↓j130, ↓j132, ↓j133, j143, j155, ↓reduceIte, Nat.reduceEqDiff, j169, unpSt, hdl]
    refine CallTo.pure (args := [.str ⟨p.toArray⟩, .int .i64 ((0 : Nat) : Int), .int .i64 ((8 : Nat) : Int)]) rfl fok33 (by simp -dsimp -implicitDefEqProofs only [↓j25, ↓j29, ↓j30, j33, j157, j158, ↓reduceIte]; rfl) (fun x hx => (args_sii x hx).2) hg8 ?_
    simp -dsimp -implicitDefEqProofs only [↓j0, ↓j1, ↓j7, ↓j10, ↓j12, ↓j15, j17, j18, j19, j20, j21, j22, j23, ↓j25, ↓j27, ↓j29, ↓j30, j32, j33, ↓j38, ↓j39, ↓j44, ↓j48, ↓j49, ↓j50, ↓j54, ↓j57, ↓j65, j72, ↓j76, ↓j84, j101, j106, ↓j111, j112, j113, j114, j115, ↓j129, ↓j130, ↓j137, j138, partsAV, AV.proj, AV.offOf, AV.upd, AV.size, AV.sizeL, AV.layable, j147, j148, j150, j151, j152, j153, j154, j155, j163, j164, ↓reduceIte, Nat.reduceAdd, Nat.reduceEqDiff, Int.reduceLE, Int.reduceToNat, j166, j167, j169, j170, j181, j191, j197, j198, j199, j200, j201, ↓j209, bndAV, j239, j242, j246, j250, j253, j256, j259, j361, j391, n32, hsh, w1, w3, w4, str_bytes, b2, b3, str_extract]
    refine fin _ _ _ _ hu.symm rfl rfl ?_
    rw [← hd]; rfl
end Go.Proofs.Ytbhhbadeabhfcaa
