/- The document's Unpack. -/
import Derived.Test.YtbhhbadeabhfcaaC20
set_option linter.unusedVariables false
set_option linter.unusedSimpArgs false
namespace Go.Proofs.Ytbhhbadeabhfcaa
open Go Go.RowKit

def unpC (stamp : Nat) (p : List UInt8) (n : Nat) : Ch := ⟨stamp / 4294967296, stamp % 4294967296, getL (p.take 8), (p.take (10 + n)).drop 10⟩
theorem unpC_wf {stamp : Nat} (p : List UInt8) {n : Nat} (h : stamp < 18446744073709551616) (hn : n ≤ 214) : (unpC stamp p n).Wf := by
  refine ⟨?_, ?_, ?_, ?_⟩
  · show stamp / 4294967296 < 4294967296; omega
  · show stamp % 4294967296 < 4294967296; omega
  · have h1 := getL_lt (p.take 8)
    refine Nat.lt_of_lt_of_le h1 ?_
    have h2 := List.length_take_le 8 p
    exact Nat.pow_le_pow_right (i := 8 * (p.take 8).length) (j := 64) (show 0 < 2 by decide) (by omega)
  · show ((p.take (10 + n)).drop 10).length ≤ _
    rw [List.length_drop, List.length_take]; omega
theorem repack {b : List UInt8} (hb : b.length = 256) (h : unpBad b = false) : packOk (unpackP b).1 = true ∧ packP (unpackP b).1 = b := by
  have hu : unpackP b = (unpC (openP b).1 (openP b).2.1 (unpN b), true) := by rw [unpackP, h]; rfl
  have hpl := openP_len hb
  have hsl := openP_lt b
  rw [hu]
  have h' := h
  simp only [unpBad, Bool.or_eq_false_iff, Bool.not_eq_false', decide_eq_false_iff_not] at h'
  obtain ⟨⟨⟨h1, h2⟩, h3⟩, h4⟩ := h'
  obtain ⟨n, hn⟩ : ∃ n, unpN b = n := ⟨_, rfl⟩
  have hun : unpN b = getL (((openP b).2.1.drop 8).take 2) := rfl
  rw [hn] at h2 h3 h4 hun ⊢
  have hso : sealL (openP b).1 (openP b).2.1 4 = b := by
    have hk : openOk b = true := by
      unfold openP at h1
      split at h1
      · assumption
      · cases h1
    have := openP_eq hb
    rw [hk, beq_iff_eq] at this
    rw [openP, hk]
    exact this
  obtain ⟨⟨stamp, p, ok⟩, ho⟩ : ∃ r, openP b = r := ⟨_, rfl⟩
  rw [ho] at hpl hsl h4 hun hso ⊢
  simp only at hpl hsl h4 hun hso ⊢
  have hby : ((p.take (10 + n)).drop 10).length = n := by rw [List.length_drop, List.length_take]; omega
  have hok : packOk (unpC stamp p n) = true := by
    show (decide (1 ≤ ((p.take (10 + n)).drop 10).length) && decide (((p.take (10 + n)).drop 10).length ≤ 214)) = true
    rw [hby]; simp; omega
  refine ⟨hok, ?_⟩
  have hz : p.drop (10 + n) = zb (214 - n) := by
    have : ∀ x, x ∈ p.drop (10 + n) → x = 0 := fun x hx => by
      have := List.any_eq_false.1 h4 x hx
      simpa using this
    rw [zb]
    have hl : (p.drop (10 + n)).length = 214 - n := by rw [List.length_drop]; omega
    rw [← hl]
    exact List.eq_replicate_of_mem this
  have e8 : putL (getL (p.take 8)) 8 = p.take 8 := by
    have := put_get (l := p.take 8)
    rwa [show (p.take 8).length = 8 by rw [List.length_take]; omega] at this
  have e2 : putL n 2 = (p.drop 8).take 2 := by
    have := put_get (l := (p.drop 8).take 2)
    rwa [show ((p.drop 8).take 2).length = 2 by rw [List.length_take, List.length_drop]; omega, ← hun] at this
  have hpad : padP (unpC stamp p n) = p := by
    show (putL (getL (p.take 8)) 8 ++ (putL ((p.take (10 + n)).drop 10).length 2 ++ (p.take (10 + n)).drop 10)) ++ zb (214 - ((p.take (10 + n)).drop 10).length) = p
    rw [hby, e8, e2, ← hz]
    have a1 : (p.take (10 + n)).drop 10 = (p.drop 10).take n := by rw [List.drop_take]; congr 1; omega
    rw [a1]
    have a2 : (p.drop 8).take 2 ++ (p.drop 10).take n = (p.drop 8).take (2 + n) := by
      rw [List.take_add, List.drop_drop]
    have a3 : p.take 8 ++ (p.drop 8).take (2 + n) = p.take (10 + n) := by
      rw [← List.take_add]; congr 1; omega
    rw [a2, a3, List.take_append_drop]
  rw [packP, hok, if_pos rfl, hpad]
  show sealL (stamp / 4294967296 * 4294967296 + stamp % 4294967296) p 4 = b
  rw [show stamp / 4294967296 * 4294967296 + stamp % 4294967296 = stamp by omega]
  exact hso
theorem fok34 : fnOk Try.prog 34 = true := by kernel_rfl
theorem fok35 : fnOk Try.prog 35 = true := by kernel_rfl
theorem fok11 : fnOk Try.prog 11 = true := by kernel_rfl

theorem runpack_spec (b : List UInt8) (hb : b.length = 256) : ACall Try.prog 13 [arrAV b] [] (unpackAV (unpackP b)) [] := by
  refine ACall.run (Z := Z) (N := 64) mixed hZ Try.func13 rfl rfl (by kernel_rfl) (by simp) args_arr 0 ?_
  have fin : ∀ (r : Ch × Bool) (t : Env) (H : Heap) (m : Nat), unpackP b = r → look t 2 = some (.ptr 1 0 []) → look t 3 = some (.bool r.2) → Heap.get H 1 = some (.cells r.1.av) →
      Final Try.prog Try.f13 (unpackAV (unpackP b)) [] .ret ⟨64, t, H, m⟩ := by
    intro r t H m hr h2 h3 h1
    rw [hr]
    exact Final.many (.inr rfl) (rs := [.cell 2 25, .tmp 3]) (us := [r.1.av, .bool r.2]) rfl ⟨⟨1, 0, [], _, h2, h1, rfl, rfl, by simp -dsimp -implicitDefEqProofs only [j116, AV.size, AV.sizeL, Nat.reduceAdd, j166, j181, j246, j247]⟩, ⟨h3, fun vs h => by cases h⟩, trivial⟩ (by simp) ⟨.same _ (by simp [AV.on, AV.onL]), .same _ trivial, trivial⟩
  have bad : ∀ (t : Env) (H : Heap) (m : Nat), unpBad b = true → look t 2 = some (.ptr 1 0 []) → look t 3 = some (.bool false) → Heap.get H 1 = some (.cells Ch.zero.av) →
      Final Try.prog Try.f13 (unpackAV (unpackP b)) [] .ret ⟨64, t, H, m⟩ := by
    intro t H m hk h2 h3 h1
    refine fin (.zero, false) t H m ?_ h2 h3 h1
    rw [unpackP, hk]; rfl
  have hos := ropen_spec b hb
  have hpl := openP_len hb
  have hsl := openP_lt b
  have hrp := repack hb
  have hu : unpackP b = if unpBad b then (.zero, false) else (unpC (openP b).1 (openP b).2.1 (unpN b), true) := rfl
  have hub : unpBad b = (!(openP b).2.2 || decide (unpN b < 1) || decide (214 < unpN b) || ((openP b).2.1.drop (10 + unpN b)).any (· != 0)) := rfl
  have hun : unpN b = getL (((openP b).2.1.drop 8).take 2) := rfl
  obtain ⟨n, hn⟩ : ∃ n, unpN b = n := ⟨_, rfl⟩
  rw [hn] at hu hub hun
  obtain ⟨⟨stamp, p, ok⟩, ho⟩ : ∃ r, openP b = r := ⟨_, rfl⟩
  rw [ho] at hos hpl hsl hu hub hun
  simp only at hpl hsl hu hub hun
  have hg2 := rget_spec p 8 2 (by omega) (by omega) (by omega)
  have hg8 := rget_spec p 0 8 (by omega) (by omega) (by omega)
  rw [← hun] at hg2
  rw [List.drop_zero] at hg8
  have hnl : n < 65536 := by
    have := getL_lt ((p.drop 8).take 2)
    rw [← hun] at this
    have h2 : ((p.drop 8).take 2).length = 2 := by simp; omega
    rw [h2] at this; omega
  have hup := unif_bytes p
  have hbo := bytesOf_bytes p
  have hT : List.take 224 (List.map byteAV p) = List.map byteAV p := List.take_of_length_le (by simp; omega)
  simp -dsimp -implicitDefEqProofs only [↓j0, ↓j1, ↓j7, ↓j12, ↓j15, j17, j18, j20, ↓j25, ↓j27, ↓j29, ↓j30, j32, ↓j39, ↓j41, ↓j42, ↓j43, ↓j53, ↓j63, j116, ↓j129, ↓j130, ↓j137, AV.proj, AV.offOf, AV.layable, argEnv, j154, j155, j156, reduceCtorEq, ↓reduceIte, Nat.reduceAdd, Nat.reduceEqDiff, j166, j180, j224, j267, j268, j345, hb]
  refine CallTo.pure (args := [arrAV b]) rfl fok34 (by simp -dsimp -implicitDefEqProofs only [↓j25, ↓j29, j157, j158, ↓reduceIte]) (fun x hx => (args_arr x hx).2) hos ?_
  simp -dsimp -implicitDefEqProofs only [↓j0, ↓j1, ↓j7, ↓j12, ↓j13, ↓j15, j17, j18, j19, j20, j21, j22, j23, ↓j25, ↓j27, ↓j29, ↓j38, ↓j39, ↓j41, ↓j44, ↓j55, ↓j57, ↓j65, j71, j72, ↓j129, ↓j130, ↓j133, ↓j137, AV.proj, AV.offOf, AV.upd, AV.size, AV.layable, j147, j148, j154, j155, reduceCtorEq, ↓reduceIte, Nat.reduceAdd, Nat.reduceEqDiff, j166, j224, j324, j358, hpl, zb_len]
  cases ok
  · simp -dsimp -implicitDefEqProofs only [↓j0, ↓j1, ↓j7, ↓j10, ↓j12, ↓j15, j17, j18, j19, j20, j21, j22, j23, ↓j25, ↓j27, ↓j29, ↓j30, j32, ↓j39, ↓j44, ↓j54, ↓j65, ↓j111, j112, j114, ↓j129, ↓j130, ↓j131, ↓j137, partsAV, AV.proj, AV.offOf, AV.upd, AV.size, AV.sizeL, AV.layable, j154, j155, reduceCtorEq, ↓reduceIte, Nat.reduceAdd, Nat.reduceEqDiff, j166, j178, j181, j198, j202, j203, j246, j361]
    refine bad _ _ _ ?_ rfl rfl rfl
    simp [hub]
  simp -dsimp -implicitDefEqProofs only [↓j1, ↓j7, ↓j9, ↓j12, ↓j15, j17, j18, j20, ↓j25, ↓j27, ↓j29, ↓j49, ↓j50, ↓j53, ↓j93, j94, ↓j108, ↓j129, ↓j130, ↓j132, ↓j137, AV.proj, AV.offOf, j155, ↓reduceIte, Nat.reduceMul, Nat.reduceEqDiff, Int.reduceToNat, j166, j177, j180, j181, j191, j192, j206, j207, j211, bndAV, j216, j217, j218, ↓j222, j224, j239, j326, j338, hpl, hup, hbo, hT]
  refine CallTo.pure (args := [.str ⟨p.toArray⟩, .int .i64 ((0 : Nat) : Int), .int .i64 ((8 : Nat) : Int)]) rfl fok35 (by simp -dsimp -implicitDefEqProofs only [↓j25, ↓j29, ↓j30, j33, j157, j158, ↓reduceIte]; rfl) (fun x hx => (args_sii x hx).2) hg8 ?_
  simp -dsimp -implicitDefEqProofs only [↓j0, ↓j1, ↓j7, ↓j12, ↓j15, j17, j18, j20, ↓j25, ↓j27, ↓j29, ↓j38, ↓j39, ↓j49, ↓j50, ↓j53, ↓j57, j72, ↓j93, j94, ↓j108, ↓j129, ↓j130, ↓j137, AV.proj, AV.offOf, j147, j148, j155, ↓reduceIte, Nat.reduceMul, Nat.reduceEqDiff, Int.reduceToNat, j166, j180, j181, j191, j192, j206, j207, j211, bndAV, j216, j217, j218, ↓j222, j224, j239, j326, j338, hpl, hup, hbo, hT]
  refine CallTo.pure (args := [.str ⟨p.toArray⟩, .int .i64 ((8 : Nat) : Int), .int .i64 ((2 : Nat) : Int)]) rfl fok35 (by simp -dsimp -implicitDefEqProofs only [↓j25, ↓j29, ↓j30, j33, j157, j158, ↓reduceIte]; rfl) (fun x hx => (args_sii x hx).2) hg2 ?_
  simp -dsimp -implicitDefEqProofs only [↓j0, ↓j1, ↓j7, ↓j12, ↓j13, ↓j15, j17, j18, j20, ↓j25, ↓j29, ↓j30, j33, ↓j38, ↓j39, ↓j48, ↓j57, j72, ↓j76, ↓j129, ↓j130, ↓j133, j145, j147, j148, j155, ↓reduceIte, Nat.reduceEqDiff, j169]
  refine ⟨fun h2 => ?_, fun h2 => ?_⟩
  · have h2' := of_decide_eq_true h2
    simp -dsimp -implicitDefEqProofs only [↓j0, ↓j1, ↓j7, ↓j10, ↓j12, ↓j15, j17, j18, j19, j20, j21, j22, j23, ↓j25, ↓j27, ↓j29, ↓j30, j32, ↓j39, ↓j44, ↓j54, ↓j65, ↓j111, j112, j114, ↓j129, ↓j130, ↓j137, partsAV, AV.proj, AV.offOf, AV.upd, AV.size, AV.sizeL, AV.layable, j154, j155, reduceCtorEq, ↓reduceIte, Nat.reduceAdd, Nat.reduceEqDiff, j166, j181, j198, j202, j203, j246, j361, h2]
    refine bad _ _ _ ?_ rfl rfl rfl
    have : 214 < n := by omega
    simp [hub, this]
  have h2' := of_decide_eq_false h2
  obtain ⟨d, hd⟩ : ∃ d, 10 + n = d := ⟨_, rfl⟩
  have w1 : IntKind.u64.wrap (10 + (n : Int)) = (d : Int) := by
    have : (10 : Int) + (n : Int) = ((10 + n : Nat) : Int) := by omega
    rw [this, hd, wrap_u64, Nat.mod_eq_of_lt (by omega)]
  have b1 : (d : Int) ≤ ((224 : Nat) : Int) := by omega
  have b2 : (10 : Int) ≤ (d : Int) := by omega
  have v1 : IntKind.u64.wrap ((stamp : Int).tdiv 4294967296) = ((stamp / 4294967296 : Nat) : Int) := by
    rw [Int.tdiv_eq_ediv_of_nonneg (by omega), show (stamp : Int) / 4294967296 = ((stamp / 4294967296 : Nat) : Int) by omega, wrap_u64, Nat.mod_eq_of_lt (by omega)]
  have v2 : (stamp : Int).tmod 4294967296 = ((stamp % 4294967296 : Nat) : Int) := by rw [Int.tmod_eq_emod_of_nonneg (by omega)]; omega
  have v3 : IntKind.u32.wrap ((stamp / 4294967296 : Nat) : Int) = ((stamp / 4294967296 : Nat) : Int) := by rw [wrap_u32, Nat.mod_eq_of_lt (by omega)]
  have v4 : IntKind.u32.wrap ((stamp % 4294967296 : Nat) : Int) = ((stamp % 4294967296 : Nat) : Int) := by rw [wrap_u32, Nat.mod_eq_of_lt (by omega)]
  have b4 : 10 ≤ d := by omega
  have b5 : d ≤ 224 := by omega
  have hT2 : List.take (d - 10) (List.drop 10 (p.map byteAV)) = ((p.take d).drop 10).map byteAV := by
    rw [← List.map_drop, ← List.map_take, List.drop_take]
  have hbo2 := bytesOf_bytes ((p.take d).drop 10)
  have b6 : 10 + (d - 10) ≤ 224 := by omega
  simp -dsimp -implicitDefEqProofs only [↓j0, ↓j1, ↓j7, ↓j9, ↓j12, ↓j15, j17, j18, j19, j20, j21, j22, j23, ↓j25, ↓j27, ↓j29, ↓j30, j33, ↓j38, ↓j41, ↓j43, ↓j44, ↓j48, ↓j49, ↓j50, ↓j53, ↓j54, ↓j63, ↓j65, ↓j76, ↓j93, j94, j95, j96, ↓j108, ↓j111, j112, j113, j114, j115, j116, ↓j129, ↓j130, ↓j137, j138, partsAV, AV.proj, AV.offOf, AV.upd, AV.size, AV.sizeL, AV.layable, j147, j148, j150, j151, j152, j153, j154, j155, j163, j164, reduceCtorEq, ↓reduceIte, Nat.reduceAdd, Nat.reduceMul, Nat.reduceEqDiff, Nat.reduceSub, Int.reduceLE, Int.reduceEq, Int.reduceToNat, j166, j167, j169, j180, j181, j191, j197, j198, j199, j200, j201, j206, ↓j209, bndAV, ↓j222, j224, j239, j242, j246, j247, j250, j253, j256, j259, j326, j338, j345, j361, j391, h2, w1, b1, b2, b6, v1, v2, v3, v4, hpl, hup, hT2, hbo2]
  have hcw := unpC_wf p hsl (n := n) (by omega)
  have hcd : (⟨stamp / 4294967296, stamp % 4294967296, getL (p.take 8), (p.take d).drop 10⟩ : Ch) = unpC stamp p n := by rw [← hd]; rfl
  have hps0 := rpack_spec _ hcw
  have hup2 := unpack_pack hcw
  obtain ⟨l, hl⟩ : ∃ l, packP (unpC stamp p n) = l := ⟨_, rfl⟩
  obtain ⟨k, hk⟩ : ∃ k, packOk (unpC stamp p n) = k := ⟨_, rfl⟩
  have hll : l.length = 256 := by rw [← hl]; exact packP_len _
  have hps : ACall Try.prog 11 [.agg [.int .u32 (stamp / 4294967296 : Nat), .int .u32 (stamp % 4294967296 : Nat), .int .u64 (getL (p.take 8)), .str ⟨((p.take d).drop 10).toArray⟩]] [] (.tuple [arrAV l, .bool k]) [] := by
    rw [← hl, ← hk, ← hd]; exact hps0
  have hce := cellsEq_bytes (l := l) (k := b) (by omega)
  have hkb := kinds_bytes hll
  have hz := zb_len 256
  refine CallTo.pure (args := [.agg [.int .u32 (stamp / 4294967296 : Nat), .int .u32 (stamp % 4294967296 : Nat), .int .u64 (getL (p.take 8)), .str ⟨((p.take d).drop 10).toArray⟩]]) rfl fok11 (by simp -dsimp -implicitDefEqProofs only [↓j25, ↓j29, j157, j158, ↓reduceIte]) (fun x hx => (args_ch (c := ⟨stamp / 4294967296, stamp % 4294967296, getL (p.take 8), (p.take d).drop 10⟩) x hx).2) hps ?_
  rw [hl, hk] at hup2
  have stay : ∀ r : Bool, (k && l == b) = r → unpBad b = !r := fun r hr => by
    cases hb2 : unpBad b with
    | false =>
      have h3 := hrp hb2
      rw [hb2] at hu
      rw [show unpackP b = (unpC stamp p n, true) from hu] at h3
      rw [← hr]
      have h4 : k = true := by rw [← hk]; exact h3.1
      have h5 : l = b := by rw [← hl]; exact h3.2
      simp [h4, h5]
    | true =>
      cases r with
      | false => rfl
      | true =>
        simp only [Bool.and_eq_true, beq_iff_eq] at hr
        have h3 := hup2 hr.1
        rw [hr.2, unpackP, hb2] at h3
        have h4 := congrArg (fun r => r.2) h3
        cases h4
  cases k
  · simp -dsimp -implicitDefEqProofs only [↓j0, ↓j1, ↓j2, ↓j7, ↓j10, ↓j12, ↓j13, ↓j15, j17, j18, j19, j20, j21, j22, j23, ↓j25, ↓j27, ↓j29, ↓j30, j32, ↓j38, ↓j39, ↓j40, ↓j41, ↓j44, ↓j54, ↓j55, ↓j57, ↓j65, j68, j71, j72, ↓j111, j112, j114, ↓j129, ↓j130, ↓j131, ↓j133, ↓j135, ↓j137, partsAV, AV.proj, AV.offOf, AV.upd, AV.size, AV.sizeL, AV.layable, j147, j148, j154, j155, j159, reduceCtorEq, ↓reduceIte, Nat.reduceAdd, Nat.reduceEqDiff, j166, j178, j181, j198, j202, j203, j224, j246, j267, j347, j361, hll, hz]
    exact bad _ _ _ (stay false rfl) rfl rfl rfl
  simp -dsimp -implicitDefEqProofs only [↓j0, ↓j1, ↓j2, ↓j7, ↓j12, ↓j13, ↓j15, j17, j18, j19, j20, j21, j22, j23, ↓j25, ↓j27, ↓j29, ↓j30, j32, ↓j38, ↓j39, ↓j40, ↓j41, ↓j43, ↓j44, ↓j48, ↓j55, ↓j57, ↓j63, ↓j65, j70, j71, j72, ↓j78, j116, ↓j129, ↓j130, ↓j132, ↓j133, ↓j135, ↓j137, AV.proj, AV.offOf, AV.upd, AV.size, AV.layable, j147, j148, j154, j155, j159, reduceCtorEq, ↓reduceIte, Nat.reduceAdd, Nat.reduceEqDiff, j166, j177, j179, j196, j224, j225, j267, j268, j270, j271, j347, hll, hz, hb, hce, hkb]
  obtain ⟨e, he⟩ : ∃ e, (l == b) = e := ⟨_, rfl⟩
  rw [he]
  have hst := stay e (by rw [he]; rfl)
  cases e
  · simp -dsimp -implicitDefEqProofs only [↓j0, ↓j1, ↓j7, ↓j10, ↓j12, ↓j15, j17, j18, j19, j20, j21, j22, j23, ↓j25, ↓j27, ↓j29, ↓j30, j32, ↓j39, ↓j44, ↓j54, ↓j65, ↓j111, j112, j114, ↓j129, ↓j130, ↓j131, ↓j137, partsAV, AV.proj, AV.offOf, AV.upd, AV.size, AV.sizeL, AV.layable, j154, j155, reduceCtorEq, ↓reduceIte, Nat.reduceAdd, Nat.reduceEqDiff, j166, j178, j181, j198, j202, j203, j246, j361]
    exact bad _ _ _ hst rfl rfl rfl
  · simp -dsimp -implicitDefEqProofs only [↓j0, ↓j1, ↓j7, ↓j9, ↓j10, ↓j12, ↓j15, j17, j18, j19, j20, j21, j22, j23, ↓j25, ↓j27, ↓j29, ↓j30, j32, ↓j39, ↓j43, ↓j44, ↓j63, ↓j65, j116, ↓j129, ↓j130, ↓j132, ↓j137, AV.proj, AV.offOf, AV.upd, AV.size, AV.sizeL, AV.layable, j154, j155, reduceCtorEq, ↓reduceIte, Nat.reduceAdd, Nat.reduceEqDiff, j166, j177, j181, j246, j247]
    refine fin (⟨stamp / 4294967296, stamp % 4294967296, getL (p.take 8), (p.take d).drop 10⟩, true) _ _ _ ?_ rfl rfl rfl
    rw [hu, hst, hcd]; rfl
end Go.Proofs.Ytbhhbadeabhfcaa
