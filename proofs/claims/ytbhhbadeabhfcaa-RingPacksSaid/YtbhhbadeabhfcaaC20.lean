/- The document's Pack. -/
import Derived.Test.YtbhhbadeabhfcaaC12
import Derived.Test.YtbhhbadeabhfcaaC19
set_option linter.unusedVariables false
set_option linter.unusedSimpArgs false
namespace Go.Proofs.Ytbhhbadeabhfcaa
open Go Go.RowKit

abbrev rpackAV (c : Ch) : AV := .tuple [arrAV (packP c), .bool (packOk c)]
def txP (c : Ch) : List UInt8 := putL c.off 8 ++ putL c.by_.length 2 ++ c.by_
theorem txP_len (c : Ch) : (txP c).length = 10 + c.by_.length := by
  simp only [txP, List.length_append, putL_len]
theorem padP_tx (c : Ch) : padP c = txP c ++ zb (214 - c.by_.length) := by simp [padP, txP]
theorem tx_end {c : Ch} (h : c.by_.length ≤ 214) : (txP c).take (10 + c.by_.length) ++ zb (224 - (10 + c.by_.length)) = padP c := by
  rw [List.take_of_length_le (by rw [txP_len]; omega), padP_tx]
  congr 2; omega
def rpkSt (c : Ch) (s l : List UInt8) (i : Nat) : St := ⟨50, [(6, .int .i64 i), (5, .ptr 2 0 []), (4, .str ⟨s.toArray⟩), (1, .ptr 0 0 []), (2, .ptr 1 0 []), (3, .bool false)], [(2, .cells (arrAV l)), (0, .cells c.av), (1, .cells (arrAV (zb 256)))], 3⟩

theorem rpack_spec (c : Ch) (hc : c.Wf) : ACall Try.prog 11 [c.av] [] (rpackAV c) [] := by
  refine ACall.run (Z := Z) (N := 50) mixed hZ Try.func11 rfl rfl (by kernel_rfl) (by simp) args_ch 0 ?_
  have hz := zb_len 256
  have hz2 := zb_len 224
  have fin0 : ∀ (t : Env) (H : Heap) (m : Nat), packOk c = false → look t 2 = some (.ptr 1 0 []) → look t 3 = some (.bool false) → Heap.get H 1 = some (.cells (arrAV (zb 256))) →
      Final Try.prog Try.f11 (rpackAV c) [] .ret ⟨50, t, H, m⟩ := by
    intro t H m hk h2 h3 h1
    have e : packP c = zb 256 := by rw [packP, hk]; rfl
    rw [rpackAV, e, hk]
    exact Final.many (.inr rfl) (rs := [.cell 2 27, .tmp 3]) (us := [arrAV (zb 256), .bool false]) rfl ⟨⟨1, 0, [], _, h2, h1, rfl, rfl, by simp -dsimp -implicitDefEqProofs only [j116, j166, j224, j267, j268, hz]⟩, ⟨h3, fun vs h => by cases h⟩, trivial⟩ (by simp) ⟨.same _ (on_bytes _ _), .same _ trivial, trivial⟩
  have he0 := str_nil c.by_
  simp -dsimp -implicitDefEqProofs only [↓j0, ↓j1, ↓j2, ↓j7, ↓j12, ↓j15, j17, j18, j20, ↓j25, ↓j27, ↓j29, ↓j30, j32, j34, ↓j38, ↓j39, ↓j41, ↓j42, ↓j43, ↓j45, ↓j48, ↓j63, ↓j66, j102, ↓j107, j119, ↓j129, ↓j130, ↓j135, ↓j137, AV.proj, AV.offOf, AV.size, AV.sizeL, AV.layable, argEnv, j147, j148, j150, j151, j154, j155, j156, j159, reduceCtorEq, ↓reduceIte, Nat.reduceAdd, Nat.reduceEqDiff, j166, j180, j181, j238, j258, j347, he0]
  refine ⟨fun h1 => ?_, fun h1 => ?_⟩
  · have h1' := of_decide_eq_true h1
    simp -dsimp -implicitDefEqProofs only [↓j0, ↓j1, ↓j2, ↓j7, ↓j10, ↓j12, ↓j13, ↓j15, j17, j18, j19, j20, j21, j22, j23, ↓j25, ↓j27, ↓j29, ↓j30, j32, ↓j39, ↓j40, ↓j44, ↓j54, ↓j65, j68, ↓j111, j112, j114, ↓j129, ↓j130, ↓j131, ↓j133, ↓j135, ↓j137, partsAV, AV.proj, AV.offOf, AV.upd, AV.size, AV.layable, j147, j148, j154, j155, j159, reduceCtorEq, ↓reduceIte, Nat.reduceEqDiff, j166, j198, j202, j203, j224, j267, j363, h1, hz]
    refine fin0 _ _ _ ?_ rfl rfl rfl
    simp [packOk, h1']
  have h1' := of_decide_eq_false h1
  simp -dsimp -implicitDefEqProofs only [↓j0, ↓j1, ↓j2, ↓j13, j17, j18, j20, ↓j25, ↓j27, ↓j29, ↓j30, j32, j33, ↓j40, ↓j43, ↓j45, ↓j48, ↓j58, ↓j63, ↓j66, j70, ↓j76, j119, j125, ↓j129, ↓j130, ↓j132, ↓j133, ↓j135, ↓j137, j145, AV.proj, AV.offOf, AV.size, AV.sizeL, j147, j148, j150, j151, j155, j159, reduceCtorEq, ↓reduceIte, Nat.reduceAdd, Nat.reduceEqDiff, j166, j169, j179, j180, j181, j238, j239, j258, h1, str_bytes]
  refine ⟨fun h2 => ?_, fun h2 => ?_⟩
  · have h2' := of_decide_eq_true h2
    simp -dsimp -implicitDefEqProofs only [↓j0, ↓j1, ↓j7, ↓j10, ↓j12, ↓j15, j17, j18, j19, j20, j21, j22, j23, ↓j25, ↓j27, ↓j29, ↓j30, j32, ↓j39, ↓j44, ↓j54, ↓j65, ↓j111, j112, j114, ↓j129, ↓j130, ↓j137, partsAV, AV.proj, AV.offOf, AV.upd, AV.size, AV.layable, j154, j155, reduceCtorEq, ↓reduceIte, Nat.reduceEqDiff, j166, j198, j202, j203, j224, j267, j363, h2, hz]
    refine fin0 _ _ _ ?_ rfl rfl rfl
    simp [packOk]; omega
  have h2' := of_decide_eq_false h2
  have hlen : c.by_.length ≤ 214 := by omega
  have hok : packOk c = true := by simp [packOk]; omega
  have hp1 := rput_spec c.off 8 hc.off (by omega)
  have hp2 := rput_spec c.by_.length 2 (by omega) (by omega)
  have w1 : IntKind.u64.wrap (c.by_.length : Int) = (c.by_.length : Int) := by rw [wrap_u64, Nat.mod_eq_of_lt (by omega)]
  simp -dsimp -implicitDefEqProofs only [↓j4, ↓j8, ↓j9, ↓j12, ↓j15, j17, j18, j20, j24, ↓j25, ↓j27, ↓j29, ↓j43, ↓j45, ↓j53, ↓j63, ↓j66, j117, ↓j129, ↓j130, ↓j137, AV.proj, AV.offOf, AV.size, AV.sizeL, j147, j148, j150, j151, j154, j155, j156, j158, reduceCtorEq, ↓reduceIte, Nat.reduceAdd, Nat.reduceEqDiff, j166, j180, j181, j244, j255, h2]
  refine CallTo.pure (args := [.int .u64 c.off, .int .i64 ((8 : Nat) : Int)]) rfl fok30 (by simp -dsimp -implicitDefEqProofs only [↓j25, ↓j29, ↓j30, j33, j157, j158, ↓reduceIte]; rfl) (notup (fun vs h => by cases h) fun vs h => by cases h) hp1 ?_
  simp -dsimp -implicitDefEqProofs only [↓j4, j17, j18, j20, j24, ↓j25, ↓j27, ↓j29, ↓j43, ↓j45, ↓j50, ↓j53, ↓j58, ↓j63, ↓j66, j119, j125, ↓j129, ↓j130, ↓j137, AV.proj, AV.offOf, AV.size, AV.sizeL, j147, j148, j150, j151, j154, j155, j156, j158, reduceCtorEq, ↓reduceIte, Nat.reduceAdd, Nat.reduceEqDiff, j166, j180, j181, ↓j209, j238, j239, j245, j258, j386, str_bytes, w1]
  refine CallTo.pure (args := [.int .u64 c.by_.length, .int .i64 ((2 : Nat) : Int)]) rfl fok30 (by simp -dsimp -implicitDefEqProofs only [↓j25, ↓j29, ↓j30, j33, j157, j158, ↓reduceIte]; rfl) (notup (fun vs h => by cases h) fun vs h => by cases h) hp2 ?_
  have hx : putL c.off 8 ++ putL c.by_.length 2 ++ c.by_ = txP c := rfl
  have hxl : (putL c.off 8).length = 8 := putL_len _ _
  have hyl : (putL c.by_.length 2).length = 2 := putL_len _ _
  have hsl := txP_len c
  have hend := tx_end hlen
  have hpl := padP_len hlen
  have hlim : 10 + c.by_.length ≤ 9223372036854775807 := by omega
  have hlim2 : 8 + 2 + c.by_.length ≤ 9223372036854775807 := by omega
  simp -dsimp -implicitDefEqProofs only [↓j3, ↓j4, j17, j18, j20, j24, ↓j25, ↓j27, ↓j29, ↓j39, ↓j43, ↓j45, ↓j48, ↓j63, ↓j66, j104, ↓j107, j119, ↓j129, ↓j130, ↓j137, AV.proj, AV.offOf, AV.size, AV.sizeL, j147, j148, j150, j151, j154, j155, j156, j158, reduceCtorEq, ↓reduceIte, Nat.reduceAdd, Nat.reduceEqDiff, Nat.reduceLeDiff, j166, j180, j181, j226, j238, j258, str_bytes, str_append, hxl, hyl, hlim, hx]
  refine ⟨by kernel_rfl, ?_⟩
  obtain ⟨s, hs⟩ : ∃ s, txP c = s := ⟨_, rfl⟩
  rw [hs] at hsl hend
  simp -dsimp -implicitDefEqProofs only [↓j0, ↓j1, ↓j7, ↓j12, ↓j14, ↓j15, ↓j16, j17, j18, j20, ↓j30, j33, ↓j39, ↓j41, ↓j129, j154, j155, Nat.reduceAdd, j358, hs]
  refine AWp.loopR (Z := Z) mixed hZ (by kernel_rfl) (fun n st => ∃ i, i + n = 10 + c.by_.length ∧ st = rpkSt c s (s.take i ++ zb (224 - i)) i) (n0 := 10 + c.by_.length) (s0 := rpkSt c s (zb 224) 0) ?_ ⟨0, by omega, rfl⟩ ?_ rfl
  · exact Wk.sub (by simp -dsimp -implicitDefEqProofs only [↓j25, ↓j27, j163, reduceCtorEq, ↓reduceIte, Nat.reduceEqDiff, j166, j167, j168, j186, j187, j188, j189, j193, j207] <;> simp)
  rintro n st ⟨i, hi, rfl⟩
  refine ⟨rfl, ?_⟩
  rcases Nat.lt_or_ge i (10 + c.by_.length) with hlt | hge
  · have hd : decide ((i : Int) < ((10 + c.by_.length : Nat) : Int)) = true := decide_eq_true (by omega)
    have hix : (i : Int) < ((10 + c.by_.length : Nat) : Int) := by omega
    have hix2 : (i : Int) < ((224 : Nat) : Int) := by omega
    obtain ⟨b, hb⟩ := list_get (xs := s) (i := i) (by omega)
    have hw2 : IntKind.i64.wrap ((i : Int) + 1) = ((i + 1 : Nat) : Int) := by rw [wrap_i64 (by omega) (by omega)]; omega
    have hbt : byteAt ⟨s.toArray⟩ (i : Int) = (b.toNat : Int) := by
      unfold byteAt
      rw [Int.toNat_natCast, Array.getD_eq_getD_getElem?, List.getElem?_toArray, hb]; rfl
    have hll : (s.take i ++ zb (224 - i)).length = 224 := by rw [List.length_append, List.length_take, zb_len]; omega
    have hset := fillB_step (n := 224) hb (by omega)
    obtain ⟨l, hl⟩ : ∃ l, s.take i ++ zb (224 - i) = l := ⟨_, rfl⟩
    rw [hl] at hll hset
    have hset2 : (l.map byteAV).set i (.int .u8 (b.toNat : Int)) = (s.take (i + 1) ++ zb (224 - (i + 1))).map byteAV := by
      have : AV.int .u8 (b.toNat : Int) = byteAV b := rfl
      rw [this, ← List.map_set, hset]
    have hsz2 : AV.sizeL ((l.map byteAV).take i) = i * 1 := (unif_bytes l).sizeL_take (by simp; omega)
    obtain ⟨y, hy⟩ := list_get (xs := l) (i := i) (by omega)
    simp -dsimp -implicitDefEqProofs only [↓j0, ↓j1, ↓j7, ↓j9, ↓j12, ↓j13, ↓j14, ↓j15, j17, j18, j19, j20, j21, j22, j23, ↓j25, ↓j27, ↓j29, ↓j30, j33, ↓j38, ↓j39, ↓j44, ↓j46, ↓j47, ↓j48, ↓j58, ↓j65, ↓j76, ↓j81, ↓j82, j125, ↓j129, ↓j130, ↓j131, ↓j133, ↓j137, j138, j143, AV.proj, AV.offOf, AV.upd, AV.size, AV.layable, j154, j155, j161, reduceCtorEq, ↓reduceIte, Nat.reduceEqDiff, j166, j169, j175, j180, j181, j190, j191, j192, j234, j239, j326, rpkSt, hl, hix, hix2, hsl, hbt, str_bytes, hsz2, hy, byteAV, hset2]
    exact ⟨n - 1, rpkSt c s (s.take (i + 1) ++ zb (224 - (i + 1))) (i + 1), by omega, ⟨i + 1, by omega, rfl⟩, Wk.sub (by simp -dsimp -implicitDefEqProofs only [↓j25, ↓j27, reduceCtorEq, ↓reduceIte, Nat.reduceEqDiff, j166, j186, j187, j188, j189, j207, hw2] <;> simp)⟩
  have hi' : i = 10 + c.by_.length := by omega
  subst hi'
  have hd : decide (((10 + c.by_.length : Nat) : Int) < ((10 + c.by_.length : Nat) : Int)) = false := decide_eq_false (by omega)
  rw [hend]
  have hep := hc.ep
  have hno := hc.no
  have w2 : IntKind.u64.wrap (c.ep : Int) = (c.ep : Int) := by rw [wrap_u64, Nat.mod_eq_of_lt (by omega)]
  have w3 : IntKind.u64.wrap (c.no : Int) = (c.no : Int) := by rw [wrap_u64, Nat.mod_eq_of_lt (by omega)]
  have w4 : IntKind.u64.wrap ((c.ep : Int) * 4294967296) = ((c.ep * 4294967296 : Nat) : Int) := by
    rw [show (c.ep : Int) * 4294967296 = ((c.ep * 4294967296 : Nat) : Int) by omega, wrap_u64, Nat.mod_eq_of_lt (by omega)]
  have w5 : IntKind.u64.wrap (((c.ep * 4294967296 : Nat) : Int) + (c.no : Int)) = ((c.ep * 4294967296 + c.no : Nat) : Int) := by
    rw [show ((c.ep * 4294967296 : Nat) : Int) + (c.no : Int) = ((c.ep * 4294967296 + c.no : Nat) : Int) by omega, wrap_u64, Nat.mod_eq_of_lt (by omega)]
  have hse := rseal_spec (c.ep * 4294967296 + c.no) (padP c) (by omega) hpl
  have hpp : packP c = sealL (c.ep * 4294967296 + c.no) (padP c) 4 := by rw [packP, hok]; rfl
  rw [← hpp] at hse
  have hsl2 := packP_len c
  simp -dsimp -implicitDefEqProofs only [↓j0, ↓j1, ↓j7, ↓j11, ↓j12, ↓j13, ↓j15, j17, j18, j20, ↓j25, ↓j27, ↓j29, ↓j30, j33, ↓j38, ↓j43, ↓j45, ↓j48, ↓j50, ↓j53, ↓j58, ↓j63, ↓j66, ↓j76, j116, j117, j125, ↓j129, ↓j130, ↓j132, ↓j133, ↓j137, j138, j140, j143, AV.proj, AV.offOf, AV.size, AV.sizeL, j147, j148, j150, j151, j155, reduceCtorEq, ↓reduceIte, Nat.reduceEqDiff, j166, j169, j180, j181, ↓j209, j224, j239, j241, j245, j249, j252, j324, j325, j390, rpkSt, hd, hsl, str_bytes, w2, w3, w4, w5, hpl]
  refine CallTo.pure (args := [.int .u64 (c.ep * 4294967296 + c.no : Nat), arrAV (padP c)]) rfl fok31 (by simp -dsimp -implicitDefEqProofs only [↓j25, ↓j29, j157, j158, ↓reduceIte, Nat.reduceEqDiff]) (notup (fun vs h => by cases h) fun vs h => by cases h) hse ?_
  simp -dsimp -implicitDefEqProofs only [↓j0, ↓j1, ↓j10, j17, j18, j19, j20, j21, j22, j23, ↓j25, ↓j27, ↓j29, ↓j30, j32, ↓j39, ↓j44, ↓j65, ↓j129, ↓j130, ↓j137, AV.proj, AV.offOf, AV.upd, AV.size, AV.layable, j154, j155, reduceCtorEq, ↓reduceIte, Nat.reduceEqDiff, j166, j224, j267, hsl2, hz]
  rw [rpackAV, hok]
  exact Final.many (.inr rfl) (rs := [.cell 2 27, .tmp 3]) (us := [arrAV (packP c), .bool true]) rfl ⟨⟨1, 0, [], _, rfl, rfl, rfl, rfl, by simp -dsimp -implicitDefEqProofs only [j116, j166, j224, j267, j268, hsl2]⟩, ⟨rfl, fun vs h => by cases h⟩, trivial⟩ (by simp) ⟨.same _ (on_bytes _ _), .same _ trivial, trivial⟩
end Go.Proofs.Ytbhhbadeabhfcaa
