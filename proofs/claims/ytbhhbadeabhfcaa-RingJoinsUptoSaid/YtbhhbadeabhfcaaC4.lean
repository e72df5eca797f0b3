/- A block of the log is packed. -/
import Derived.Test.YtbhhbadeabhfcaaC3
set_option linter.unusedVariables false
set_option linter.unusedSimpArgs false
namespace Go.Proofs.Ytbhhbadeabhfcaa
open Go Go.RowKit

structure Ch where
  ep : Nat
  no : Nat
  off : Nat
  by_ : List UInt8
structure Ch.Wf (c : Ch) : Prop where
  ep : c.ep < 4294967296
  no : c.no < 4294967296
  off : c.off < 18446744073709551616
  len : c.by_.length ≤ 9223372036854775807
abbrev Ch.av (c : Ch) : AV := .agg [.int .u32 c.ep, .int .u32 c.no, .int .u64 c.off, .str ⟨c.by_.toArray⟩]
def Ch.zero : Ch := ⟨0, 0, 0, []⟩
def padP (c : Ch) : List UInt8 := (putL c.off 8 ++ (putL c.by_.length 2 ++ c.by_)) ++ zb (214 - c.by_.length)
def packOk (c : Ch) : Bool := decide (1 ≤ c.by_.length) && decide (c.by_.length ≤ 214)
def packP (c : Ch) : List UInt8 := if packOk c then sealL (c.ep * 4294967296 + c.no) (padP c) 4 else zb 256
abbrev packAV (c : Ch) : AV := .tuple [arrAV (packP c), .int .i64 (if packOk c then 0 else 1)]
theorem padP_len {c : Ch} (h : c.by_.length ≤ 214) : (padP c).length = 224 := by
  simp only [padP, List.length_append, putL_len, zb_len]; omega
theorem packP_len (c : Ch) : (packP c).length = 256 := by
  unfold packP
  split
  · rename_i h
    simp only [packOk, Bool.and_eq_true, decide_eq_true_eq] at h
    rw [sealL_len _ (padP_len h.2) 4 (Nat.le_refl _)]
  · exact zb_len 256
theorem str_append (a b : List UInt8) : (ByteArray.mk a.toArray) ++ (ByteArray.mk b.toArray) = ByteArray.mk (a ++ b).toArray := by
  apply ByteArray.ext
  rw [ByteArray.data_append]
  simp
theorem or_add32 {a b : Nat} (hb : b < 4294967296) : (a * 4294967296) ||| b = a * 4294967296 + b := by
  have := Nat.shiftLeft_add_eq_or_of_lt (i := 32) (b := b) hb a
  rw [Nat.shiftLeft_eq] at this
  exact this.symm
theorem args_ch {c : Ch} : ∀ x, x ∈ [c.av] → AV.on (fun _ => False) x ∧ ∀ vs, x ≠ .tuple vs := fun x hx => by
  simp only [List.mem_singleton] at hx
  subst hx
  exact ⟨by simp [AV.on, AV.onL], fun vs h => by cases h⟩
theorem fok28 : fnOk Try.prog 28 = true := by kernel_rfl
theorem fok29 : fnOk Try.prog 29 = true := by kernel_rfl
theorem notup {x y : AV} (hx : ∀ vs, x ≠ .tuple vs) (hy : ∀ vs, y ≠ .tuple vs) : ∀ z, z ∈ [x, y] → ∀ vs, z ≠ .tuple vs := fun z hz => by
  simp only [List.mem_cons, List.not_mem_nil, or_false] at hz
  rcases hz with rfl | rfl
  · exact hx
  · exact hy

theorem pack_spec (c : Ch) (hc : c.Wf) : ACall Try.prog 10 [c.av] [] (packAV c) [] := by
  refine ACall.run (Z := Z) (N := 40) mixed hZ Try.func10 rfl rfl (by kernel_rfl) (by simp) args_ch 0 ?_
  have hz := zb_len 256
  have hz2 := zb_len 224
  have fin0 : ∀ (t : Env) (H : Heap) (m : Nat), packOk c = false → look t 2 = some (.ptr 1 0 []) → look t 3 = some (.int .i64 1) → Heap.get H 1 = some (.cells (arrAV (zb 256))) →
      Final Try.prog Try.f10 (packAV c) [] .ret ⟨40, t, H, m⟩ := by
    intro t H m hk h2 h3 h1
    have e : packP c = zb 256 := by rw [packP, hk]; rfl
    have e2 : (if packOk c then (0 : Int) else 1) = 1 := by rw [hk]; rfl
    rw [packAV, e, e2]
    exact Final.many (.inr rfl) (rs := [.cell 2 27, .tmp 3]) (us := [arrAV (zb 256), .int .i64 1]) rfl ⟨⟨1, 0, [], _, h2, h1, rfl, rfl, by simp -dsimp -implicitDefEqProofs only [j116, j166, j224, j267, j268, hz]⟩, ⟨h3, fun vs h => by cases h⟩, trivial⟩ (by simp) ⟨.same _ (on_bytes _ _), .same _ trivial, trivial⟩
  simp -dsimp -implicitDefEqProofs only [↓j0, ↓j1, ↓j2, ↓j7, ↓j12, ↓j15, j17, j18, j20, ↓j25, ↓j27, ↓j29, ↓j30, j33, ↓j38, ↓j39, ↓j41, ↓j42, ↓j43, ↓j45, ↓j48, ↓j58, ↓j63, ↓j66, ↓j76, j119, j125, ↓j129, ↓j130, ↓j135, ↓j137, j143, AV.proj, AV.offOf, AV.size, AV.sizeL, AV.layable, argEnv, j147, j148, j150, j151, j154, j155, j156, j159, reduceCtorEq, ↓reduceIte, Nat.reduceAdd, Nat.reduceEqDiff, j166, j169, j180, j181, j238, j239, j258, j347, str_bytes]
  refine ⟨fun h1 => ?_, fun h1 => ?_⟩
  · have h1' := of_decide_eq_true h1
    simp -dsimp -implicitDefEqProofs only [↓j0, ↓j1, ↓j2, ↓j7, ↓j10, ↓j12, ↓j13, ↓j15, j17, j18, j19, j20, j21, j22, j23, ↓j25, ↓j27, ↓j29, ↓j30, j32, j33, ↓j39, ↓j40, ↓j44, ↓j54, ↓j65, j68, ↓j111, j112, j114, ↓j129, ↓j130, ↓j131, ↓j133, ↓j135, ↓j137, partsAV, AV.proj, AV.offOf, AV.upd, AV.size, AV.layable, j147, j148, j154, j155, j159, reduceCtorEq, ↓reduceIte, Nat.reduceEqDiff, j166, j198, j202, j203, j224, j267, j363, h1, hz]
    refine fin0 _ _ _ ?_ rfl rfl rfl
    simp [packOk]; omega
  have h1' := of_decide_eq_false h1
  simp -dsimp -implicitDefEqProofs only [↓j0, ↓j1, ↓j2, ↓j13, j17, j18, j20, ↓j25, ↓j27, ↓j29, ↓j30, j32, j33, ↓j40, ↓j43, ↓j45, ↓j48, ↓j58, ↓j63, ↓j66, j70, ↓j76, j119, j125, ↓j129, ↓j130, ↓j132, ↓j133, ↓j135, ↓j137, j145, AV.proj, AV.offOf, AV.size, AV.sizeL, j147, j148, j150, j151, j155, j159, reduceCtorEq, ↓reduceIte, Nat.reduceAdd, Nat.reduceEqDiff, j166, j169, j179, j180, j181, j238, j239, j258, h1, str_bytes]
  refine ⟨fun h2 => ?_, fun h2 => ?_⟩
  · have h2' := of_decide_eq_true h2
    simp -dsimp -implicitDefEqProofs only [↓j0, ↓j1, ↓j7, ↓j10, ↓j12, ↓j15, j17, j18, j19, j20, j21, j22, j23, ↓j25, ↓j27, ↓j29, ↓j30, j33, ↓j39, ↓j44, ↓j54, ↓j65, ↓j111, j112, j114, ↓j129, ↓j130, ↓j137, partsAV, AV.proj, AV.offOf, AV.upd, AV.size, AV.layable, j154, j155, reduceCtorEq, ↓reduceIte, Nat.reduceEqDiff, j166, j198, j202, j203, j224, j267, j363, h2, hz]
    refine fin0 _ _ _ ?_ rfl rfl rfl
    simp [packOk]; omega
  have h2' := of_decide_eq_false h2
  have hlen : c.by_.length ≤ 214 := by omega
  have hok : packOk c = true := by simp [packOk]; omega
  have hp1 := put_spec c.off 8 (by omega)
  have hp2 := put_spec c.by_.length 2 (by omega)
  have w1 : IntKind.u64.wrap (c.by_.length : Int) = (c.by_.length : Int) := by rw [wrap_u64, Nat.mod_eq_of_lt (by omega)]
  simp -dsimp -implicitDefEqProofs only [↓j0, ↓j1, ↓j4, ↓j7, ↓j8, ↓j9, ↓j12, ↓j15, j17, j18, j20, j24, ↓j25, ↓j27, ↓j29, ↓j41, ↓j43, ↓j45, ↓j49, ↓j53, ↓j63, ↓j66, j94, j117, ↓j129, ↓j130, ↓j137, AV.proj, AV.offOf, AV.size, AV.sizeL, j147, j148, j150, j151, j154, j155, j156, j158, reduceCtorEq, ↓reduceIte, Nat.reduceAdd, Nat.reduceMul, Nat.reduceEqDiff, Int.reduceToNat, j166, j180, j181, j191, j192, bndAV, j216, j217, j218, ↓j222, j224, j244, j255, j331, j359, h2, hz2]
  refine CallTo.pure (args := [.int .u64 c.off, .int .i64 ((8 : Nat) : Int)]) rfl fok28 (by simp -dsimp -implicitDefEqProofs only [↓j25, ↓j29, ↓j30, j33, j157, j158, ↓reduceIte]; rfl) (notup (fun vs h => by cases h) fun vs h => by cases h) hp1 ?_
  simp -dsimp -implicitDefEqProofs only [↓j4, j17, j18, j20, j24, ↓j25, ↓j27, ↓j29, ↓j43, ↓j45, ↓j50, ↓j53, ↓j58, ↓j63, ↓j66, j119, j125, ↓j129, ↓j130, ↓j137, AV.proj, AV.offOf, AV.size, AV.sizeL, j147, j148, j150, j151, j154, j155, j156, j158, reduceCtorEq, ↓reduceIte, Nat.reduceAdd, Nat.reduceEqDiff, j166, j180, j181, ↓j209, j238, j239, j245, j258, j386, str_bytes, w1]
  refine CallTo.pure (args := [.int .u64 c.by_.length, .int .i64 ((2 : Nat) : Int)]) rfl fok28 (by simp -dsimp -implicitDefEqProofs only [↓j25, ↓j29, ↓j30, j33, j157, j158, ↓reduceIte]; rfl) (notup (fun vs h => by cases h) fun vs h => by cases h) hp2 ?_
  obtain ⟨x, hx⟩ : ∃ x, putL c.off 8 = x := ⟨_, rfl⟩
  obtain ⟨y, hy⟩ : ∃ y, putL c.by_.length 2 = y := ⟨_, rfl⟩
  have hxl : x.length = 8 := by rw [← hx, putL_len]
  have hyl : y.length = 2 := by rw [← hy, putL_len]
  have hlim : 10 + c.by_.length ≤ 9223372036854775807 := by omega
  have hmn : Nat.min (10 + c.by_.length) 224 = 10 + c.by_.length := by
    show min (10 + c.by_.length) 224 = _
    omega
  have hu := unif_bytes (zb 224)
  have hcp : List.take (10 + c.by_.length) (List.map byteAV (x ++ y ++ c.by_)) ++ List.drop (10 + c.by_.length) (List.map byteAV (zb 224)) = (padP c).map byteAV := by
    rw [← List.map_take, ← List.map_drop, ← List.map_append, List.take_of_length_le (by simp; omega), zb, List.drop_replicate]
    unfold padP
    rw [hx, hy, show 224 - (10 + c.by_.length) = 214 - c.by_.length by omega]
    simp only [List.append_assoc, zb]
  have hpl := padP_len hlen
  have hse := seal_spec (c.ep * 4294967296 + c.no) (padP c) hpl
  have hsl := packP_len c
  have hpp : packP c = sealL (c.ep * 4294967296 + c.no) (padP c) 4 := by rw [packP, hok]; rfl
  rw [← hpp] at hse
  have e1 : (if packOk c then (0 : Int) else 1) = 0 := by rw [hok]; rfl
  have hep := hc.ep
  have hno := hc.no
  have w2 : IntKind.u64.wrap (c.ep : Int) = (c.ep : Int) := by rw [wrap_u64, Nat.mod_eq_of_lt (by omega)]
  have w3 : IntKind.u64.wrap (c.no : Int) = (c.no : Int) := by rw [wrap_u64, Nat.mod_eq_of_lt (by omega)]
  have n32 : ((32 : Int) < 0) = False := by simp
  have hsh : bShl .u64 (c.ep : Int) 32 = ((c.ep * 4294967296 : Nat) : Int) := by
    have := bShl_u64 c.ep 32
    rw [show min 32 64 = 32 from rfl, Nat.mod_eq_of_lt (by omega)] at this
    exact this
  have hor : bOr .u64 ((c.ep * 4294967296 : Nat) : Int) (c.no : Int) = ((c.ep * 4294967296 + c.no : Nat) : Int) := by
    rw [bOr_u64 (by omega) (by omega), or_add32 (by omega)]
  simp -dsimp -implicitDefEqProofs only [↓j3, ↓j4, j17, j18, j20, j21, j22, j23, j24, ↓j25, ↓j27, ↓j29, ↓j43, ↓j45, ↓j48, ↓j52, ↓j63, ↓j66, ↓j92, j94, j104, ↓j107, j119, ↓j129, ↓j130, ↓j137, AV.proj, AV.offOf, AV.upd, AV.size, AV.sizeL, j147, j148, j150, j151, j154, j155, j156, j157, j158, reduceCtorEq, ↓reduceIte, Nat.reduceAdd, Nat.reduceEqDiff, Nat.reduceLeDiff, j166, j173, j180, j181, j198, j206, j207, j218, ↓j223, j226, j238, j258, j336, str_bytes, str_append, hx, hy, hxl, hyl, hlim, hmn, hu, hz2, hcp]
  refine ⟨by kernel_rfl, ?_⟩
  simp -dsimp -implicitDefEqProofs only [↓j1, ↓j7, ↓j12, ↓j15, j17, j18, j20, ↓j25, ↓j27, ↓j29, ↓j30, j33, ↓j43, ↓j45, ↓j48, ↓j50, ↓j53, ↓j63, ↓j66, ↓j76, j98, j100, j105, j116, j117, ↓j129, ↓j130, ↓j137, AV.proj, AV.offOf, AV.size, AV.sizeL, j147, j148, j150, j151, j155, reduceCtorEq, ↓reduceIte, Nat.reduceEqDiff, j166, j169, j170, j180, j181, ↓j209, j224, j241, j245, j249, j252, j329, j330, j390, w2, w3, n32, hsh, hor, hpl]
  refine CallTo.pure (args := [.int .u64 (c.ep * 4294967296 + c.no : Nat), arrAV (padP c)]) rfl fok29 (by simp -dsimp -implicitDefEqProofs only [↓j25, ↓j29, j157, j158, ↓reduceIte, Nat.reduceEqDiff]) (notup (fun vs h => by cases h) fun vs h => by cases h) hse ?_
  simp -dsimp -implicitDefEqProofs only [↓j0, ↓j1, ↓j10, j17, j18, j19, j20, j21, j22, j23, ↓j25, ↓j27, ↓j29, ↓j30, j33, ↓j39, ↓j44, ↓j65, ↓j129, ↓j130, ↓j137, AV.proj, AV.offOf, AV.upd, AV.size, AV.layable, j154, j155, reduceCtorEq, ↓reduceIte, Nat.reduceEqDiff, j166, j224, j267, hsl, hz]
  rw [packAV, e1]
  exact Final.many (.inr rfl) (rs := [.cell 2 27, .tmp 3]) (us := [arrAV (packP c), .int .i64 0]) rfl ⟨⟨1, 0, [], _, rfl, rfl, rfl, rfl, by simp -dsimp -implicitDefEqProofs only [j116, j166, j224, j267, j268, hsl]⟩, ⟨rfl, fun vs h => by cases h⟩, trivial⟩ (by simp) ⟨.same _ (on_bytes _ _), .same _ trivial, trivial⟩
end Go.Proofs.Ytbhhbadeabhfcaa
