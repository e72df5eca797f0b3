/- What was packed is read; unlike masters. -/
import Derived.Test.YthfaldoagmkllaaE7
set_option linter.unusedVariables false
set_option linter.unusedSimpArgs false
namespace Go.Proofs.Ythfaldoagmkllaa
open Go Go.RowKit

theorem open_seal2 {st : Nat} {p : List UInt8} (hs : st < 18446744073709551616) (hp : p.length = 224) : openOk (sealL st p 4) = true ∧ partsL (sealL st p 4) 4 = p := by
  have h := open_seal hs hp
  unfold openP at h
  split at h
  · rename_i h1
    have h2 := congrArg (fun x => x.2.1) h
    exact ⟨h1, h2⟩
  · have h2 := congrArg (fun x => x.2.2) h
    cases h2
theorem msOf_pay {m : Ms} (hm : m.Ok) (hy : mayM m = true) : msOf (msPay m) = m := by
  obtain ⟨g1, g2, g3, g4, g5, g6, g7⟩ := may_nums hy
  have k1 := hm.seq
  have k2 := hm.epoch
  have k3 := hm.tail
  have k4 := hm.lsn
  have k5 := hm.last
  have k6 := hm.maxTs
  obtain ⟨seq, epoch, tail, lsn, last, pages, undo, log, maxTs⟩ := m
  simp only at k1 k2 k3 k4 k5 k6 g1 g2 g3 g4 g5 g6
  have e1 := getL_put seq 8
  have e2 := getL_put epoch 4
  have e3 := getL_put tail 4
  have e4 := getL_put lsn 8
  have e5 := getL_put last 4
  have e6 := getL_put pages.toNat 2
  have e7 := getL_put undo.toNat 2
  have e8 := getL_put log.toNat 2
  have e9 := getL_put maxTs 4
  have ht : msPay ⟨seq, epoch, tail, lsn, last, pages, undo, log, maxTs⟩ = (markL ++ putL seq 8 ++ (putL epoch 4 ++ (putL tail 4 ++ (putL lsn 8 ++ (putL last 4 ++ (putL pages.toNat 2 ++ (putL undo.toNat 2 ++ (putL log.toNat 2 ++ putL maxTs 4)))))))) ++ (putL (crcSum (msText ⟨seq, epoch, tail, lsn, last, pages, undo, log, maxTs⟩)) 4 ++ zb 176) := by
    unfold msPay msAll
    rw [List.append_assoc]; rfl
  obtain ⟨R, hR⟩ : ∃ R, putL (crcSum (msText ⟨seq, epoch, tail, lsn, last, pages, undo, log, maxTs⟩)) 4 ++ zb 176 = R := ⟨_, rfl⟩
  rw [hR] at ht
  rw [ht]
  obtain ⟨a1, a2, a3, a4, a5, a6, a7, a8, ha⟩ : ∃ a b c d e f g h, putL seq 8 = [a, b, c, d, e, f, g, h] := ⟨_, _, _, _, _, _, _, _, rfl⟩
  obtain ⟨b1, b2, b3, b4, hb⟩ : ∃ a b c d, putL epoch 4 = [a, b, c, d] := ⟨_, _, _, _, rfl⟩
  obtain ⟨c1, c2, c3, c4, hc⟩ : ∃ a b c d, putL tail 4 = [a, b, c, d] := ⟨_, _, _, _, rfl⟩
  obtain ⟨d1, d2, d3, d4, d5, d6, d7, d8, hd⟩ : ∃ a b c d e f g h, putL lsn 8 = [a, b, c, d, e, f, g, h] := ⟨_, _, _, _, _, _, _, _, rfl⟩
  obtain ⟨x1, x2, x3, x4, he⟩ : ∃ a b c d, putL last 4 = [a, b, c, d] := ⟨_, _, _, _, rfl⟩
  obtain ⟨p1, p2, hp⟩ : ∃ a b, putL pages.toNat 2 = [a, b] := ⟨_, _, rfl⟩
  obtain ⟨u1, u2, hu⟩ : ∃ a b, putL undo.toNat 2 = [a, b] := ⟨_, _, rfl⟩
  obtain ⟨l1, l2, hl⟩ : ∃ a b, putL log.toNat 2 = [a, b] := ⟨_, _, rfl⟩
  obtain ⟨t1, t2, t3, t4, hx⟩ : ∃ a b c d, putL maxTs 4 = [a, b, c, d] := ⟨_, _, _, _, rfl⟩
  rw [ha] at e1
  rw [hb] at e2
  rw [hc] at e3
  rw [hd] at e4
  rw [he] at e5
  rw [hp] at e6
  rw [hu] at e7
  rw [hl] at e8
  rw [hx] at e9
  rw [ha, hb, hc, hd, he, hp, hu, hl, hx]
  rw [Nat.mod_eq_of_lt (by omega)] at e1 e2 e3 e4 e5 e6 e7 e8 e9
  have q : ∀ (a b c d e i : Nat) (f g h : Nat), Ms.mk a b c d e (f : Int) (g : Int) (h : Int) i = Ms.mk a b c d e (f : Int) (g : Int) (h : Int) i := fun _ _ _ _ _ _ _ _ _ => rfl
  show Ms.mk (getL [a1, a2, a3, a4, a5, a6, a7, a8]) (getL [b1, b2, b3, b4]) (getL [c1, c2, c3, c4]) (getL [d1, d2, d3, d4, d5, d6, d7, d8]) (getL [x1, x2, x3, x4]) ((getL [p1, p2] : Nat) : Int) ((getL [u1, u2] : Nat) : Int) ((getL [l1, l2] : Nat) : Int) (getL [t1, t2, t3, t4]) = _
  rw [e1, e2, e3, e4, e5, e6, e7, e8, e9, Int.toNat_of_nonneg (by omega), Int.toNat_of_nonneg (by omega), Int.toNat_of_nonneg (by omega)]
theorem unpack_pack {m : Ms} (hm : m.Ok) (hy : mayM m = true) : unpackM (packM m) = some m := by
  obtain ⟨h1, h2⟩ := open_seal2 hm.seq (msPay_len m)
  have hp : packM m = sealL m.seq (msPay m) 4 := by unfold packM; rw [hy, if_pos rfl]
  unfold unpackM
  rw [hp, h1, if_pos rfl, h2, msOf_pay hm hy, hy, hp]
  simp
theorem unpack_zero : unpackM (zb 256) = none := by
  have h : mayM (msOf (partsL (zb 256) 4)) = false := by decide +kernel
  unfold unpackM
  rw [h]
  simp
theorem unpack_some {b : List UInt8} {m : Ms} (h : unpackM b = some m) : m.Ok ∧ mayM m = true ∧ packM m = b := by
  unfold unpackM at h
  split at h
  · split at h
    · rename_i h2
      cases h
      rw [Bool.and_eq_true, beq_iff_eq] at h2
      exact ⟨msOf_ok _, h2.1, h2.2⟩
    · cases h
  · cases h
def Ms.eqb (a b : Ms) : Bool := ((a.seq : Int) == (b.seq : Int)) && (((a.epoch : Int) == (b.epoch : Int)) && (((a.tail : Int) == (b.tail : Int)) && (((a.lsn : Int) == (b.lsn : Int)) && (((a.last : Int) == (b.last : Int)) && ((a.pages == b.pages) && ((a.undo == b.undo) && ((a.log == b.log) && ((a.maxTs : Int) == (b.maxTs : Int)))))))))
theorem Ms.eqb_iff {a b : Ms} : a.eqb b = true ↔ a = b := by
  obtain ⟨a1, a2, a3, a4, a5, a6, a7, a8, a9⟩ := a
  obtain ⟨b1, b2, b3, b4, b5, b6, b7, b8, b9⟩ := b
  simp only [Ms.eqb, Bool.and_eq_true, beq_iff_eq, Ms.mk.injEq]
  omega
theorem scEq_int {k : IntKind} {a b : Int} : scEq (.int k a) (.int k b) = some (a == b) := by simp [scEq]
theorem cellsEq_ms (a b : Ms) : cellsEq [AV.int .u64 a.seq, .int .u32 a.epoch, .int .u32 a.tail, .int .u64 a.lsn, .int .u32 a.last, .int .i64 a.pages, .int .i64 a.undo, .int .i64 a.log, .int .u32 a.maxTs] [AV.int .u64 b.seq, .int .u32 b.epoch, .int .u32 b.tail, .int .u64 b.lsn, .int .u32 b.last, .int .i64 b.pages, .int .i64 b.undo, .int .i64 b.log, .int .u32 b.maxTs] = some (a.eqb b) := by
  have h := cellsEq_cons (scEq_int (k := .u64) (a := a.seq) (b := b.seq)) (cellsEq_cons (scEq_int (k := .u32) (a := a.epoch) (b := b.epoch)) (cellsEq_cons (scEq_int (k := .u32) (a := a.tail) (b := b.tail)) (cellsEq_cons (scEq_int (k := .u64) (a := a.lsn) (b := b.lsn)) (cellsEq_cons (scEq_int (k := .u32) (a := a.last) (b := b.last)) (cellsEq_cons (scEq_int (k := .i64) (a := a.pages) (b := b.pages)) (cellsEq_cons (scEq_int (k := .i64) (a := a.undo) (b := b.undo)) (cellsEq_cons (scEq_int (k := .i64) (a := a.log) (b := b.log)) (cellsEq_cons (scEq_int (k := .u32) (a := a.maxTs) (b := b.maxTs)) cellsEq_nil))))))))
  simp only [Bool.and_true] at h
  exact h
/-- Unlike masters have unlike blocks. -/
theorem pack_inj {a b : Ms} (ha : a.Ok) (hb : b.Ok) (hya : mayM a = true) (hyb : mayM b = true) : (packM a == packM b) = a.eqb b := by
  rw [Bool.eq_iff_iff, beq_iff_eq, Ms.eqb_iff]
  constructor
  · intro h
    have h1 := unpack_pack ha hya
    rw [h, unpack_pack hb hyb] at h1
    exact (Option.some.inj h1).symm
  · rintro rfl; rfl
end Go.Proofs.Ythfaldoagmkllaa
