/- Arrays that are sliced, and copies. -/
import Derived.Test.YtbhhbadeabhfcaaF29
set_option linter.unusedVariables false
set_option linter.unusedSimpArgs false
namespace Go.Proofs.Ytbhhbadeabhfcaa
open Go Go.RowKit
section
variable {P : Program} {T : TypeId} {n : Nat} {t : Env} {H : Heap} {m : Nat} {K : Eff → Nat → Prop}
theorem DoSlice_ptr {nn off : Nat} {p : List Nat} {lo hi : Option Operand} : DoSlice P T (some (.ptr nn off p)) lo hi ⟨n, t, H, m⟩ K = Got (elA P T) fun e => GotC (Heap.get H nn) fun root => Got (bndAV (St.ev ⟨n, t, H, m⟩) lo 0) fun l => Got (bndAV (St.ev ⟨n, t, H, m⟩) hi e.1) fun h => Got (root.proj p) fun r => Got (aggAt r) fun es =>
    Need (root.offOf p = off ∧ AV.sizeL es = e.1 * e.2 ∧ 0 ≤ l ∧ l ≤ h ∧ h ≤ e.1) (K ⟨.sl nn (off + l.toNat * e.2) p l.toNat (h.toNat - l.toNat) (e.1 - l.toNat) e.2, [nn], [], []⟩ m) := by
  simp only [DoSlice, Got, GotC, Need, elA, aggAt]
  cases P.underlying T with
  | none => rfl
  | some D =>
    cases D <;> try rfl
    rename_i len E
    simp only
    cases Heap.get H nn with
    | none => cases szOf P E <;> rfl
    | some b =>
      cases b with
      | map es => cases szOf P E <;> rfl
      | cells root =>
        simp only
        cases szOf P E with
        | none =>
          simp only [Option.map_none]
          cases bndAV (St.ev ⟨n, t, H, m⟩) lo 0 <;> cases bndAV (St.ev ⟨n, t, H, m⟩) hi len <;> rfl
        | some wd =>
          simp only [Option.map_some]
          cases bndAV (St.ev ⟨n, t, H, m⟩) lo 0 <;> cases bndAV (St.ev ⟨n, t, H, m⟩) hi len <;> try rfl
          simp only
          cases root.proj p with
          | none => rfl
          | some r => cases r <;> rfl
theorem DoCopy_sl {nn off i len cap wd : Nat} {p : List Nat} {w : AV} : DoCopy P T (some (.sl nn off p i len cap wd)) (some w) ⟨n, t, H, m⟩ K = Got (elS P T) fun wd' => GotC (Heap.get H nn) fun root => Got (root.proj p) fun r => Got (aggAt r) fun es =>
    Need (wd' = wd ∧ off = root.offOf p + i * wd ∧ i + len ≤ es.length ∧ Unif wd es) (SrcAt H wd w fun rd xs => Need (nn ∉ rd) (K ⟨.int .i64 (Nat.min xs.length len : Nat), rd, [nn], [(nn, .cells (root.upd p (.agg (es.take i ++ xs.take (Nat.min xs.length len) ++ es.drop (i + Nat.min xs.length len)))))]⟩ m)) := by
  simp only [DoCopy, Got, GotC, Need, elS, aggAt, SrcAt]
  cases P.underlying T with
  | none => rfl
  | some D =>
    cases D <;> try rfl
    rename_i E
    simp only
    cases szOf P E with
    | none => rfl
    | some wd' =>
      simp only
      cases Heap.get H nn with
      | none => rfl
      | some b =>
        cases b with
        | map es => rfl
        | cells root =>
          simp only
          cases root.proj p with
          | none => rfl
          | some r => cases r <;> rfl
end

/-- Bytes as values. -/
abbrev bytesAV (l : List UInt8) : List AV := l.map byteAV
def zb (n : Nat) : List UInt8 := List.replicate n 0
theorem zb_len (n : Nat) : (zb n).length = n := List.length_replicate
theorem unif_bytes (l : List UInt8) : Unif 1 (l.map byteAV) := fun x hx => by
  obtain ⟨o, _, rfl⟩ := List.mem_map.1 hx; rfl
theorem sizeL_bytes (l : List UInt8) : AV.sizeL (l.map byteAV) = l.length := by
  rw [(unif_bytes l).sizeL, List.length_map, Nat.mul_one]
theorem on_bytes (S : Nat → Prop) (l : List UInt8) : AV.onL S (l.map byteAV) := by
  rw [AV.onL_iff]
  intro x hx
  obtain ⟨o, _, rfl⟩ := List.mem_map.1 hx
  trivial
theorem bytesOf_bytes (l : List UInt8) : bytesOf (l.map byteAV) = some l := by
  induction l with
  | nil => rfl
  | cons b l ih => simp [byteAV, bytesOf, ih]
theorem byteAV_of (n : Nat) (h : n < 256) : AV.int .u8 (n : Int) = byteAV (UInt8.ofNat n) := by
  simp [byteAV, Nat.mod_eq_of_lt h]
theorem cellsEq_bytes : ∀ {l k : List UInt8}, l.length = k.length → cellsEq (l.map byteAV) (k.map byteAV) = some (l == k)
  | [], [], _ => rfl
  | [], _ :: _, h => by simp at h
  | _ :: _, [], h => by simp at h
  | a :: l, b :: k, h => by
    have := cellsEq_bytes (l := l) (k := k) (by simpa using h)
    simp only [List.map_cons]
    have e : scEq (byteAV a) (byteAV b) = some (a == b) := by
      simp only [byteAV, scEq, if_true]
      congr 1
      rw [Bool.eq_iff_iff]
      simp only [beq_iff_eq]
      constructor
      · intro h
        exact UInt8.toNat_inj.1 (by omega)
      · rintro rfl; rfl
    rw [cellsEq_cons e this]
    rfl
def kreps (n : Nat) : List K3 := List.replicate n .i
theorem kinds_bytes {l : List UInt8} {n : Nat} (h : l.length = n) : (l.map byteAV).map kindOf = (kreps n).map some := by
  subst h
  induction l with
  | nil => rfl
  | cons b l ih => simp only [List.map_cons, ih, kreps, List.length_cons, List.replicate_succ]; rfl
end Go.Proofs.Ytbhhbadeabhfcaa
