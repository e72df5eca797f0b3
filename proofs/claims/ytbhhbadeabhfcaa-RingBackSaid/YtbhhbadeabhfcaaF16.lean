/- Bytes to a text. -/
import Derived.Test.YtbhhbadeabhfcaaF15
set_option linter.unusedVariables false
set_option linter.unusedSimpArgs false
namespace Go.Proofs.Ytbhhbadeabhfcaa
open Go Go.RowKit


section
variable {P : Program} {o : Oper} {ev : Operand → Option AV} {H : Nat → Option ABlk} {v : AV} {rd : List Nat}

/-! #### bytes to a text -/
/-- The bytes that cells are. -/
def bytesOf : List AV → Option (List UInt8)
  | [] => some []
  | .int .u8 n :: r => (bytesOf r).map (UInt8.ofNat n.toNat :: ·)
  | _ => none

theorem bytesOf_rel {w : World} {I : Nat → Prop} {ρ : Rho} : ∀ {xs : List AV} {cs : List Value} {bs : List UInt8}, bytesOf xs = some bs → CsRel w I ρ (AV.flatL xs) cs →
    ∃ ns : List Int, cs = ns.map (Value.int .u8) ∧ bs = ns.map fun n => UInt8.ofNat n.toNat
  | [], cs, bs, h, hc => by
    simp only [bytesOf, Option.some.injEq] at h
    subst h
    have := hc.1
    simp [AV.flatL] at this
    subst this
    exact ⟨[], rfl, rfl⟩
  | x :: xs, cs, bs, h, hc => by
    unfold bytesOf at h
    split at h
    · cases h; rename_i h; cases h
    · rename_i n r heq
      cases heq
      cases hb : bytesOf xs with
      | none => simp [hb] at h
      | some bs' =>
        simp only [hb, Option.map_some, Option.some.injEq] at h
        subst h
        have e0 : AV.flatL (.int .u8 n :: xs) = .int .u8 n :: AV.flatL xs := rfl
        rw [e0] at hc
        cases cs with
        | nil => have := hc.1; simp at this
        | cons c cs =>
          have h0 := hc.2 0 (by simp)
          simp only [List.getD_cons_zero] at h0
          cases h0
          obtain ⟨ns, h1, h2⟩ := bytesOf_rel (xs := xs) (cs := cs) hb ⟨by have := hc.1; simpa using this, fun k hk => by have := hc.2 (k + 1) (by simpa using hk); simpa using this⟩
          exact ⟨n :: ns, by rw [h1]; rfl, by rw [h2]; rfl⟩
    · cases h

theorem foldl_push (ns : List Int) : ∀ (s : ByteArray), (ns.foldl (fun r n => r.push (UInt8.ofNat n.toNat)) s) = ⟨s.data ++ (ns.map fun n => UInt8.ofNat n.toNat).toArray⟩ := by
  induction ns with
  | nil => intro s; simp
  | cons n ns ih =>
    intro s
    simp only [List.foldl_cons, ih, List.map_cons]
    congr 1
    apply Array.ext'
    simp [ByteArray.push]

theorem ls_strof {S D E : TypeId} {x : Operand} {u : AV} {xs : List AV} {bs : List UInt8} (ho : o.op = .convert S D x) (hx : ev x = some u) (hs : IsSrc H 1 u rd xs) (hns : ∀ s, u ≠ .str s) (hS : P.underlying S = some (.slice E)) (hD : P.underlying D = some .string) (hE : P.underlying E = some (.int .u8))
    (hb : bytesOf xs = some bs) : LS P o ev H ⟨.str ⟨bs.toArray⟩, rd, [], []⟩ := by
  refine LS.value fun a w I ρ hev hrd => ?_
  have hv := hev x (by simp [ho, Op.operands]) _ hx
  obtain ⟨hu, hlen, hcs⟩ := src_rel (P := P) hs hv hrd
  obtain ⟨cs, hf, hrel⟩ := hcs xs.length (Nat.le_refl _)
  rw [List.take_length] at hrel
  obtain ⟨ns, h1, h2⟩ := bytesOf_rel hb hrel
  have hsl : ∃ base len k, a.eval x = .slice base len k := by
    cases hs with
    | nil => exact ⟨_, _, _, inv_nilsl hv⟩
    | vsl es len _ _ => rcases inv_vsl hv with ⟨_, _, ad, k, h⟩ | ⟨b, base, cap, f, _, _, _, _, _, h⟩ <;> exact ⟨_, _, _, h⟩
    | sl n off p i len cap root es _ _ _ _ _ => rcases inv_sl hv with ⟨_, _, ad, h⟩ | ⟨b, base, r, k, _, _, _, _, h⟩ <;> exact ⟨_, _, _, h⟩
    | str s _ => exact absurd rfl (hns s)
  obtain ⟨base, len, k, hc⟩ := hsl
  refine ⟨_, VRel.str _, ?_⟩
  have hlen' : len = xs.length := by
    rw [hc] at hlen
    simpa [Builtin.lenOf] using hlen
  subst hlen'
  have hf1 := hf w rfl
  rw [hc] at hf1
  have hbts : (Conv.bytesToString (.slice base xs.length k)).run P w = .ok (.string ⟨bs.toArray⟩) w := by
    cases base with
    | none =>
      have : cs = #[] := by simpa [Builtin.firstCells] using hf1.symm
      subst this
      have : ns = [] := by simpa using h1.symm
      subst this
      subst h2
      rfl
    | some ad =>
      have hl : (loadCells ad xs.length).run P w = .ok (ns.map (Value.int .u8)).toArray w := by
        simp only [Builtin.firstCells, Nat.mul_one] at hf1
        rw [hf1, ← h1]
      rw [run_bytesToString w ad xs.length k ns hl, foldl_push, h2]
      congr 2
      congr 1
      apply Array.ext'
      simp
  simp only [execOp, ho, hc, convert, Sem.run_bind, run_underlying' hS, run_underlying' hD, Result.andThen_ok]
  cases base with
  | none => simp only [run_underlying' hE, Sem.run_bind, Result.andThen_ok, hbts, Sem.run_pure]
  | some ad => simp only [run_underlying' hE, Sem.run_bind, Result.andThen_ok, hbts, Sem.run_pure]

end
end Go.Proofs.Ytbhhbadeabhfcaa
