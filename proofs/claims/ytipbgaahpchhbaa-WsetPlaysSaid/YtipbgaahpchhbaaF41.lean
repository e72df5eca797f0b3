/- Memory that is lent to a callee whose answer names none (any such answer). -/
import Derived.Test.YtipbgaahpchhbaaF40
set_option linter.unusedVariables false
set_option linter.unusedSimpArgs false
namespace Go.Proofs.Ytipbgaahpchhbaa
open Go Go.RowKit

/-- A value that is told alike of any memory. -/
def Steady (v : AV) : Prop := ∀ {w w' : World} {I I' : Nat → Prop} {ρ ρ' : Rho} {c : Value}, VRel w I ρ v c → VRel w' I' ρ' v c
theorem Steady.one {v : AV} (h : v.isPlain = true) : Steady v := fun hv => VRel.plain h hv
theorem CRel.plain {w w' : World} {I I' : Nat → Prop} {ρ ρ' : Rho} {v : AV} {c : Value} (hv : v.isPlain = true) (h : CRel w I ρ v c) : CRel w' I' ρ' v c := by
  cases v <;> simp only [AV.isPlain, Bool.false_eq_true] at hv
  · cases h; exact CRel.bool _
  · cases h; exact CRel.int _ _
  · cases h; exact CRel.str _
theorem XRel.steady {w w' : World} {I I' : Nat → Prop} {ρ ρ' : Rho} {vs : List AV} {c : Value} (hv : ∀ x, x ∈ AV.flatL vs → x.isPlain = true) (h : XRel w I ρ (.agg vs) c) : XRel w' I' ρ' (.agg vs) c := by
  obtain ⟨cs, rfl, h1, h2⟩ := h
  refine ⟨cs, rfl, h1, fun k hk => (h2 k hk).plain ?_⟩
  rw [List.getD_eq_getElem?_getD, List.getElem?_eq_getElem hk]
  exact hv _ (List.getElem_mem hk)
theorem Steady.agg {vs : List AV} (hv : ∀ x, x ∈ AV.flatL vs → x.isPlain = true) : Steady (.agg vs) := fun h => XRel.steady hv h
theorem Steady.tuple {vs : List AV} (hv : ∀ v, v ∈ vs → Steady v) (ht : ∀ v, v ∈ vs → ∀ us, v ≠ .tuple us) : Steady (.tuple vs) := by
  rintro w w' I I' ρ ρ' c ⟨cs, rfl, h1, h2⟩
  refine ⟨cs, rfl, h1, fun k hk => ?_⟩
  have hm : vs.getD k .undef ∈ vs := by
    rw [List.getD_eq_getElem?_getD, List.getElem?_eq_getElem hk]; exact List.getElem_mem hk
  have h3 := h2 k hk
  rw [← VRel_eq _ (ht _ hm)] at h3 ⊢
  exact hv _ hm h3

theorem ACall.borrowS {P : Program} {f : FuncId} {args args' : List AV} {v : AV} {H : Heap} (hc : ACall P f args [] v []) (hv : Steady v)
    (hargs : All2 (Frz (fun _ => False) H) args' args) : ACall P f args' H v H := by
  intro w I ρ cargs hsz hrel hbl hinj himm hfr
  let I1 : Nat → Prop := fun b => I b ∨ ∃ n blk o r, Heap.get H n = some blk ∧ ρ n = some (b, o, r)
  have hI : ∀ b, I b → I1 b := fun b h => .inl h
  have hfz : ∀ n blk b o r, Heap.get H n = some blk → ¬ False → ρ n = some (b, o, r) → I1 b := fun n blk b o r h1 _ h3 => .inr ⟨n, blk, o, r, h1, h3⟩
  have hlen := All2.length hargs
  have hrel1 : ∀ k, k < args.length → XRel w I1 ρ (args.getD k .undef) (cargs.getD k Go.undef) := fun k hk =>
    Frz.rel hI (fun _ _ h _ => h.elim) hbl hfz (All2.get .undef .undef hargs k (by omega)) (hrel k (by omega))
  have himm1 : Imm (OwnW ρ (([] : Heap).map (·.1))) w I1 := fun b hb => ⟨by
    rcases hb with hb | ⟨n, blk, o, r, h1, h3⟩
    · exact (himm b hb).1
    · exact (hbl n blk h1).lt h3, fun ⟨n, hn, _⟩ => by simp at hn⟩
  have hcall := hc w I1 ρ cargs (by omega) hrel1 (fun n b h => by simp [Heap.get] at h) (fun n m x y _ h => by simp [Heap.get] at h) himm1 (fun n x h => by simp [Heap.get] at h)
  refine Calls.mono hcall ?_
  rintro e w' ⟨c, I', ρ', rfl, hp⟩
  have hkeep : ∀ b, b < w.heap.size → w'.heap[b]? = w.heap[b]? := fun b hb => hp.ext.keep b hb (fun ⟨n, hn, _⟩ => by simp at hn)
  let own := OwnW ρ (H.map (·.1))
  let I2 : Nat → Prop := fun b => I' b ∧ ¬ own b
  have hx : Ext own w w' I I2 ρ ρ' := ⟨hp.ext.os, hp.ext.tape, hp.ext.output, hp.ext.size, fun b hb _ => hkeep b hb, fun b hb => ⟨hp.ext.imm b (hI b hb), (himm b hb).2⟩, fun b hb => by
    rcases hp.ext.new b hb.1 with (h | ⟨n', blk, o', r', h1, h3⟩) | ⟨m, hm, _⟩ | h
    · exact .inl h
    · exact .inr (.inl ⟨n', get_map h1, o', r', h3⟩)
    · simp at hm
    · exact .inr (.inr h), hp.ext.rho⟩
  refine ⟨c, I2, ρ', rfl, ⟨hv hp.val, fun n b hn => ?_, fun n m x y hnm h1 h2 b o r b' o' r' hr hr' => ?_, fun n x hn b o r hr => ?_, hx, fun b hb => hp.lt b hb.1, fun n hn _ => hp.fresh n hn rfl⟩⟩
  · have hrel0 := hbl n b hn
    cases b with
    | cells x0 =>
      obtain ⟨bb, o, r, h1, h2, h3⟩ := hrel0
      exact ⟨bb, o, r, hp.ext.rho n _ h1, fun h => h.2 ⟨n, get_map hn, o, r, h1⟩, h3.mono hx himm (hkeep bb h3.lt)⟩
    | raw bb ob =>
      obtain ⟨o, r, h1, h2, h3, h4⟩ := hrel0
      have hlt : bb < w.heap.size := (hbl n _ hn).lt h1
      exact ⟨o, r, hp.ext.rho n _ h1, fun h => h.2 ⟨n, get_map hn, o, r, h1⟩, h3, (hkeep bb hlt).trans h4⟩
    | map es =>
      obtain ⟨bb, o, r, h1, h2, h3⟩ := hrel0
      exact ⟨bb, o, r, hp.ext.rho n _ h1, fun h => h.2 ⟨n, get_map hn, o, r, h1⟩, h3.mono hx himm (hkeep bb h3.lt)⟩
  · obtain ⟨b1, o1, r1, e1, _⟩ := (hbl n x h1).dom
    obtain ⟨b2, o2, r2, e2, _⟩ := (hbl m y h2).dom
    have f1 := hp.ext.rho n _ e1
    have f2 := hp.ext.rho m _ e2
    rw [hr] at f1; cases f1
    rw [hr'] at f2; cases f2
    exact hinj n m x y hnm h1 h2 _ _ _ _ _ _ e1 e2
  · obtain ⟨b1, o1, r1, e1, _⟩ := (hbl n x hn).dom
    have f1 := hp.ext.rho n _ e1
    rw [hr] at f1; cases f1
    exact .inl ⟨n, get_map hn, o, r, e1⟩
/-- A call of a function value. -/
theorem CallTo.genF {P : Program} {o : Oper} {s : St} {K : Eff → Nat → Prop} {f : FuncId} {fo : Operand} {as : Array Operand} {ts : Array TypeId} {args caps : List AV} {v : AV} (HH put : Heap) (nx : Nat)
    (ho : o.op = .call { callee := .value fo, args := as, argTypes := ts }) (hfo : s.ev fo = some (.func f caps)) (hok : fnOk P f = true) (hargs : as.toList.map s.ev = args.map some) (hta : ∀ x, x ∈ args → ∀ vs, x ≠ .tuple vs)
    (hcaps : ∀ x, x ∈ caps → (∀ vs, x ≠ .tuple vs) ∧ ∀ vs, x ≠ .agg vs) (hc : ACall P f (args ++ caps) HH v put) (hH : ∀ n b, Heap.get HH n = some b → Heap.get s.H n = some b)
    (hnx : s.nx ≤ nx ∧ ∀ n x, Heap.get put n = some x → n ∉ HH.map (·.1) → s.nx ≤ n ∧ n < nx)
    (hK : K ⟨v, [], HH.map (·.1), put⟩ nx) : CallTo P o s K := by
  refine ⟨_, nx, ls_call ho hfo hok hargs hta hcaps hc hH, ⟨hnx.1, fun n x hn hw => hnx.2 n x hn hw, fun n hn => ?_⟩, hK⟩
  obtain ⟨b, hb⟩ := get_mem hn
  exact ⟨b, hH n b hb⟩
end Go.Proofs.Ytipbgaahpchhbaa
