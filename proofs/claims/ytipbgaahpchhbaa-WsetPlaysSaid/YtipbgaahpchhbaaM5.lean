/- Contracts under other names. -/
import Derived.Test.YtipbgaahpchhbaaM4
import Derived.Laws.IdiomRangeMap
set_option linter.unusedVariables false
set_option linter.unusedSimpArgs false
namespace Go.Proofs.Ytipbgaahpchhbaa
open Go Go.RowKit

mutual
def AV.ren (π : Nat → Nat) : AV → AV
  | .ptr n o p => .ptr (π n) o p
  | .sl n o p i l c w => .sl (π n) o p i l c w
  | .mapv n => .mapv (π n)
  | .vptr r o p => .vptr (AV.ren π r) o p
  | .vsl es l => .vsl (AV.renL π es) l
  | .func f cs => .func f (AV.renL π cs)
  | .iface t v => .iface t (AV.ren π v)
  | .agg vs => .agg (AV.renL π vs)
  | .tuple vs => .tuple (AV.renL π vs)
  | .undef => .undef
  | .bool b => .bool b
  | .int k n => .int k n
  | .str s => .str s
  | .nilptr => .nilptr
  | .nilsl => .nilsl
  | .nilmap => .nilmap
  | .nilfunc => .nilfunc
  | .niliface => .niliface
def AV.renL (π : Nat → Nat) : List AV → List AV
  | [] => []
  | v :: vs => AV.ren π v :: AV.renL π vs
end
section
variable {π : Nat → Nat}
theorem AV.renL_map : ∀ {vs : List AV}, AV.renL π vs = vs.map (AV.ren π)
  | [] => rfl
  | v :: vs => by simp [AV.renL, AV.renL_map (vs := vs)]
theorem AV.renL_append {a b : List AV} : AV.renL π (a ++ b) = AV.renL π a ++ AV.renL π b := by simp [AV.renL_map]
mutual
theorem AV.size_ren : ∀ {v : AV}, (AV.ren π v).size = v.size
  | .agg vs => by simp only [AV.ren, AV.size]; exact AV.sizeL_ren
  | .undef | .bool _ | .int _ _ | .str _ | .nilptr | .ptr _ _ _ | .vptr _ _ _ | .nilsl | .sl _ _ _ _ _ _ _ | .vsl _ _ | .nilmap | .mapv _
  | .func _ _ | .nilfunc | .iface _ _ | .niliface | .tuple _ => rfl
theorem AV.sizeL_ren : ∀ {vs : List AV}, AV.sizeL (AV.renL π vs) = AV.sizeL vs
  | [] => rfl
  | v :: vs => by simp only [AV.renL, AV.sizeL, AV.size_ren (v := v), AV.sizeL_ren (vs := vs)]
end
mutual
theorem AV.flat_ren : ∀ {v : AV}, (AV.ren π v).flat = v.flat.map (AV.ren π)
  | .agg vs => by simp only [AV.ren, AV.flat]; exact AV.flatL_ren
  | .undef | .bool _ | .int _ _ | .str _ | .nilptr | .ptr _ _ _ | .vptr _ _ _ | .nilsl | .sl _ _ _ _ _ _ _ | .vsl _ _ | .nilmap | .mapv _
  | .func _ _ | .nilfunc | .iface _ _ | .niliface | .tuple _ => by simp [AV.ren, AV.flat]
theorem AV.flatL_ren : ∀ {vs : List AV}, AV.flatL (AV.renL π vs) = (AV.flatL vs).map (AV.ren π)
  | [] => rfl
  | v :: vs => by simp only [AV.renL, AV.flatL, AV.flat_ren (v := v), AV.flatL_ren (vs := vs), List.map_append]
end
theorem AV.getD_ren {vs : List AV} {k : Nat} : (vs.map (AV.ren π)).getD k .undef = AV.ren π (vs.getD k .undef) := by
  rw [List.getD_eq_getElem?_getD, List.getD_eq_getElem?_getD, List.getElem?_map]
  cases vs[k]? <;> rfl
mutual
theorem AV.on_ren {S : Nat → Prop} (h : ∀ n, S (π n)) : ∀ {v : AV}, AV.on S (AV.ren π v)
  | .ptr n _ _ => h n
  | .sl n _ _ _ _ _ _ => h n
  | .mapv n => h n
  | .vptr r _ _ => AV.on_ren h (v := r)
  | .vsl es _ => AV.onL_ren h (vs := es)
  | .func _ cs => AV.onL_ren h (vs := cs)
  | .iface _ v => AV.on_ren h (v := v)
  | .agg vs => AV.onL_ren h (vs := vs)
  | .tuple vs => AV.onL_ren h (vs := vs)
  | .undef | .bool _ | .int _ _ | .str _ | .nilptr | .nilsl | .nilmap | .nilfunc | .niliface => trivial
theorem AV.onL_ren {S : Nat → Prop} (h : ∀ n, S (π n)) : ∀ {vs : List AV}, AV.onL S (AV.renL π vs)
  | [] => trivial
  | v :: vs => ⟨AV.on_ren h (v := v), AV.onL_ren h (vs := vs)⟩
end
mutual
theorem AV.ren_of_on : ∀ {v : AV}, AV.on (fun _ => False) v → AV.ren π v = v
  | .ptr n _ _, h => h.elim
  | .sl n _ _ _ _ _ _, h => h.elim
  | .mapv n, h => h.elim
  | .vptr r _ _, h => by simp only [AV.ren, AV.ren_of_on (v := r) h]
  | .vsl es _, h => by simp only [AV.ren, AV.renL_of_on (vs := es) h]
  | .func _ cs, h => by simp only [AV.ren, AV.renL_of_on (vs := cs) h]
  | .iface _ v, h => by simp only [AV.ren, AV.ren_of_on (v := v) h]
  | .agg vs, h => by simp only [AV.ren, AV.renL_of_on (vs := vs) h]
  | .tuple vs, h => by simp only [AV.ren, AV.renL_of_on (vs := vs) h]
  | .undef, _ | .bool _, _ | .int _ _, _ | .str _, _ | .nilptr, _ | .nilsl, _ | .nilmap, _ | .nilfunc, _ | .niliface, _ => rfl
theorem AV.renL_of_on : ∀ {vs : List AV}, AV.onL (fun _ => False) vs → AV.renL π vs = vs
  | [], _ => rfl
  | v :: vs, h => by simp only [AV.renL, AV.ren_of_on (v := v) h.1, AV.renL_of_on (vs := vs) h.2]
end
mutual
theorem AV.ren_ren {τ : Nat → Nat} (h : ∀ n, τ (π n) = n) : ∀ {v : AV}, AV.ren τ (AV.ren π v) = v
  | .ptr n _ _ => by simp only [AV.ren, h]
  | .sl n _ _ _ _ _ _ => by simp only [AV.ren, h]
  | .mapv n => by simp only [AV.ren, h]
  | .vptr r _ _ => by simp only [AV.ren, AV.ren_ren h (v := r)]
  | .vsl es _ => by simp only [AV.ren, AV.renL_ren h (vs := es)]
  | .func _ cs => by simp only [AV.ren, AV.renL_ren h (vs := cs)]
  | .iface _ v => by simp only [AV.ren, AV.ren_ren h (v := v)]
  | .agg vs => by simp only [AV.ren, AV.renL_ren h (vs := vs)]
  | .tuple vs => by simp only [AV.ren, AV.renL_ren h (vs := vs)]
  | .undef | .bool _ | .int _ _ | .str _ | .nilptr | .nilsl | .nilmap | .nilfunc | .niliface => rfl
theorem AV.renL_ren {τ : Nat → Nat} (h : ∀ n, τ (π n) = n) : ∀ {vs : List AV}, AV.renL τ (AV.renL π vs) = vs
  | [] => rfl
  | v :: vs => by simp only [AV.renL, AV.ren_ren h (v := v), AV.renL_ren h (vs := vs)]
end

section
variable {w : World} {I : Nat → Prop} {ρ ρ' : Rho} {S : Nat → Prop}
theorem CRel.ren (hS : ∀ n x, S n → ρ n = some x → ρ' (π n) = some x) {x : AV} {c : Value} (hc : CRel w I ρ x c) (hx : AV.on S x) : CRel w I ρ' (AV.ren π x) c := by
  induction hc with
  | undef c h => exact .undef c h
  | bool b => exact .bool b
  | int k n => exact .int k n
  | str s => exact .str s
  | nilptr => exact .nilptr
  | ptr n off p b o r hr => exact .ptr _ off p b o r (hS _ _ hx hr)
  | vptr root off p b o c hb hc _ ih =>
    refine .vptr _ off p b o c hb (fun k hk => hc k (by rwa [AV.size_ren] at hk)) fun k hk => ?_
    rw [AV.size_ren] at hk
    rw [AV.flat_ren, AV.getD_ren]
    exact ih k hk (getD_on (AV.on_flat (show AV.on S root from hx)) k)
  | nilsl => exact .nilsl
  | sl n off p i len cap wd b o r c hr h1 h2 h3 => exact .sl _ off p i len cap wd b o r c (hS _ _ hx hr) h1 h2 h3
  | sl0 n off p i wd a => exact .sl0 _ off p i wd a
  | vsl0 a c => exact .vsl0 a c
  | vsl es len b o cap c hb h1 h2 hc _ ih =>
    have hl : (AV.renL π es).length = es.length := by rw [AV.renL_map, List.length_map]
    refine .vsl _ len b o cap c hb (by omega) (by omega) (fun k hk => hc k (by rwa [AV.sizeL_ren] at hk)) fun k hk => ?_
    rw [AV.sizeL_ren] at hk
    rw [AV.flatL_ren, AV.getD_ren]
    exact ih k hk (getD_on (AV.on_flatL hx) k)
  | nilmap => exact .nilmap
  | mapv n b o r hr => exact .mapv _ b o r (hS _ _ hx hr)
  | func f caps cs hs _ ih =>
    have hl : (AV.renL π caps).length = caps.length := by rw [AV.renL_map, List.length_map]
    refine .func f _ cs (by omega) fun k hk => ?_
    rw [AV.renL_map, AV.getD_ren]
    exact ih k (by omega) (getD_on (AV.onL_iff.1 hx) k)
  | nilfunc => exact .nilfunc
  | iface t v c _ ih => exact .iface t _ c (ih hx)
  | niliface => exact .niliface
theorem CsRel.ren (hS : ∀ n x, S n → ρ n = some x → ρ' (π n) = some x) {xs : List AV} {cs : List Value} (hc : CsRel w I ρ xs cs) (hx : ∀ x, x ∈ xs → AV.on S x) : CsRel w I ρ' (xs.map (AV.ren π)) cs :=
  ⟨by rw [List.length_map]; exact hc.1, fun k hk => by
    rw [AV.getD_ren]
    exact (hc.2 k (by rwa [List.length_map] at hk)).ren hS (getD_on hx k)⟩
theorem XRel.ren (hS : ∀ n x, S n → ρ n = some x → ρ' (π n) = some x) {x : AV} {c : Value} (hc : XRel w I ρ x c) (hx : AV.on S x) : XRel w I ρ' (AV.ren π x) c := by
  cases x with
  | agg vs =>
    obtain ⟨cs, rfl, hcs⟩ := hc
    refine ⟨cs, rfl, ?_⟩
    rw [AV.flatL_ren]
    exact hcs.ren hS (AV.on_flatL hx)
  | tuple vs => exact hc.elim
  | undef => trivial
  | _ => exact CRel.ren hS hc hx
theorem VRel.ren (hS : ∀ n x, S n → ρ n = some x → ρ' (π n) = some x) {x : AV} {c : Value} (hc : VRel w I ρ x c) (hx : AV.on S x) : VRel w I ρ' (AV.ren π x) c := by
  cases x with
  | tuple vs =>
    obtain ⟨cs, rfl, h1, h2⟩ := hc
    refine ⟨cs, rfl, by rw [AV.renL_map, List.length_map]; exact h1, fun k hk => ?_⟩
    rw [AV.renL_map] at hk ⊢
    rw [AV.getD_ren]
    exact (h2 k (by rwa [List.length_map] at hk)).ren hS (getD_on (AV.onL_iff.1 hx) k)
  | agg vs => exact XRel.ren (x := .agg vs) hS hc hx
  | undef => trivial
  | _ => exact CRel.ren hS hc hx

def ABlk.ren (π : Nat → Nat) : ABlk → ABlk
  | .cells v => .cells (v.ren π)
  | .map es => .map (es.map fun e => (e.1.ren π, e.2.ren π))
  | .raw b ob => .raw b ob
def Heap.ren (π : Nat → Nat) (H : Heap) : Heap := H.map fun e => (π e.1, e.2.ren π)

theorem BRel.ren (hS : ∀ n x, S n → ρ n = some x → ρ' (π n) = some x) {n : Nat} {b : ABlk} (hc : BRel w I ρ n b) (hn : S n) (hx : b.on S) : BRel w I ρ' (π n) (b.ren π) := by
  cases b with
  | cells v =>
    obtain ⟨b, o, r, h1, h2, h3⟩ := hc
    obtain ⟨arr, T, fz, g1, g2, g3, g4, g5⟩ := h3.ex
    refine ⟨b, o, r, hS _ _ hn h1, h2, arr, T, fz, g1, g2, g3, by rw [AV.flat_ren, List.length_map]; exact g4, fun k hk => ?_⟩
    rw [AV.flat_ren, AV.getD_ren]
    rw [AV.flat_ren, List.length_map] at hk
    exact (g5 k hk).ren hS (getD_on (AV.on_flat hx) k)
  | map es =>
    obtain ⟨b, o, r, h1, h2, h3⟩ := hc
    obtain ⟨ents, clock, es0, hp, g1, g2, g3, g4, g5⟩ := h3.ex
    have hl : (es0.map fun e => (e.1.ren π, e.2.ren π)).length = es0.length := by simp
    refine ⟨b, o, r, hS _ _ hn h1, h2, ents, clock, es0.map fun e => (e.1.ren π, e.2.ren π), hp.map _, g1, by omega, fun k hk => ?_, g4, g5⟩
    rw [hl] at hk
    have he : es0[k]? = some (es0.getD k (.undef, .undef)) := by rw [List.getD_eq_getElem?_getD, List.getElem?_eq_getElem hk]; rfl
    have e1 : (es0.map fun e => (e.1.ren π, e.2.ren π)).getD k (.undef, .undef) = ((es0.getD k (.undef, .undef)).1.ren π, (es0.getD k (.undef, .undef)).2.ren π) := by
      rw [List.getD_eq_getElem?_getD, List.getElem?_map, he]; rfl
    rw [e1]
    have hm := hx _ (hp.mem_iff.1 (List.mem_of_getElem? he))
    exact ⟨(g3 k hk).1.ren hS hm.1, (g3 k hk).2.ren hS hm.2⟩
  | raw b ob => obtain ⟨o, r, h1, h2, h3, h4⟩ := hc; exact ⟨o, r, hS _ _ hn h1, h2, h3, h4⟩

theorem Heap.get_ren {σ : Nat → Nat} (hσ : ∀ n, σ (π n) = n) : ∀ {H : Heap} {m : Nat} {b : ABlk}, Heap.get (H.ren π) m = some b → ∃ n b0, m = π n ∧ Heap.get H n = some b0 ∧ b = b0.ren π
  | [], m, b, h => by simp [Heap.ren, Heap.get] at h
  | (k, x) :: H, m, b, h => by
    simp only [Heap.ren, List.map_cons, Heap.get] at h
    by_cases hm : m = π k
    · rw [if_pos hm] at h
      cases h
      exact ⟨k, x, hm, by simp [Heap.get], rfl⟩
    · rw [if_neg hm] at h
      obtain ⟨n, b0, h1, h2, h3⟩ := Heap.get_ren hσ (H := H) h
      refine ⟨n, b0, h1, ?_, h3⟩
      simp only [Heap.get]
      rw [if_neg (fun h => hm (by rw [h1, h]))]
      exact h2
theorem Heap.ren_get {σ : Nat → Nat} (hσ : ∀ n, σ (π n) = n) : ∀ {H : Heap} {n : Nat}, Heap.get (H.ren π) (π n) = (Heap.get H n).map (ABlk.ren π)
  | [], n => rfl
  | (k, x) :: H, n => by
    have hinj : (π n = π k) ↔ n = k := ⟨fun h => by rw [← hσ n, h, hσ], fun h => by rw [h]⟩
    simp only [Heap.ren, List.map_cons, Heap.get]
    by_cases hm : n = k
    · rw [if_pos hm, if_pos (hinj.2 hm)]; rfl
    · rw [if_neg hm, if_neg (fun h => hm (hinj.1 h))]
      exact Heap.ren_get hσ (H := H)
theorem Heap.names_ren {H : Heap} : (H.ren π).map (·.1) = (H.map (·.1)).map π := by simp [Heap.ren]

/-- A contract holds under other names. -/
theorem ACall.ren {P : Program} {f : FuncId} {args : List AV} {v : AV} {H put : Heap} {σ : Nat → Nat} (hσ : ∀ n, σ (π n) = n) (hc : ACall P f args H v put) : ACall P f (args.map (AV.ren π)) (H.ren π) (v.ren π) (put.ren π) := by
  intro w I ρ cargs hsz hrel hbl hinj himm hfr
  have inj : ∀ a b, π a = π b → a = b := fun a b h => by rw [← hσ a, h, hσ]
  have hback : ∀ n x, (∃ k, n = π k) → ρ n = some x → (fun n => ρ (π n)) (σ n) = some x := by
    rintro n x ⟨k, rfl⟩ h
    show ρ (π (σ (π k))) = some x
    rw [hσ]; exact h
  have hown : ∀ b, OwnW (fun n => ρ (π n)) (H.map (·.1)) b ↔ OwnW ρ ((H.ren π).map (·.1)) b := by
    intro b
    rw [Heap.names_ren]
    constructor
    · rintro ⟨n, hn, o, r, h⟩
      exact ⟨π n, List.mem_map.2 ⟨n, hn, rfl⟩, o, r, h⟩
    · rintro ⟨n, hn, o, r, h⟩
      obtain ⟨k, hk, rfl⟩ := List.mem_map.1 hn
      exact ⟨k, hk, o, r, h⟩
  have hbl0 : ∀ n b, Heap.get H n = some b → BRel w I (fun n => ρ (π n)) n b := by
    intro n b h
    have h1 := hbl (π n) (b.ren π) (by rw [Heap.ren_get hσ, h]; rfl)
    have h2 := h1.ren (π := σ) (ρ' := fun n => ρ (π n)) hback ⟨n, rfl⟩ (by
      cases b with
      | cells v => exact AV.on_ren (v := v) fun k => ⟨k, rfl⟩
      | map es =>
        intro x hx
        obtain ⟨y, _, rfl⟩ := List.mem_map.1 hx
        exact ⟨AV.on_ren fun k => ⟨k, rfl⟩, AV.on_ren fun k => ⟨k, rfl⟩⟩
      | raw _ _ => trivial)
    have e : (b.ren π).ren σ = b := by
      cases b with
      | cells v => simp only [ABlk.ren, AV.ren_ren hσ]
      | map es =>
        simp only [ABlk.ren, List.map_map]
        congr 1
        conv => rhs; rw [← List.map_id es]
        apply List.map_congr_left
        intro x _
        simp only [Function.comp, AV.ren_ren hσ, id]
      | raw _ _ => rfl
    rw [e, hσ] at h2
    exact h2
  have hcall := hc w I (fun n => ρ (π n)) cargs (by simpa using hsz) (fun k hk => by
      have h1 := hrel k (by simpa using hk)
      rw [AV.getD_ren] at h1
      have h2 := h1.ren (π := σ) (ρ' := fun n => ρ (π n)) hback (AV.on_ren fun k => ⟨k, rfl⟩)
      rwa [AV.ren_ren hσ] at h2) hbl0
    (fun n m x y hnm h1 h2 => hinj (π n) (π m) (x.ren π) (y.ren π) (fun h => hnm (inj _ _ h)) (by rw [Heap.ren_get hσ, h1]; rfl) (by rw [Heap.ren_get hσ, h2]; rfl))
    (fun b hb => ⟨(himm b hb).1, fun h => (himm b hb).2 ((hown b).1 h)⟩)
    (fun n x h hn => hfr (π n) (x.ren π) (by rw [Heap.ren_get hσ, h]; rfl) (by
      rw [Heap.names_ren, List.mem_map]
      rintro ⟨k, hk, hkn⟩
      exact hn (inj _ _ hkn ▸ hk)))
  refine Calls.mono hcall ?_
  rintro e w' ⟨c, I', ρ0, rfl, hp⟩
  let ρ' : Rho := fun m => if π (σ m) = m then ρ0 (σ m) else ρ m
  have hf : ∀ n, ρ' (π n) = ρ0 n := fun n => by
    show (if π (σ (π n)) = π n then ρ0 (σ (π n)) else _) = _
    rw [hσ, if_pos rfl]
  have hS : ∀ n x, (fun _ => True) n → ρ0 n = some x → ρ' (π n) = some x := fun n x _ h => by rw [hf]; exact h
  have hT : ∀ {x : AV}, AV.on (fun _ => True) x := fun {x} => by
    have := AV.on_ren (π := id) (S := fun _ => True) (fun _ => trivial) (v := x)
    have e : AV.ren id x = x := by
      have := AV.ren_ren (π := id) (τ := id) (fun _ => rfl) (v := x)
      have h3 : ∀ y : AV, AV.ren id (AV.ren id y) = AV.ren id y := fun y => by
        have key : ∀ y : AV, AV.ren id y = y := by
          intro y
          refine AV.rec (motive_1 := fun y => AV.ren id y = y) (motive_2 := fun ys => AV.renL id ys = ys) ?_ ?_ ?_ ?_ ?_ ?_ ?_ ?_ ?_ ?_ ?_ ?_ ?_ ?_ ?_ ?_ ?_ ?_ ?_ ?_ y
          all_goals intros
          all_goals simp only [AV.ren, AV.renL, id, *]
        rw [key (AV.ren id y)]
      rw [← h3, this]
    rwa [e] at this
  refine ⟨c, I', ρ', rfl, ⟨hp.val.ren hS hT, fun m b hm => ?_, fun m1 m2 x y hne h1 h2 b o r b' o' r' hr hr' => ?_, fun m x hm b o r hr => ?_, ⟨hp.ext.os, hp.ext.tape, hp.ext.output, hp.ext.size, fun b hb hn => hp.ext.keep b hb fun h => hn ((hown b).1 h), hp.ext.imm, fun b hb => ?_, fun m x hm => ?_⟩, hp.lt, fun m hm hpm => ?_⟩⟩
  · obtain ⟨n, b0, rfl, h1, rfl⟩ := Heap.get_ren hσ hm
    refine (hp.blk n b0 h1).ren hS trivial ?_
    cases b0 with
    | cells v => exact hT
    | map es => exact fun x _ => ⟨hT, hT⟩
    | raw _ _ => trivial
  · obtain ⟨n1, b1, rfl, g1, rfl⟩ := Heap.get_ren hσ h1
    obtain ⟨n2, b2, rfl, g2, rfl⟩ := Heap.get_ren hσ h2
    rw [hf] at hr hr'
    exact hp.inj n1 n2 b1 b2 (fun h => hne (by rw [h])) g1 g2 b o r b' o' r' hr hr'
  · obtain ⟨n, b0, rfl, h1, rfl⟩ := Heap.get_ren hσ hm
    rw [hf] at hr
    rcases hp.own n b0 h1 b o r hr with h | h
    · exact .inl ((hown b).1 h)
    · exact .inr h
  · rcases hp.ext.new b hb with h | h | h
    · exact .inl h
    · exact .inr (.inl ((hown b).1 h))
    · exact .inr (.inr h)
  · show (if π (σ m) = m then ρ0 (σ m) else ρ m) = some x
    by_cases h : π (σ m) = m
    · rw [if_pos h]
      exact hp.ext.rho (σ m) x (by show ρ (π (σ m)) = _; rw [h]; exact hm)
    · rw [if_neg h]; exact hm
  · show (if π (σ m) = m then ρ0 (σ m) else ρ m) = none
    by_cases h : π (σ m) = m
    · rw [if_pos h]
      refine hp.fresh (σ m) (by show ρ (π (σ m)) = _; rw [h]; exact hm) ?_
      have h2 : Heap.get (put.ren π) (π (σ m)) = none := by rw [h]; exact hpm
      rw [Heap.ren_get hσ] at h2
      cases hg : Heap.get put (σ m) with
      | none => rfl
      | some b => rw [hg] at h2; cases h2
    · rw [if_neg h]; exact hm
end
end
end Go.Proofs.Ytipbgaahpchhbaa
/- Maps that are gone over; names that are taken back. -/
namespace Go.Proofs.Ytipbgaahpchhbaa
open Go Go.RowKit

theorem getD_toList' {α : Type} {a : Array α} {i : Nat} {d : α} : a.toList.getD i d = a.getD i d := by
  rw [List.getD_eq_getElem?_getD, Array.getElem?_toList, Array.getD_eq_getD_getElem?]

section
variable {P : Program} {o : Oper} {s : St}
theorem run_getIter {w : World} {b : Nat} {i : Option Nat} {j l : Nat} {k : Array Nat} (h : w.heap[b]? = some (.mapIter i j k l)) : (getObj b).run P w = .ok (.mapIter i j k l) w := by
  simp [getObj, Sem.run, h]
theorem run_setIter {w : World} {b : Nat} {i : Option Nat} {j l : Nat} {k : Array Nat} (ob' : Obj) (h : w.heap[b]? = some (.mapIter i j k l)) : (setObj b ob').run P w = .ok () { w with heap := w.heap.setIfInBounds b ob' } := by
  simp [setObj, Sem.run, h]

/-- 'next' over a map whose stamps are all elder than the loop. -/
theorem run_next_at (w : World) (ty : TypeId) (bi bm clock : Nat) (seen : Array Nat) (es : Array MapEntry) (hi : w.heap[bi]? = some (.mapIter (some bm) clock seen clock)) (hb : w.heap[bm]? = some (.map es clock)) (hold : ∀ x ∈ es.toList, x.born < clock) :
    ((leftOf es seen).size = 0 ∧ (Instr.next (.pointer (some ⟨bi, 0, none⟩)) false ty).run P w = .ok (.tuple #[.bool false]) w) ∨
    ∃ e ∈ (leftOf es seen).toList, ∃ w1 : World, (w1.heap = w.heap ∧ w1.os = w.os ∧ w1.tape = w.tape ∧ w1.output = w.output) ∧ (Instr.next (.pointer (some ⟨bi, 0, none⟩)) false ty).run P w = .ok (.tuple #[.bool true, e.key, e.val]) { w1 with heap := w.heap.setIfInBounds bi (.mapIter (some bm) clock (seen.push e.born) clock) } := by
  have hg1 := run_getIter (P := P) hi
  have hg2 := MapKept.run_getObj_map (P := P) hb
  simp only [Instr.next, Sem.run_bind, hg1, hg2, Result.andThen, next_test_false seen es clock clock hold (Nat.le_refl _), Bool.false_eq_true, if_false]
  unfold leftOf
  have hmem : ∀ x ∈ (Array.filter (fun e => !seen.contains e.born) es).toList, x.born < clock := fun x hx => hold x (by simp at hx ⊢; exact hx.1)
  generalize Array.filter (fun e => !seen.contains e.born) es = L at hmem ⊢
  have e1 : L.filter (fun x => decide (x.born < clock)) = L := Array.filter_eq_self.2 (fun x hx => by simpa using hmem x (by simpa using hx))
  have e2 : L.filter (fun x => decide (x.born ≥ clock)) = #[] := by
    rw [Array.filter_eq_empty_iff]
    intro x hx
    have := hmem x (by simpa using hx)
    simp
    omega
  simp only [e1, e2, Array.append_empty]
  by_cases h0 : L.size = 0
  · left
    have : L = #[] := Array.eq_empty_of_size_eq_zero h0
    subst this
    refine ⟨rfl, ?_⟩
    simp [choose, Sem.run, Question.forced]
  · right
    have hne : L.isEmpty = false := by simp [Array.isEmpty, h0]
    simp only [hne, Bool.false_eq_true, if_false, Array.empty_append, Array.size_map]
    have hch : ∃ (j : Nat) (w1 : World), j < L.size ∧ (w1.heap = w.heap ∧ w1.os = w.os ∧ w1.tape = w.tape ∧ w1.output = w.output) ∧ (choose (Question.mapNext L.size)).run P w = .ok j w1 := by
      by_cases hf : L.size ≤ 1
      · exact ⟨0, w, by omega, ⟨rfl, rfl, rfl, rfl⟩, by simp [choose, Sem.run, Question.forced, hf]⟩
      · exact ⟨_, w.drew, Nat.mod_lt _ (by omega), ⟨rfl, rfl, rfl, rfl⟩, by
          simp only [choose, Sem.run, Question.forced, decide_eq_true_eq, hf, if_false, Question.cut]
          rfl⟩
    obtain ⟨j, w1, hj, hal, hrun⟩ := hch
    refine ⟨L[j], by simp, w1, hal, ?_⟩
    have hi1 : w1.heap[bi]? = some (.mapIter (some bm) clock seen clock) := by rw [hal.1]; exact hi
    simp only [hrun, Array.getElem?_map, Array.getElem?_eq_getElem hj, Option.map_some, Sem.run_bind, run_setIter _ hi1, Result.andThen, hal.1]
    rfl

theorem plainV_scalar {w : World} {I : Nat → Prop} {ρ : Rho} {x : AV} {v : Value} (h : scalarV x = some v) : CRel w I ρ x v := by
  cases x <;> simp only [scalarV, Option.some.injEq, reduceCtorEq] at h <;> subst h <;> constructor
theorem plain_rel {w : World} {I : Nat → Prop} {ρ : Rho} {x : AV} {v : Value} (h : plainV x = some v) : XRel w I ρ x v := by
  cases x with
  | agg vs =>
    simp only [plainV] at h
    cases hm : (AV.flatL vs).mapM scalarV with
    | none => simp [hm] at h
    | some l =>
      simp only [hm, Option.map_some, Option.some.injEq] at h
      subst h
      obtain ⟨g1, g2⟩ := mapM_idx hm
      refine ⟨l.toArray, rfl, by simp [g1], fun k hk => ?_⟩
      obtain ⟨y, h1, h2⟩ := g2 k _ (List.getElem?_eq_getElem hk)
      rw [List.getD_eq_getElem?_getD, List.getElem?_eq_getElem hk, List.getD_eq_getElem?_getD, h2]
      exact plainV_scalar h1
  | bool b => simp only [plainV, Option.some.injEq] at h; subst h; exact CRel.bool b
  | int k n => simp only [plainV, Option.some.injEq] at h; subst h; exact CRel.int k n
  | str s => simp only [plainV, Option.some.injEq] at h; subst h; exact CRel.str s
  | _ => simp [plainV] at h
theorem plainV_not_tuple {x : AV} {v : Value} (h : plainV x = some v) : ∀ vs, x ≠ .tuple vs := by
  rintro vs rfl; simp [plainV] at h

/-- The entries of a map's block. -/
structure EntsOf (es : List (AV × AV)) (ents : Array MapEntry) (clock : Nat) : Prop where
  size : ents.size = es.length
  plain : ∀ (k : Nat) (e : AV × AV), es[k]? = some e → plainV e.1 = some (ents.getD k default).key ∧ plainV e.2 = some (ents.getD k default).val
  old : ∀ k, k < ents.size → (ents.getD k default).born < clock
  apart : ∀ j k, j < k → k < ents.size → (ents.getD j default).born ≠ (ents.getD k default).born

def seenOf (ents : Array MapEntry) (js : List Nat) : Array Nat := (js.map fun j => (ents.getD j default).born).toArray
abbrev iterB (bi bm clock : Nat) (ents : Array MapEntry) (js : List Nat) : ABlk := .raw bi (.mapIter (some bm) clock (seenOf ents js) clock)
abbrev rangB (bm clock : Nat) (ents : Array MapEntry) : ABlk := .raw bm (.map ents clock)

theorem EntsOf.at {es : List (AV × AV)} {ents : Array MapEntry} {clock : Nat} (h : EntsOf es ents clock) {k : Nat} (hk : k < es.length) : ents.toList[k]? = some (ents.getD k default) := by
  have hk2 : k < ents.size := by rw [h.size]; exact hk
  rw [Array.getElem?_toList, Array.getD_eq_getD_getElem?, Array.getElem?_eq_getElem hk2]; rfl
theorem EntsOf.left {es : List (AV × AV)} {ents : Array MapEntry} {clock : Nat} (h : EntsOf es ents clock) {js : List Nat} (hj : ∀ j, j ∈ js → j < es.length) {e : MapEntry} : e ∈ (leftOf ents (seenOf ents js)).toList ↔ ∃ k, k < es.length ∧ k ∉ js ∧ e = ents.getD k default := by
  unfold leftOf seenOf
  simp only [Array.toList_filter, List.mem_filter, Bool.not_eq_true', List.contains_toArray, List.contains_eq_mem, List.mem_map, decide_eq_false_iff_not, not_exists, not_and]
  constructor
  · rintro ⟨h1, h2⟩
    obtain ⟨k, hk⟩ := List.getElem?_of_mem h1
    have hkl : k < es.length := by
      rcases Nat.lt_or_ge k es.length with h3 | h3
      · exact h3
      · rw [List.getElem?_eq_none (by rw [Array.length_toList, h.size]; exact h3)] at hk; cases hk
    rw [h.at hkl] at hk
    cases hk
    exact ⟨k, hkl, fun hm => h2 k hm rfl, rfl⟩
  · rintro ⟨k, hk, hn, rfl⟩
    refine ⟨List.mem_of_getElem? (h.at hk), fun j hjm hb => ?_⟩
    have hjl := hj j hjm
    have : j ≠ k := fun h => hn (h ▸ hjm)
    rcases Nat.lt_or_gt_of_ne this with hlt | hlt
    · exact h.apart j k hlt (by rw [h.size]; exact hk) hb
    · exact h.apart k j hlt (by rw [h.size]; exact hjl) hb.symm
theorem seenOf_push (ents : Array MapEntry) (js : List Nat) (k : Nat) : (seenOf ents js).push (ents.getD k default).born = seenOf ents (js ++ [k]) := by
  simp [seenOf]

theorem NStep.next {x : Operand} {K : Eff → Nat → Prop} {m n bi bm clock : Nat} {ents : Array MapEntry} {es : List (AV × AV)} {js : List Nat} (ho : o.op = .next x false) (hx : s.ev x = some (.ptr m 0 [])) (he : EntsOf es ents clock)
    (hm : Heap.get s.H m = some (iterB bi bm clock ents js)) (hn : Heap.get s.H n = some (rangB bm clock ents)) (hj : ∀ j, j ∈ js → j < es.length)
    (h0 : (∀ k, k < es.length → k ∈ js) → K ⟨.tuple [.bool false], [], [], []⟩ s.nx)
    (h1 : ∀ k e, es[k]? = some e → k ∉ js → K ⟨.tuple [.bool true, e.1, e.2], [], [m], [(m, iterB bi bm clock ents (js ++ [k]))]⟩ s.nx) : NStep P o s K := by
  intro C a w K' Q ha hd hK
  obtain ⟨I, ρ, hx', hs, ho'⟩ := ha.ex
  obtain ⟨o1, r1, m1, m2, m3, m4⟩ := hs.heap.rel m _ hm
  obtain ⟨o2, r2, n1, n2, n3, n4⟩ := hs.heap.rel n _ hn
  have m3 := m3 ⟨_, _, _, _, rfl⟩
  subst m3
  have hold : ∀ x ∈ ents.toList, x.born < clock := fun x hx => by
    obtain ⟨k, hk⟩ := List.getElem?_of_mem hx
    have hkl : k < es.length := by
      rcases Nat.lt_or_ge k es.length with h3 | h3
      · exact h3
      · rw [List.getElem?_eq_none (by rw [Array.length_toList, he.size]; exact h3)] at hk; cases hk
    rw [he.at hkl] at hk
    cases hk
    exact he.old k (by rw [he.size]; exact hkl)
  have hxe := hs.ev hx
  have hxv : a.eval x = .pointer (some ⟨bi, 0, none⟩) := by
    obtain ⟨b', o', r', h1', h2'⟩ := inv_ptr hxe
    rw [m1] at h1'; cases h1'
    exact h2'
  rcases run_next_at (P := P) w o.type bi bm clock (seenOf ents js) ents m4 n4 hold with ⟨hl, hrun⟩ | ⟨e, hel, w1, hal, hrun⟩
  · have hall : ∀ k, k < es.length → k ∈ js := fun k hk => by
      by_cases hkj : k ∈ js
      · exact hkj
      · have := (he.left hj).2 ⟨k, hk, hkj, rfl⟩
        have h0 : (leftOf ents (seenOf ents js)).toList = [] := by
          rw [← Array.length_toList] at hl
          exact List.eq_nil_of_length_eq_zero hl
        rw [h0] at this; cases this
    have hA : LSat P o s.ev (Heap.get s.H) ⟨.tuple [.bool false], [], [], []⟩ a w := by
      intro I ρ hd' hev hrd hinj himm hfr K Q hK
      unfold Oper.wp
      have hrun2 : (execOp a.eval o).run P w = .ok (.value (.tuple #[.bool false])) w := by simp [execOp, ho, hxv, hrun, Result.andThen]
      rw [hrun2]
      refine hK (.tuple #[.bool false]) w I ρ ⟨⟨_, rfl, rfl, fun k hk => ?_⟩, fun n b h => by simp [Heap.get] at h, fun n m x y _ h => by simp [Heap.get] at h, fun n x h => by simp [Heap.get] at h, Ext.refl _ _ _ _, fun b hb => (himm b hb).1, fun n h _ => h⟩
      match k, hk with
      | 0, _ => exact CRel.bool _
    exact ha.stepAt hA (effOk_val _ _) hd fun a' w' ha' => hK _ a' w' ⟨_, _, h0 hall, rfl⟩ rfl ha'
  · obtain ⟨k, hk, hkj, rfl⟩ := (he.left hj).1 hel
    obtain ⟨y, hy⟩ : ∃ y, es[k]? = some y := ⟨_, List.getElem?_eq_getElem hk⟩
    obtain ⟨p1, p2⟩ := he.plain k y hy
    rw [seenOf_push] at hrun
    have hA : LSat P o s.ev (Heap.get s.H) ⟨.tuple [.bool true, y.1, y.2], [], [m], [(m, iterB bi bm clock ents (js ++ [k]))]⟩ a w := by
      intro I ρ hd' hev hrd hinj himm hfr K Q hK
      unfold Oper.wp
      have hrun2 : (execOp a.eval o).run P w = .ok (.value (.tuple #[.bool true, (ents.getD k default).key, (ents.getD k default).val])) { w1 with heap := w.heap.setIfInBounds bi (.mapIter (some bm) clock (seenOf ents (js ++ [k])) clock) } := by simp only [execOp, ho, hxv, Sem.run_bind, hrun, Result.andThen]; rfl
      rw [hrun2]
      obtain ⟨q1, q2, g1, g2, g3, g4⟩ := hrd m (by simp) _ hm
      have g3 := g3 ⟨_, _, _, _, rfl⟩
      subst g3
      have hlt : bi < w.heap.size := by
        rcases Nat.lt_or_ge bi w.heap.size with h | h
        · exact h
        · rw [Array.getElem?_eq_none h] at g4; cases g4
      obtain ⟨ρ', hp⟩ := post_write (w := w) (w' := { w1 with heap := w.heap.setIfInBounds bi (.mapIter (some bm) clock (seenOf ents (js ++ [k])) clock) }) (I := I) (ρ := ρ) (e := ⟨.tuple [.bool true, y.1, y.2], [], [m], [(m, iterB bi bm clock ents (js ++ [k]))]⟩)
        (c := .tuple #[.bool true, (ents.getD k default).key, (ents.getD k default).val]) (blk := iterB bi bm clock ents (js ++ [k])) rfl rfl g1 (.inl ⟨rfl, rfl, rfl⟩) himm (by simp) (fun q hq => by simp [Array.getElem?_setIfInBounds, Ne.symm hq]) hal.2.1 hal.2.2.1 hal.2.2.2 fun ρ' hx hm' hI => by
          refine ⟨⟨_, rfl, rfl, fun j hj => ?_⟩, ⟨_, _, hm', hI, fun _ => rfl, by simp [Array.getElem?_setIfInBounds, hlt]⟩⟩
          match j, hj with
          | 0, _ => exact CRel.bool _
          | 1, _ => exact plain_rel p1
          | 2, _ => exact plain_rel p2
      exact hK _ _ _ _ hp
    exact ha.stepAt hA (effOk_write _ _ _ hm) hd fun a' w' ha' => hK _ a' w' ⟨_, _, h1 k y hy hkj, rfl⟩ rfl ha'

theorem NStep.range {x : Operand} {T kt et : TypeId} {K : Eff → Nat → Prop} {n : Nat} {es : List (AV × AV)} (ho : o.op = .range T x) (hT : P.underlying T = some (.map kt et)) (hx : s.ev x = some (.mapv n)) (hn : Heap.get s.H n = some (.map es)) (hp : ∀ e, e ∈ es → (∃ v, plainV e.1 = some v) ∧ ∃ v, plainV e.2 = some v)
    (h : ∀ bi bm clock ents es0, es0.Perm es → EntsOf es0 ents clock → K ⟨.ptr s.nx 0 [], [], [n], [(s.nx, iterB bi bm clock ents []), (n, rangB bm clock ents)]⟩ (s.nx + 1)) : NStep P o s K := by
  intro C a w K' Q ha hd hK
  obtain ⟨I, ρ, hx', hs, ho'⟩ := ha.ex
  obtain ⟨bm, oo, rr, g1, g2, hlies⟩ := hs.heap.rel n _ hn
  obtain ⟨ents, clock, es0, hpm, h1, h2, h3, h4, h5⟩ := hlies.ex
  have hxe := hs.ev hx
  have hxv : a.eval x = .map (some bm) := by
    obtain ⟨b', o', r', h1', h2'⟩ := inv_mapv hxe
    rw [g1] at h1'; cases h1'
    exact h2'
  have he : EntsOf es0 ents clock := ⟨h2, fun k e hk => by
    have hkl : k < es0.length := by
      rcases Nat.lt_or_ge k es0.length with h3 | h3
      · exact h3
      · rw [List.getElem?_eq_none h3] at hk; cases hk
    have hg : es0.getD k (.undef, .undef) = e := by rw [List.getD_eq_getElem?_getD, hk]; rfl
    obtain ⟨q1, q2⟩ := h3 k hkl
    rw [hg] at q1 q2
    obtain ⟨⟨v1, hv1⟩, ⟨v2, hv2⟩⟩ := hp e (hpm.mem_iff.1 (List.mem_of_getElem? hk))
    rw [hv1, hv2, plainV_rel hv1 q1, plainV_rel hv2 q2]
    exact ⟨rfl, rfl⟩, h4, h5⟩
  have hrun : (execOp a.eval o).run P w = .ok (.value (.pointer (some ⟨w.heap.size, 0, none⟩))) { w with heap := w.heap.push (.mapIter (some bm) clock #[] clock) } := by
    have := run_range_map (P := P) w T kt et bm ents clock hT h1
    simp [execOp, ho, hxv, this, Result.andThen]
  have hne : s.nx ≠ n := fun h => by
    have := hs.fresh n (by show s.nx ≤ n; omega)
    rw [g1] at this; cases this
  have hA : LSat P o s.ev (Heap.get s.H) ⟨.ptr s.nx 0 [], [], [n], [(s.nx, iterB w.heap.size bm clock ents []), (n, rangB bm clock ents)]⟩ a w := by
    intro I ρ hd' hev hrd hinj himm hfr K Q hK
    unfold Oper.wp
    rw [hrun]
    obtain ⟨bm', o2, r2, e1, e2, hl2⟩ := hrd n (by simp) _ hn
    have hbm : bm' = bm := by
      have := hev x (by simp [ho, Op.operands]) _ hx
      obtain ⟨b', o', r', h1', h2'⟩ := inv_mapv this
      rw [e1] at h1'; cases h1'
      rw [hxv] at h2'; cases h2'; rfl
    subst hbm
    have hblt : bm' < w.heap.size := hl2.lt
    have hfr0 : ρ s.nx = none := hfr s.nx (iterB w.heap.size bm' clock ents []) (by simp [Heap.get]) (by simp [hne])
    let ρ' : Rho := fun k => if k = s.nx then some (w.heap.size, 0, 0) else ρ k
    have hρn : ρ' n = some (bm', o2, r2) := by show (if n = s.nx then _ else ρ n) = _; rw [if_neg (Ne.symm hne)]; exact e1
    have hρm : ρ' s.nx = some (w.heap.size, 0, 0) := by show (if s.nx = s.nx then _ else _) = _; rw [if_pos rfl]
    have hIb : ∀ b, I b → b < w.heap.size := fun b hb => (himm b hb).1
    have hget : ∀ k b, Heap.get [(s.nx, iterB w.heap.size bm' clock ents []), (n, rangB bm' clock ents)] k = some b → (s.nx = k ∧ b = iterB w.heap.size bm' clock ents []) ∨ (n = k ∧ b = rangB bm' clock ents) := by
      intro k b hk
      simp only [Heap.get] at hk
      by_cases k1 : k = s.nx
      · subst k1; simp at hk; exact .inl ⟨rfl, hk.symm⟩
      · rw [if_neg k1] at hk
        by_cases k2 : k = n
        · subst k2; simp at hk; exact .inr ⟨rfl, hk.symm⟩
        · simp [k2] at hk
    refine hK _ _ I ρ' ⟨CRel.ptr _ _ _ _ _ _ hρm, fun k b hk => ?_, fun k l x y hkl hk hl b o r b' o' r' hr hr' => ?_, fun k x hk b o r hr => ?_, ⟨rfl, rfl, rfl, by simp, fun b hb _ => by simp [Array.getElem?_push, Nat.ne_of_lt hb], fun _ h => h, fun _ h => .inl h, fun k x hx => ?_⟩, fun b hb => by have := hIb b hb; simp; omega, fun k hk hp' => ?_⟩
    · rcases hget k b hk with ⟨rfl, rfl⟩ | ⟨rfl, rfl⟩
      · exact ⟨0, 0, hρm, fun h => by have := hIb _ h; omega, fun _ => rfl, by simp [seenOf]⟩
      · exact ⟨o2, r2, hρn, e2, (fun h => by obtain ⟨_, _, _, _, h⟩ := h; cases h), by simp [Array.getElem?_push, Nat.ne_of_lt hblt, h1]⟩
    · rcases hget k x hk with ⟨rfl, rfl⟩ | ⟨rfl, rfl⟩ <;> rcases hget l y hl with ⟨rfl, rfl⟩ | ⟨rfl, rfl⟩
      · exact absurd rfl hkl
      · rw [hρm] at hr; rw [hρn] at hr'; cases hr; cases hr'; omega
      · rw [hρn] at hr; rw [hρm] at hr'; cases hr; cases hr'; omega
      · exact absurd rfl hkl
    · rcases hget k x hk with ⟨rfl, rfl⟩ | ⟨rfl, rfl⟩
      · rw [hρm] at hr; cases hr; exact .inr (Nat.le_refl _)
      · rw [hρn] at hr; cases hr; exact .inl ⟨n, by simp, _, _, e1⟩
    · show (if k = s.nx then _ else ρ k) = _
      by_cases hk : k = s.nx
      · subst hk; rw [hfr0] at hx; cases hx
      · rw [if_neg hk]; exact hx
    · show (if k = s.nx then _ else ρ k) = _
      by_cases hk1 : k = s.nx
      · subst hk1; simp [Heap.get] at hp'
      · rw [if_neg hk1]; exact hk
  exact ha.stepAt hA ⟨by simp, fun k x hk hw => by
      simp only [Heap.get] at hk
      by_cases h1 : k = s.nx
      · subst h1; omega
      · rw [if_neg h1] at hk
        by_cases h2 : k = n
        · subst h2; exact absurd (by simp) hw
        · simp [h2] at hk, fun k hk => by
      simp at hk; subst hk; exact ⟨_, hn⟩⟩ hd fun a' w' ha' => hK _ a' w' ⟨_, _, h _ bm clock ents es0 hpm he, rfl⟩ rfl ha'

/-- The entry that was handed out last. -/
theorem CallTo.entry {x : Operand} {K : Eff → Nat → Prop} {m n bi bm clock k : Nat} {ents : Array MapEntry} {es : List (AV × AV)} {e : AV × AV} {js : List Nat} (ho : o.op = .entry x) (hx : s.ev x = some (.ptr m 0 [])) (he : EntsOf es ents clock)
    (hm : Heap.get s.H m = some (iterB bi bm clock ents (js ++ [k]))) (hn : Heap.get s.H n = some (rangB bm clock ents)) (hk : es[k]? = some e)
    (h : K ⟨.tuple [e.1, e.2], [m, n], [], []⟩ s.nx) : CallTo P o s K := by
  refine ⟨_, _, LS.value fun a w I ρ hev hrd => ?_, effOk_val _ _, h⟩
  obtain ⟨o1, r1, m1, m2, m3, m4⟩ := hrd m (by simp) _ hm
  obtain ⟨o2, r2, n1, n2, n3, n4⟩ := hrd n (by simp) _ hn
  have m3 := m3 ⟨_, _, _, _, rfl⟩
  subst m3
  have hxv : a.eval x = .pointer (some ⟨bi, 0, none⟩) := by
    obtain ⟨b', o', r', h1', h2'⟩ := inv_ptr (hev x (by simp [ho, Op.operands]) _ hx)
    rw [m1] at h1'; cases h1'
    exact h2'
  obtain ⟨p1, p2⟩ := he.plain k e hk
  have hkl : k < es.length := by
    rcases Nat.lt_or_ge k es.length with h3 | h3
    · exact h3
    · rw [List.getElem?_eq_none h3] at hk; cases hk
  have hmem : ents.getD k default ∈ ents.toList := List.mem_of_getElem? (he.at hkl)
  have hnd : (ents.toList.map (·.born)).Nodup := by
    rw [List.nodup_iff_pairwise_ne, List.pairwise_iff_getElem]
    intro i j hi hj hij
    simp only [List.length_map] at hi hj
    rw [Array.length_toList] at hi hj
    simp only [List.getElem_map, Array.getElem_toList]
    have h1 := he.apart i j hij hj
    rw [Array.getD_eq_getD_getElem?, Array.getD_eq_getD_getElem?, Array.getElem?_eq_getElem hi, Array.getElem?_eq_getElem hj] at h1
    exact h1
  have hf : ents.find? (·.born == (ents.getD k default).born) = some (ents.getD k default) := by rw [← Array.find?_toList]; exact find_born _ ents.toList hnd hmem
  refine ⟨.tuple #[(ents.getD k default).key, (ents.getD k default).val], ⟨_, rfl, rfl, fun j hj => ?_⟩, ?_⟩
  · match j, hj with
    | 0, _ => exact plain_rel p1
    | 1, _ => exact plain_rel p2
  · have hg1 := run_getIter (P := P) m4
    have hg2 := MapKept.run_getObj_map (P := P) n4
    have hb : (seenOf ents (js ++ [k])).back? = some (ents.getD k default).born := by rw [← seenOf_push, Array.back?_push]
    have hrun : (Instr.entry (.pointer (some ⟨bi, 0, none⟩))).run P w = .ok (.tuple #[(ents.getD k default).key, (ents.getD k default).val]) w := by
      simp only [Instr.entry, Sem.run_bind, hg1, hg2, Result.andThen, hb, bne_self_eq_false, Bool.false_eq_true, if_false, hf]
      rfl
    simp [execOp, ho, hxv, hrun, Result.andThen]

/-- A key is taken out. -/
theorem CallTo.delete {x i : Operand} {T T' kt et : TypeId} {K : Eff → Nat → Prop} {n : Nat} {k : AV} {es : List (AV × AV)} (ho : o.op = .call { callee := .builtin .delete, args := #[x, i], argTypes := #[T, T'] }) (hT : P.underlying T = some (.map kt et)) (hx : s.ev x = some (.mapv n)) (hi : s.ev i = some k)
    (hn : Heap.get s.H n = some (.map es)) (Ky : Maps.Keyed P kt) (hk : IsKey P kt k) (hg : GoodMap P kt es) (h : K ⟨.tuple [], [], [n], [(n, .map (mdel es k))]⟩ s.nx) : CallTo P o s K := by
  refine ⟨⟨.tuple [], [], [n], [(n, .map (mdel es k))]⟩, s.nx, fun a w I ρ hd hev hrd hinj himm hfr K' Q hK => ?_, effOk_write _ _ _ hn, h⟩
  obtain ⟨b, o', r, hr, hc⟩ := inv_mapv (hev x (by simp [ho, Op.operands, Call.operands]) _ hx)
  have hkc := XRel.of_V (hev i (by simp [ho, Op.operands, Call.operands]) _ hi) hk.not_tuple
  obtain ⟨b', o2, r', hr', hI, hlies⟩ := hrd n (by simp) _ hn
  rw [hr] at hr'; cases hr'
  obtain ⟨ents, clock, es0, hpm, h1, h2, h3, h4, h5⟩ := hlies.ex
  have hpu := mdel_perm hpm hg k
  have hg := hg.perm hpm
  obtain ⟨vk, lk, hvk, hlk⟩ := hk
  have hkv := plainV_rel hvk hkc
  have hck := Ky.check w ents.isEmpty hlk
  rw [← hkv] at hck
  have hblt : b < w.heap.size := hlies.lt
  unfold Oper.wp
  rcases find_rel Ky hg h2 h3 ⟨vk, lk, hvk, hlk⟩ hkc with ⟨g1, g2⟩ | ⟨j, hj, g1, g2, g3⟩
  · have hm : mdel es0 k = es0 := by rw [mdel, g1]
    rw [hm] at hpu
    have hrun : (execOp a.eval o).run P w = .ok (.value (.tuple #[])) { w with heap := w.heap.setIfInBounds b (.map ents clock) } := by
      simp [execOp, ho, resolve, invoke, builtin, hc, Builtin.delete_, run_underlying' hT, Result.andThen_ok, MapKept.run_getObj_map h1, hck, g2, MapKept.run_setObj_map _ h1, Sem.run_bind, Sem.run_pure]
    rw [hrun]
    obtain ⟨ρ', hp'⟩ := post_write (w := w) (w' := { w with heap := w.heap.setIfInBounds b (.map ents clock) }) (I := I) (ρ := ρ) (e := ⟨.tuple [], [], [n], [(n, .map (mdel es k))]⟩) (c := .tuple #[]) (blk := .map (mdel es k)) rfl rfl hr (.inl ⟨rfl, rfl, rfl⟩) himm (by simp) (fun q hq => by simp [Array.getElem?_setIfInBounds, Ne.symm hq]) rfl rfl rfl fun ρ' hx hm hI =>
      ⟨⟨_, rfl, rfl, fun k hk => by simp at hk⟩, b, _, _, hm, hI, ents, clock, es0, hpu, by simp [Array.getElem?_setIfInBounds, hblt], h2, fun q hq => ⟨(h3 q hq).1.mono hx himm, (h3 q hq).2.mono hx himm⟩, h4, h5⟩
    exact hK _ _ _ _ hp'
  · have hm : mdel es0 k = es0.eraseIdx j := by rw [mdel, g1]
    rw [hm] at hpu
    have hrun : (execOp a.eval o).run P w = .ok (.value (.tuple #[])) { w with heap := w.heap.setIfInBounds b (.map (ents.eraseIdxIfInBounds j) clock) } := by
      simp [execOp, ho, resolve, invoke, builtin, hc, Builtin.delete_, run_underlying' hT, Result.andThen_ok, MapKept.run_getObj_map h1, hck, g2, MapKept.run_setObj_map _ h1, Sem.run_bind, Sem.run_pure]
    rw [hrun]
    have hje : j < ents.size := by omega
    have e0 : ∀ q, (ents.eraseIdxIfInBounds j).getD q default = ents.getD (if q < j then q else q + 1) default := fun q => by
      rw [← getD_toList', ← getD_toList']
      have : (ents.eraseIdxIfInBounds j).toList = ents.toList.eraseIdx j := by
        rw [Array.eraseIdxIfInBounds_eq, dif_pos hje]; simp
      rw [this, List.getD_eq_getElem?_getD, List.getD_eq_getElem?_getD, List.getElem?_eraseIdx]
      split <;> rfl
    have e1 : ∀ q, (es0.eraseIdx j).getD q (.undef, .undef) = es0.getD (if q < j then q else q + 1) (.undef, .undef) := fun q => by
      rw [List.getD_eq_getElem?_getD, List.getD_eq_getElem?_getD, List.getElem?_eraseIdx]
      split <;> rfl
    have hsz : (ents.eraseIdxIfInBounds j).size = ents.size - 1 := by
      rw [Array.eraseIdxIfInBounds_eq, dif_pos hje]; simp
    have hsz2 : (es0.eraseIdx j).length = es0.length - 1 := by rw [List.length_eraseIdx, if_pos hj]
    obtain ⟨ρ', hp'⟩ := post_write (w := w) (w' := { w with heap := w.heap.setIfInBounds b (.map (ents.eraseIdxIfInBounds j) clock) }) (I := I) (ρ := ρ) (e := ⟨.tuple [], [], [n], [(n, .map (mdel es k))]⟩) (c := .tuple #[]) (blk := .map (mdel es k)) rfl rfl hr (.inl ⟨rfl, rfl, rfl⟩) himm (by simp) (fun q hq => by simp [Array.getElem?_setIfInBounds, Ne.symm hq]) rfl rfl rfl fun ρ' hx hm hI => by
      refine ⟨⟨_, rfl, rfl, fun k hk => by simp at hk⟩, b, _, _, hm, hI, ents.eraseIdxIfInBounds j, clock, es0.eraseIdx j, hpu, by simp [Array.getElem?_setIfInBounds, hblt], by omega, fun q hq => ?_, fun q hq => ?_, fun p q hpq hq => ?_⟩
      · rw [e0, e1]
        have hq2 : (if q < j then q else q + 1) < es0.length := by split <;> omega
        exact ⟨(h3 _ hq2).1.mono hx himm, (h3 _ hq2).2.mono hx himm⟩
      · rw [e0]
        exact h4 _ (by split <;> omega)
      · rw [e0, e0]
        exact h5 _ _ (by split <;> split <;> omega) (by split <;> omega)
    exact hK _ _ _ _ hp'

/-- A block that is told in another way. -/
theorem Wk.blk {n nx k : Nat} {t : Env} {H : Heap} {x y : ABlk} (h : Heap.get H k = some x) (hxy : ∀ w I ρ, BRel w I ρ k x → BRel w I ρ k y) : Wk ⟨n, t, H, nx⟩ ⟨n, t, (k, y) :: H, nx⟩ := by
  intro C a w ha
  obtain ⟨I, ρ, hx, hs, ho⟩ := ha.ex
  have hg : ∀ m b, Heap.get ((k, y) :: H) m = some b → (m = k ∧ b = y) ∨ (m ≠ k ∧ Heap.get H m = some b) := by
    intro m b hm
    simp only [Heap.get] at hm
    by_cases hmk : m = k
    · rw [if_pos hmk] at hm; exact .inl ⟨hmk, (Option.some.inj hm).symm⟩
    · rw [if_neg hmk] at hm; exact .inr ⟨hmk, hm⟩
  have hex : ∀ m b, Heap.get ((k, y) :: H) m = some b → ∃ b', Heap.get H m = some b' := by
    intro m b hm
    rcases hg m b hm with ⟨rfl, rfl⟩ | ⟨_, h2⟩
    · exact ⟨x, h⟩
    · exact ⟨b, h2⟩
  have hown : ∀ b, Owns ρ (Heap.get ((k, y) :: H)) b → Owns ρ (Heap.get H) b := by
    rintro b ⟨m, blk, o, r, h1, h2⟩
    obtain ⟨b', hb'⟩ := hex m blk h1
    exact ⟨m, b', o, r, hb', h2⟩
  refine ⟨I, ρ, hx, ⟨hs.sz, hs.tmps, hs.defers, ⟨fun m b hm => ?_, fun m m' b b' hne h1 h2 => ?_⟩, fun b hb => ⟨(hs.imm b hb).1, fun h => (hs.imm b hb).2 (hown b h)⟩, hs.fresh⟩, fun b hb => ho b (hown b hb)⟩
  · rcases hg m b hm with ⟨rfl, rfl⟩ | ⟨_, h2⟩
    · exact hxy _ _ _ (hs.heap.rel m x h)
    · exact hs.heap.rel m b h2
  · obtain ⟨c, hc⟩ := hex m b h1
    obtain ⟨c', hc'⟩ := hex m' b' h2
    exact hs.heap.inj m m' c c' hne hc hc'
/-- A map in another order. -/
theorem brel_perm {k : Nat} {es es' : List (AV × AV)} (hp : es.Perm es') (w : World) (I : Nat → Prop) (ρ : Rho) (h : BRel w I ρ k (.map es)) : BRel w I ρ k (.map es') := by
  obtain ⟨b, o, r, h1, h2, h3⟩ := h
  obtain ⟨ents, clock, es0, hpm, g⟩ := h3.ex
  exact ⟨b, o, r, h1, h2, ents, clock, es0, hpm.trans hp, g⟩
/-- A map behind its loop. -/
theorem brel_rang {k bm clock : Nat} {ents : Array MapEntry} {es es' : List (AV × AV)} (he : EntsOf es ents clock) (hp : es.Perm es') (w : World) (I : Nat → Prop) (ρ : Rho) (h : BRel w I ρ k (rangB bm clock ents)) : BRel w I ρ k (.map es') := by
  obtain ⟨o, r, h1, h2, _, h3⟩ := h
  refine ⟨bm, o, r, h1, h2, ents, clock, es, hp, h3, he.size, fun j hj => ?_, he.old, he.apart⟩
  have he' : es[j]? = some (es.getD j (.undef, .undef)) := by rw [List.getD_eq_getElem?_getD, List.getElem?_eq_getElem hj]; rfl
  obtain ⟨p1, p2⟩ := he.plain j _ he'
  exact ⟨plain_rel p1, plain_rel p2⟩

/-- Names are taken back, and given anew: π says which name each one has from then on. -/
def onT (S : Nat → Prop) (t : Env) : Prop := ∀ d v, look t d = some v → AV.on S v
def onH (S : Nat → Prop) (H : Heap) : Prop := ∀ n b, Heap.get H n = some b → S n ∧ b.on S
def Env.ren (π : Nat → Nat) (t : Env) : Env := t.map fun e => (e.1, e.2.ren π)
theorem look_ren {π : Nat → Nat} : ∀ {t : Env} {d : Nat} {v : AV}, look (t.ren π) d = some v → ∃ v0, look t d = some v0 ∧ v = v0.ren π
  | [], d, v, h => by simp [Env.ren, look] at h
  | (k, x) :: t, d, v, h => by
    simp only [Env.ren, List.map_cons, look] at h
    by_cases hd : d = k
    · rw [if_pos hd] at h; cases h; exact ⟨x, by simp [look, hd], rfl⟩
    · rw [if_neg hd] at h
      obtain ⟨v0, h1, h2⟩ := look_ren (t := t) h
      exact ⟨v0, by simp only [look]; rw [if_neg hd]; exact h1, h2⟩
theorem Wk.ren {n nx K : Nat} {t : Env} {H : Heap} (π : Nat → Nat) (L : List Nat) (hπ : ∀ m, m < 100 → π m = m) (hL : ∀ m, m ∈ L → 100 ≤ m → 100 ≤ π m ∧ π m < K) (hK : 100 ≤ K) (hinj : ∀ a b, a ∈ L → b ∈ L → π a = π b → a = b)
    (ht : onT (fun m => m ∈ L ∨ m < 100) t) (hH : onH (fun m => m ∈ L ∨ m < 100) H) : Wk ⟨n, t, H, nx⟩ ⟨n, t.ren π, H.ren π, K⟩ := by
  intro C a w ha
  obtain ⟨I, ρ, hx, hs, ho⟩ := ha.ex
  let ρ' : Rho := fun m => if m < 100 then ρ m else (L.find? fun a => decide (π a = m)).bind ρ
  have hπ' : ∀ m, (m ∈ L ∨ m < 100) → ρ' (π m) = ρ m := by
    intro m hm
    by_cases h1 : m < 100
    · show (if π m < 100 then ρ (π m) else _) = _
      rw [hπ m h1, if_pos h1]
    · have hmL : m ∈ L := hm.resolve_right h1
      have h2 := hL m hmL (by omega)
      show (if π m < 100 then _ else (L.find? fun a => decide (π a = π m)).bind ρ) = _
      rw [if_neg (by omega)]
      have : L.find? (fun a => decide (π a = π m)) = some m := by
        cases hf : L.find? (fun a => decide (π a = π m)) with
        | none =>
          have := List.find?_eq_none.1 hf m hmL
          simp at this
        | some q =>
          have h3 := List.find?_some hf
          simp only [decide_eq_true_eq] at h3
          rw [hinj q m (List.mem_of_find?_eq_some hf) hmL h3]
      rw [this]; rfl
  have hS : ∀ m x, (m ∈ L ∨ m < 100) → ρ m = some x → ρ' (π m) = some x := fun m x hm h => by rw [hπ' m hm]; exact h
  have hget : ∀ m b, Heap.get (H.ren π) m = some b → ∃ m0 b0, (m0 ∈ L ∨ m0 < 100) ∧ m = π m0 ∧ Heap.get H m0 = some b0 ∧ b = b0.ren π := by
    intro m b hm
    have key : ∀ H0 : Heap, (∀ n b, (n, b) ∈ H0 → True) → Heap.get (H0.ren π) m = some b → ∃ m0 b0, m = π m0 ∧ (m0, b0) ∈ H0 ∧ b = b0.ren π ∧ ∀ m1, π m1 = m → Heap.get (H0.ren π) m = some b := by
      intro H0 _ h
      induction H0 with
      | nil => simp [Heap.ren, Heap.get] at h
      | cons x r ih =>
        obtain ⟨k, c⟩ := x
        simp only [Heap.ren, List.map_cons, Heap.get] at h
        by_cases hk : m = π k
        · rw [if_pos hk] at h; cases h
          exact ⟨k, c, hk, by simp, rfl, fun _ _ => by simp [Heap.ren, Heap.get, hk]⟩
        · rw [if_neg hk] at h
          obtain ⟨m0, b0, h1, h2, h3, _⟩ := ih (fun _ _ _ => trivial) h
          exact ⟨m0, b0, h1, by simp [h2], h3, fun _ _ => by simp only [Heap.ren, List.map_cons, Heap.get]; rw [if_neg hk]; exact h⟩
    have first : ∀ (H0 : Heap) (b : ABlk), (∀ n b, Heap.get H0 n = some b → n ∈ L ∨ n < 100) → Heap.get (H0.ren π) m = some b → ∃ m0 b0, (m0 ∈ L ∨ m0 < 100) ∧ m = π m0 ∧ Heap.get H0 m0 = some b0 ∧ b = b0.ren π := by
      intro H0
      induction H0 with
      | nil => intro b _ h; simp [Heap.ren, Heap.get] at h
      | cons x r ih =>
        obtain ⟨k, c⟩ := x
        intro b hon h
        simp only [Heap.ren, List.map_cons, Heap.get] at h
        have hkS : k ∈ L ∨ k < 100 := hon k c (by simp [Heap.get])
        by_cases hk : m = π k
        · rw [if_pos hk] at h; cases h
          exact ⟨k, c, hkS, hk, by simp [Heap.get], rfl⟩
        · rw [if_neg hk] at h
          have hsub : ∀ n b, Heap.get r n = some b → n ∈ L ∨ n < 100 := by
            intro n b hn
            by_cases hnk : n = k
            · subst hnk; exact hkS
            · exact hon n b (by simp only [Heap.get]; rw [if_neg hnk]; exact hn)
          obtain ⟨m0, b0, h1, h2, h3, h4⟩ := ih b hsub h
          have hne : m0 ≠ k := fun h => hk (by rw [h2, h])
          exact ⟨m0, b0, h1, h2, by simp only [Heap.get]; rw [if_neg hne]; exact h3, h4⟩
    exact first H b (fun n b h => (hH n b h).1) hm
  have hown : ∀ b, Owns ρ' (Heap.get (H.ren π)) b → Owns ρ (Heap.get H) b := by
    rintro b ⟨m, blk, o, r, h1, h2⟩
    obtain ⟨m0, b0, g1, rfl, g3, rfl⟩ := hget m blk h1
    rw [hπ' m0 g1] at h2
    exact ⟨m0, b0, o, r, g3, h2⟩
  have hI : Ext (fun _ => False) w w I I (fun _ => none) (fun _ => none) := Ext.refl _ _ _ _
  refine ⟨I, ρ', ⟨hx.os, hx.tape, hx.output, hx.size, hx.keep, hx.imm, hx.new, fun m x hm => ?_⟩, ⟨hs.sz, fun d v hd => ?_, hs.defers, ⟨fun m b hm => ?_, fun m m' b b' hne h1 h2 c o r c' o' r' e1 e2 => ?_⟩, fun b hb => ⟨(hs.imm b hb).1, fun h => (hs.imm b hb).2 (hown b h)⟩, fun m hm => ?_⟩, fun b hb => ho b (hown b hb)⟩
  · have hp := C.pin m x hm
    show (if m < 100 then ρ m else _) = _
    rw [if_pos hp]; exact hx.rho m x hm
  · obtain ⟨v0, h1, rfl⟩ := look_ren hd
    obtain ⟨g1, g2⟩ := hs.tmps d v0 h1
    exact ⟨g1, g2.ren hS (ht d v0 h1)⟩
  · obtain ⟨m0, b0, g1, rfl, g3, rfl⟩ := hget m b hm
    exact (hs.heap.rel m0 b0 g3).ren hS g1 (hH m0 b0 g3).2
  · obtain ⟨m0, b0, g1, rfl, g3, rfl⟩ := hget m b h1
    obtain ⟨m1, b1, f1, rfl, f3, rfl⟩ := hget m' b' h2
    rw [hπ' m0 g1] at e1
    rw [hπ' m1 f1] at e2
    exact hs.heap.inj m0 m1 b0 b1 (fun h => hne (by rw [h])) g3 f3 c o r c' o' r' e1 e2
  · show (if m < 100 then ρ m else _) = none
    have hmK : K ≤ m := hm
    rw [if_neg (by omega)]
    cases hf : L.find? (fun a => decide (π a = m)) with
    | none => rfl
    | some q =>
      have h3 := List.find?_some hf
      simp only [decide_eq_true_eq] at h3
      have hq := List.mem_of_find?_eq_some hf
      by_cases hq1 : q < 100
      · rw [hπ q hq1] at h3; omega
      · have := hL q hq (by omega); omega
end
end Go.Proofs.Ytipbgaahpchhbaa
