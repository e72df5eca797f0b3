/- Calls: contracts of functions. -/
import Derived.Test.YtipbgaahpchhbaaM2
import Derived.Laws.StructEq
import Derived.ChangeKeysEq
import Derived.Maps.Keyed
set_option linter.unusedVariables false
set_option linter.unusedSimpArgs false
namespace Go.Proofs.Ytipbgaahpchhbaa
open Go Go.RowKit

/- The names in a value all have a property. -/
mutual
def AV.on (S : Nat → Prop) : AV → Prop
  | .ptr n _ _ => S n
  | .sl n _ _ _ _ _ _ => S n
  | .mapv n => S n
  | .vptr r _ _ => AV.on S r
  | .vsl es _ => AV.onL S es
  | .func _ cs => AV.onL S cs
  | .iface _ v => AV.on S v
  | .agg vs => AV.onL S vs
  | .tuple vs => AV.onL S vs
  | _ => True
def AV.onL (S : Nat → Prop) : List AV → Prop
  | [] => True
  | v :: vs => AV.on S v ∧ AV.onL S vs
end

theorem AV.onL_iff {S : Nat → Prop} : ∀ {vs : List AV}, AV.onL S vs ↔ ∀ x, x ∈ vs → AV.on S x
  | [] => by simp [AV.onL]
  | v :: vs => by simp [AV.onL, AV.onL_iff (vs := vs)]

mutual
theorem AV.on_flat {S : Nat → Prop} : ∀ {v : AV}, AV.on S v → ∀ x, x ∈ v.flat → AV.on S x
  | .agg vs, h, x, hx => AV.on_flatL (vs := vs) h x hx
  | .undef, h, x, hx | .bool _, h, x, hx | .int _ _, h, x, hx | .str _, h, x, hx | .nilptr, h, x, hx | .ptr _ _ _, h, x, hx | .vptr _ _ _, h, x, hx | .nilsl, h, x, hx | .sl _ _ _ _ _ _ _, h, x, hx
  | .vsl _ _, h, x, hx | .nilmap, h, x, hx | .mapv _, h, x, hx | .func _ _, h, x, hx | .nilfunc, h, x, hx | .iface _ _, h, x, hx | .niliface, h, x, hx | .tuple _, h, x, hx => by
    simp only [AV.flat, List.mem_singleton] at hx; subst hx; exact h
theorem AV.on_flatL {S : Nat → Prop} : ∀ {vs : List AV}, AV.onL S vs → ∀ x, x ∈ AV.flatL vs → AV.on S x
  | [], h, x, hx => by simp [AV.flatL] at hx
  | v :: vs, h, x, hx => by
    simp only [AV.flatL, List.mem_append] at hx
    rcases hx with hx | hx
    · exact AV.on_flat h.1 x hx
    · exact AV.on_flatL h.2 x hx
end

theorem getD_on {S : Nat → Prop} {xs : List AV} (h : ∀ x, x ∈ xs → AV.on S x) (k : Nat) : AV.on S (xs.getD k .undef) := by
  rw [List.getD_eq_getElem?_getD]
  rcases Nat.lt_or_ge k xs.length with hk | hk
  · rw [List.getElem?_eq_getElem hk]; exact h _ (List.getElem_mem hk)
  · rw [List.getElem?_eq_none hk]; trivial

section
variable {w : World} {I I' : Nat → Prop} {ρ ρ' : Rho} {S : Nat → Prop}

/-- The places of other names don't matter. -/
theorem CRel.on (hI : ∀ b, I b → I' b) (hS : ∀ n x, S n → ρ n = some x → ρ' n = some x) {x : AV} {c : Value} (hc : CRel w I ρ x c) (hx : AV.on S x) : CRel w I' ρ' x c := by
  induction hc with
  | undef c h => exact .undef c h
  | bool b => exact .bool b
  | int k n => exact .int k n
  | str s => exact .str s
  | nilptr => exact .nilptr
  | ptr n off p b o r hr => exact .ptr n off p b o r (hS _ _ hx hr)
  | vptr root off p b o c hb hc _ ih => exact .vptr root off p b o c (hI _ hb) hc fun k hk => ih k hk (getD_on (AV.on_flat (show AV.on S root from hx)) k)
  | nilsl => exact .nilsl
  | sl n off p i len cap wd b o r c hr h1 h2 h3 => exact .sl n off p i len cap wd b o r c (hS _ _ hx hr) h1 h2 h3
  | sl0 n off p i wd a => exact .sl0 n off p i wd a
  | vsl0 a c => exact .vsl0 a c
  | vsl es len b o cap c hb h1 h2 hc _ ih => exact .vsl es len b o cap c (hI _ hb) h1 h2 hc fun k hk => ih k hk (getD_on (AV.on_flatL hx) k)
  | nilmap => exact .nilmap
  | mapv n b o r hr => exact .mapv n b o r (hS _ _ hx hr)
  | func f caps cs hs _ ih => exact .func f caps cs hs fun k hk => ih k hk (getD_on (AV.onL_iff.1 hx) k)
  | nilfunc => exact .nilfunc
  | iface t v c _ ih => exact .iface t v c (ih hx)
  | niliface => exact .niliface

theorem CsRel.on (hI : ∀ b, I b → I' b) (hS : ∀ n x, S n → ρ n = some x → ρ' n = some x) {xs : List AV} {cs : List Value} (hc : CsRel w I ρ xs cs) (hx : ∀ x, x ∈ xs → AV.on S x) : CsRel w I' ρ' xs cs :=
  ⟨hc.1, fun k hk => (hc.2 k hk).on hI hS (getD_on hx k)⟩

theorem XRel.on (hI : ∀ b, I b → I' b) (hS : ∀ n x, S n → ρ n = some x → ρ' n = some x) {x : AV} {c : Value} (hc : XRel w I ρ x c) (hx : AV.on S x) : XRel w I' ρ' x c := by
  cases x with
  | agg vs => obtain ⟨cs, rfl, hcs⟩ := hc; exact ⟨cs, rfl, hcs.on hI hS (AV.on_flatL hx)⟩
  | tuple vs => exact hc.elim
  | undef => trivial
  | _ => exact CRel.on hI hS hc hx

theorem BRel.on (hI : ∀ b, I b → I' b) (hS : ∀ n x, S n → ρ n = some x → ρ' n = some x) {n : Nat} {v : AV} (hc : BRel w I ρ n (.cells v)) (hn : S n) (hx : AV.on S v) (hnI : ∀ b o r, ρ n = some (b, o, r) → ¬ I' b) : BRel w I' ρ' n (.cells v) := by
  obtain ⟨b, o, r, h1, h2, h3⟩ := hc
  obtain ⟨arr, T, fz, g1, g2, g3, g4, g5⟩ := h3.ex
  exact ⟨b, o, r, hS _ _ hn h1, hnI _ _ _ h1, arr, T, fz, g1, g2, g3, g4, fun k hk => (g5 k hk).on hI hS (getD_on (AV.on_flat hx) k)⟩
end

def ABlk.on (S : Nat → Prop) : ABlk → Prop
  | .cells v => AV.on S v
  | .map es => ∀ x, x ∈ es → AV.on S x.1 ∧ AV.on S x.2
  | .raw _ _ => True

theorem BRel.on' {w : World} {I I' : Nat → Prop} {ρ ρ' : Rho} {S : Nat → Prop} (hI : ∀ b, I b → I' b) (hS : ∀ n x, S n → ρ n = some x → ρ' n = some x) {n : Nat} {blk : ABlk} (hc : BRel w I ρ n blk) (hn : S n) (hx : blk.on S) (hnI : ∀ b o r, ρ n = some (b, o, r) → ¬ I' b) : BRel w I' ρ' n blk := by
  cases blk with
  | cells v => exact BRel.on hI hS hc hn hx hnI
  | map es =>
    obtain ⟨b, o, r, h1, h2, h3⟩ := hc
    obtain ⟨ents, clock, es0, hp, g1, g2, g3, g4, g5⟩ := h3.ex
    refine ⟨b, o, r, hS _ _ hn h1, hnI _ _ _ h1, ents, clock, es0, hp, g1, g2, fun k hk => ?_, g4, g5⟩
    have hm : es0.getD k (.undef, .undef) ∈ es := by
      rw [List.getD_eq_getElem?_getD, List.getElem?_eq_getElem hk]; exact hp.mem_iff.1 (List.getElem_mem hk)
    exact ⟨(g3 k hk).1.on hI hS (hx _ hm).1, (g3 k hk).2.on hI hS (hx _ hm).2⟩
  | raw b ob => obtain ⟨o, r, h1, h2, h3, h4⟩ := hc; exact ⟨o, r, hS _ _ hn h1, hnI _ _ _ h1, h3, h4⟩

/-- The contract of a function: called with such values, over such memory, it returns such a value, and leaves such memory. -/
def ACall (P : Program) (f : FuncId) (args : List AV) (H : Heap) (v : AV) (put : Heap) : Prop :=
  ∀ (w : World) (I : Nat → Prop) (ρ : Rho) (cargs : Array Value), cargs.size = args.length → (∀ k, k < args.length → XRel w I ρ (args.getD k .undef) (cargs.getD k Go.undef)) →
    (∀ n b, Heap.get H n = some b → BRel w I ρ n b) →
    (∀ n m x y, n ≠ m → Heap.get H n = some x → Heap.get H m = some y → ∀ b o r b' o' r', ρ n = some (b, o, r) → ρ m = some (b', o', r') → b ≠ b') →
    Imm (OwnW ρ (H.map (·.1))) w I → (∀ n x, Heap.get put n = some x → n ∉ H.map (·.1) → ρ n = none) →
    Calls P f cargs w fun e w' => ∃ c I' ρ', e = .returned c ∧ LSPost w I ρ ⟨v, [], H.map (·.1), put⟩ c w' I' ρ'

/-- Of a result: what was a row of the call's own is immutable behind the call, unless it is told on. -/
inductive Frz (K : Nat → Prop) (H : Heap) : AV → AV → Prop
  | same (x : AV) : AV.on K x → Frz K H x x
  | sl (n off : Nat) (p : List Nat) (i len cap wd : Nat) (root : AV) (es : List AV) : Heap.get H n = some (.cells root) → ¬ K n → root.proj p = some (.agg es) → off = root.offOf p + i * wd → i + len ≤ es.length → Unif wd es →
      (∀ x, x ∈ (es.drop i).take len → AV.on K x) → Frz K H (.sl n off p i len cap wd) (.vsl ((es.drop i).take len) len)
  | slc (n off : Nat) (p : List Nat) (i len cap wd m : Nat) (root : AV) (es : List AV) : Heap.get H n = some (.cells root) → ¬ K n → root.proj p = some (.agg es) → off = root.offOf p + i * wd → len ≤ m → m ≤ cap → i + m ≤ es.length → Unif wd es →
      (∀ x, x ∈ (es.drop i).take m → AV.on K x) → Frz K H (.sl n off p i len cap wd) (.vsl ((es.drop i).take m) len)
  | vcut (es : List AV) (len m : Nat) : len ≤ m → m ≤ es.length → AV.onL K es → Frz K H (.vsl es len) (.vsl (es.take m) len)
  | nil : Frz K H .nilsl (.vsl [] 0)
  | agg (xs ys : List AV) : xs.length = ys.length → (∀ k, k < xs.length → Frz K H (xs.getD k .undef) (ys.getD k .undef)) → Frz K H (.agg xs) (.agg ys)

def All2 {α β : Type} (R : α → β → Prop) : List α → List β → Prop
  | [], [] => True
  | a :: as, b :: bs => R a b ∧ All2 R as bs
  | _, _ => False

theorem All2.length {α β : Type} {R : α → β → Prop} : ∀ {as : List α} {bs : List β}, All2 R as bs → as.length = bs.length
  | [], [], _ => rfl
  | a :: as, b :: bs, h => by simp [All2.length h.2]
  | [], _ :: _, h => h.elim
  | _ :: _, [], h => h.elim
theorem All2.get {α β : Type} {R : α → β → Prop} (d : α) (e : β) : ∀ {as : List α} {bs : List β}, All2 R as bs → ∀ k, k < as.length → R (as.getD k d) (bs.getD k e)
  | [], [], _, k, hk => by simp at hk
  | a :: as, b :: bs, h, 0, _ => by simpa using h.1
  | a :: as, b :: bs, h, k + 1, hk => by simpa using All2.get d e h.2 k (by simpa using hk)
  | [], _ :: _, h, _, _ => h.elim
  | _ :: _, [], h, _, _ => h.elim

theorem Frz.all {K : Nat → Prop} {H : Heap} {xs ys : List AV} (h : All2 (Frz K H) xs ys) : Frz K H (.agg xs) (.agg ys) :=
  .agg xs ys (All2.length h) fun k hk => All2.get .undef .undef h k hk

def FrzV (K : Nat → Prop) (H : Heap) : AV → AV → Prop
  | .tuple xs, .tuple ys => All2 (Frz K H) xs ys
  | .tuple _, _ => False
  | _, .tuple _ => False
  | x, y => Frz K H x y

section
variable {w : World} {I I' : Nat → Prop} {ρ ρ' : Rho} {K : Nat → Prop} {H : Heap}

theorem AV.flat_one {x : AV} (h : ∀ vs, x ≠ .agg vs) : x.flat = [x] := by cases x <;> first | rfl | exact absurd rfl (h _)

theorem CsRel.split {xs ys : List AV} {cs : List Value} (h : CsRel w I ρ (xs ++ ys) cs) : ∃ as bs, cs = as ++ bs ∧ CsRel w I ρ xs as ∧ CsRel w I ρ ys bs := by
  obtain ⟨h1, h2⟩ := h
  simp only [List.length_append] at h1 h2
  refine ⟨cs.take xs.length, cs.drop xs.length, by simp, ⟨by simp; omega, fun k hk => ?_⟩, ⟨by simp; omega, fun k hk => ?_⟩⟩
  · have := h2 k (by omega)
    simpa [List.getD_eq_getElem?_getD, List.getElem?_append, List.getElem?_take, hk] using this
  · have := h2 (xs.length + k) (by omega)
    rw [List.getD_eq_getElem?_getD, List.getElem?_append_right (by omega), Nat.add_sub_cancel_left, ← List.getD_eq_getElem?_getD] at this
    rw [getD_drop]; exact this

theorem Frz.flat (hI : ∀ b, I b → I' b) (hS : ∀ n x, K n → ρ n = some x → ρ' n = some x) (hb : ∀ n blk, Heap.get H n = some blk → BRel w I ρ n blk) (hfz : ∀ n blk b o r, Heap.get H n = some blk → ¬ K n → ρ n = some (b, o, r) → I' b) {x y : AV} (h : Frz K H x y) :
    ∀ cs, CsRel w I ρ x.flat cs → CsRel w I' ρ' y.flat cs := by
  have slc : ∀ (n off : Nat) (p : List Nat) (i len cap wd m : Nat) (root : AV) (es : List AV), Heap.get H n = some (.cells root) → ¬ K n → root.proj p = some (.agg es) → off = root.offOf p + i * wd → len ≤ m → (m ≤ len ∨ m ≤ cap) → i + m ≤ es.length → Unif wd es →
      (∀ x, x ∈ (es.drop i).take m → AV.on K x) → ∀ c, CRel w I ρ (.sl n off p i len cap wd) c → CRel w I' ρ' (.vsl ((es.drop i).take m) len) c := by
    intro n off p i len cap wd m root es hH hn hp hoff hlm hmc hil hu hon c hc
    have hlen : ((es.drop i).take m).length = m := by rw [List.length_take, List.length_drop]; omega
    cases hc with
    | sl0 _ _ _ _ _ a =>
      have : m = 0 := by omega
      subst this
      simp only [List.take_zero]; exact .vsl0 _ _
    | sl _ _ _ _ _ _ _ b o r c hr h1 h2 h3 =>
      obtain ⟨b', o', r', hr', hnI, hlies⟩ := hb n _ hH
      rw [hr] at hr'; cases hr'
      obtain ⟨arr, T, fz, g1, g2, g3, g4, g5⟩ := hlies.ex
      obtain ⟨pre, post, q1, q2, _⟩ := AV.flat_at p root _ hp
      have hui := hu.drop i
      have hes : (AV.flatL es).length = es.length * wd := by rw [AV.flatL_length, hu.sizeL]
      have hroot : root.flat.length = pre.length + es.length * wd + post.length := by rw [q2]; simp [AV.flat, hes]; omega
      have hilw : i * wd + m * wd ≤ es.length * wd := by rw [← Nat.add_mul]; exact Nat.mul_le_mul_right _ hil
      have hsz : AV.sizeL ((es.drop i).take m) = m * wd := by rw [(hui.take m).sizeL, hlen]
      refine .vsl _ _ b (o + off) c (fun k => arr.getD (o + off + k) Go.undef) (hfz n _ b o r hH hn hr) (by omega) (by rw [hlen]; omega) (fun k hk => ?_) (fun k hk => ?_)
      · have hlt : o + off + k < arr.size := by omega
        simp [World.cell?, g1, Array.getD_eq_getD_getElem?, Array.getElem?_eq_getElem hlt]
      · have hk' : k < m * wd := by omega
        have h6 := g5 (off + k) (by omega)
        have e1 : root.flat.getD (off + k) AV.undef = (AV.flatL ((es.drop i).take m)).getD k AV.undef := by
          rw [q2, AV.flat]
          have : off + k = pre.length + (i * wd + k) := by omega
          rw [this, getD_mid _ _ _ _ _ (by rw [hes]; omega), flatL_take hui (by rw [List.length_drop]; omega), flatL_drop hu (by omega)]
          simp only [List.getD_eq_getElem?_getD, List.getElem?_take, hk', if_true, List.getElem?_drop]
        rw [e1, ← Nat.add_assoc] at h6
        exact h6.on hI hS (getD_on (fun x hx => AV.on_flatL (AV.onL_iff.2 hon) x hx) k)
  have vct : ∀ (es : List AV) (len m : Nat), len ≤ m → m ≤ es.length → AV.onL K es → ∀ c, CRel w I ρ (.vsl es len) c → CRel w I' ρ' (.vsl (es.take m) len) c := by
    intro es len m h1 h2 h3 c hc
    have hc' : CRel w I' ρ' (.vsl es len) c := hc.on hI hS h3
    cases hc' with
    | vsl0 a cap =>
      simp only [List.take_nil]; exact .vsl0 _ _
    | vsl _ _ b o cap c' q1 q2 q3 q4 q5 =>
      have hl : (es.take m).length = m := by rw [List.length_take]; omega
      have e : AV.flatL es = AV.flatL (es.take m) ++ AV.flatL (es.drop m) := by rw [← AV.flatL_append, List.take_append_drop]
      have hs : AV.sizeL es = AV.sizeL (es.take m) + AV.sizeL (es.drop m) := by rw [← AV.sizeL_append, List.take_append_drop]
      refine .vsl _ _ b o cap c' q1 (by omega) (by omega) (fun k hk => q4 k (by omega)) (fun k hk => ?_)
      have := q5 k (by omega)
      rw [e, List.getD_eq_getElem?_getD, List.getElem?_append_left (by rw [AV.flatL_length]; exact hk), ← List.getD_eq_getElem?_getD] at this
      exact this
  induction h with
  | same x hx => exact fun cs hc => hc.on hI hS (AV.on_flat hx)
  | vcut es len m h1 h2 h3 =>
    have key := vct es len m h1 h2 h3
    refine fun cs hc => ?_
    obtain ⟨g1, g2⟩ := hc
    refine ⟨g1, fun k hk => ?_⟩
    have hk0 : k = 0 := by simp [AV.flat] at hk; exact hk
    subst hk0
    exact key _ (g2 0 (by simp [AV.flat]))
  | nil =>
    refine fun cs hc => ⟨hc.1, fun k hk => ?_⟩
    have hk0 : k = 0 := by simp [AV.flat] at hk; exact hk
    subst hk0
    have h0 := hc.2 0 (by simp [AV.flat])
    have h1 : cs.getD 0 Go.undef = .slice none 0 0 := by
      generalize cs.getD 0 Go.undef = c at h0
      have h0' : CRel w I ρ .nilsl c := h0
      cases h0'; rfl
    rw [h1]; exact .vsl0 _ _
  | sl n off p i len cap wd root es h1 h2 h3 h4 h5 h6 h7 =>
    have key := slc n off p i len cap wd len root es h1 h2 h3 h4 (Nat.le_refl _) (.inl (Nat.le_refl _)) h5 h6 h7
    refine fun cs hc => ?_
    obtain ⟨g1, g2⟩ := hc
    refine ⟨g1, fun k hk => ?_⟩
    have hk0 : k = 0 := by simp [AV.flat] at hk; exact hk
    subst hk0
    exact key _ (g2 0 (by simp [AV.flat]))
  | slc n off p i len cap wd m root es h1 h2 h3 h4 h8 h9 h5 h6 h7 =>
    have key := slc n off p i len cap wd m root es h1 h2 h3 h4 h8 (.inr h9) h5 h6 h7
    refine fun cs hc => ?_
    obtain ⟨g1, g2⟩ := hc
    refine ⟨g1, fun k hk => ?_⟩
    have hk0 : k = 0 := by simp [AV.flat] at hk; exact hk
    subst hk0
    exact key _ (g2 0 (by simp [AV.flat]))
  | agg xs ys hl _ ih =>
    have key : ∀ (xs ys : List AV), xs.length = ys.length → (∀ k, k < xs.length → ∀ cs, CsRel w I ρ (xs.getD k .undef).flat cs → CsRel w I' ρ' (ys.getD k .undef).flat cs) → ∀ cs, CsRel w I ρ (AV.flatL xs) cs → CsRel w I' ρ' (AV.flatL ys) cs := by
      intro xs
      induction xs with
      | nil =>
        intro ys hl _ cs hc
        cases ys with
        | nil => exact ⟨hc.1, fun k hk => by simp [AV.flatL] at hk⟩
        | cons y ys => simp at hl
      | cons x xs ih =>
        intro ys hl h cs hc
        cases ys with
        | nil => simp at hl
        | cons y ys =>
          simp only [AV.flatL] at hc ⊢
          obtain ⟨as, bs, rfl, h1, h2⟩ := hc.split
          exact (h 0 (by simp) as h1).append (ih ys (by simpa using hl) (fun k hk => by simpa using h (k + 1) (by simpa using hk)) bs h2)
    exact key xs ys hl ih

theorem Frz.rel (hI : ∀ b, I b → I' b) (hS : ∀ n x, K n → ρ n = some x → ρ' n = some x) (hb : ∀ n blk, Heap.get H n = some blk → BRel w I ρ n blk) (hfz : ∀ n blk b o r, Heap.get H n = some blk → ¬ K n → ρ n = some (b, o, r) → I' b) {x y : AV} (h : Frz K H x y) {c : Value} (hc : XRel w I ρ x c) : XRel w I' ρ' y c := by
  have hf := h.flat hI hS hb hfz
  cases h with
  | same x hx => exact hc.on hI hS hx
  | vcut es len m h1 h2 h3 =>
    have := hf [c] ⟨rfl, fun k hk => by
      have hk0 : k = 0 := by simp [AV.flat] at hk; exact hk
      subst hk0; exact hc⟩
    exact this.2 0 (by simp [AV.flat])
  | sl n off p i len cap wd root es h1 h2 h3 h4 h5 h6 h7 =>
    have := hf [c] ⟨rfl, fun k hk => by
      have hk0 : k = 0 := by simp [AV.flat] at hk; exact hk
      subst hk0; exact hc⟩
    exact this.2 0 (by simp [AV.flat])
  | slc n off p i len cap wd m root es h1 h2 h3 h4 h8 h9 h5 h6 h7 =>
    have := hf [c] ⟨rfl, fun k hk => by
      have hk0 : k = 0 := by simp [AV.flat] at hk; exact hk
      subst hk0; exact hc⟩
    exact this.2 0 (by simp [AV.flat])
  | nil =>
    have hc' : CRel w I ρ .nilsl c := hc
    cases hc'; exact CRel.vsl0 _ _
  | agg xs ys hl h =>
    obtain ⟨cs, rfl, hcs⟩ := hc
    exact ⟨cs, rfl, hf _ hcs⟩

theorem FrzV.rel (hI : ∀ b, I b → I' b) (hS : ∀ n x, K n → ρ n = some x → ρ' n = some x) (hb : ∀ n blk, Heap.get H n = some blk → BRel w I ρ n blk) (hfz : ∀ n blk b o r, Heap.get H n = some blk → ¬ K n → ρ n = some (b, o, r) → I' b) {x y : AV} (h : FrzV K H x y) {c : Value} (hc : VRel w I ρ x c) : VRel w I' ρ' y c := by
  by_cases hx : ∃ vs, x = .tuple vs
  · obtain ⟨xs, rfl⟩ := hx
    by_cases hy : ∃ vs, y = .tuple vs
    · obtain ⟨ys, rfl⟩ := hy
      obtain ⟨cs, rfl, h1, h2⟩ := hc
      have hl := All2.length h
      refine ⟨cs, rfl, by omega, fun k hk => ?_⟩
      exact Frz.rel hI hS hb hfz (All2.get .undef .undef h k (by omega)) (h2 k (by omega))
    · cases y <;> first | exact absurd ⟨_, rfl⟩ hy | exact h.elim
  · have h1 : ∀ vs, x ≠ .tuple vs := fun vs h => hx ⟨vs, h⟩
    have h2 : ∀ vs, y ≠ .tuple vs := fun vs hv => by subst hv; cases x <;> first | exact absurd rfl (h1 _) | exact h.elim
    have h3 : Frz K H x y := by
      cases x <;> first | exact absurd rfl (h1 _) | (cases y <;> first | exact absurd rfl (h2 _) | exact h)
    rw [VRel_eq _ h1] at hc
    rw [VRel_eq _ h2]
    exact h3.rel hI hS hb hfz hc
end
end Go.Proofs.Ytipbgaahpchhbaa
/- Contracts from walks, and calls by contracts. -/
namespace Go.Proofs.Ytipbgaahpchhbaa
open Go Go.RowKit

def argEnv : List AV → Nat → Env
  | [], _ => []
  | a :: as, k => (k, a) :: argEnv as (k + 1)

theorem look_argEnv : ∀ (as : List AV) (k d : Nat) (v : AV), look (argEnv as k) d = some v → k ≤ d ∧ as[d - k]? = some v
  | [], k, d, v, h => by simp [argEnv, look] at h
  | a :: as, k, d, v, h => by
    simp only [argEnv, look] at h
    by_cases hd : d = k
    · subst hd; simp at h; subst h; simp
    · simp only [hd, if_false] at h
      obtain ⟨h1, h2⟩ := look_argEnv as (k + 1) d v h
      refine ⟨by omega, ?_⟩
      have : d - k = (d - (k + 1)) + 1 := by omega
      rw [this]; simpa using h2

/-- A result of a function. -/
def ResOk (P : Program) (s : St) (r : ResultVar) (u : AV) : Prop := match r with
  | .tmp t => look s.t t = some u ∧ ∀ vs, u ≠ .tuple vs
  | .cell a T => ∃ n off p root, look s.t a = some (.ptr n off p) ∧ Heap.get s.H n = some (.cells root) ∧ root.proj p = some u ∧ root.offOf p = off ∧ LoadOk P T u

def packRes : List AV → AV
  | [u] => u
  | us => .tuple us

def BFrz (K : Nat → Prop) (H : Heap) : ABlk → ABlk → Prop
  | .cells x, .cells y => Frz K H x y
  | .map es, .map ds => es = ds ∧ (ABlk.map es).on K
  | _, _ => False

/-- Where a walk of a body must end. -/
def Final (P : Program) (fn : Func) (v : AV) (put : Heap) (e : Exit) (s : St) : Prop :=
  (e = .normal ∨ e = .ret) ∧ ∃ us, All2 (ResOk P s) fn.results.toList us ∧ FrzV (fun n => Heap.get put n ≠ none) s.H (packRes us) v ∧
    ∀ n b, Heap.get put n = some b → ∃ b0, Heap.get s.H n = some b0 ∧ BFrz (fun n => Heap.get put n ≠ none) s.H b0 b

def resSem (tmps : Array Value) : ResultVar → Sem Value
  | .tmp t => pure (tmps.getD t Go.undef)
  | .cell b t => do loadVar t (← asAddr (tmps.getD b Go.undef))

theorem results_eq (fn : Func) (tmps : Array Value) : results fn tmps = (do let vs ← fn.results.mapM (resSem tmps); pure (if h : vs.size = 1 then vs[0] else .tuple vs)) := by
  unfold results
  congr 1

theorem run_result {P : Program} {w : World} {I : Nat → Prop} {ρ : Rho} {s : St} {a : Act} (hs : SRel w I ρ s.fs a) {r : ResultVar} {u : AV} (h : ResOk P s r u) :
    ∃ c, XRel w I ρ u c ∧ (resSem a.tmps r).run P w = .ok c w := by
  cases r with
  | tmp t =>
    obtain ⟨h1, h2⟩ := h
    exact ⟨_, XRel.of_V (hs.tmps t u h1).2 h2, rfl⟩
  | cell b T =>
    obtain ⟨n, off, p, root, h1, h2, h3, h4, h5⟩ := h
    obtain ⟨bb, base, r, hr, hc⟩ := inv_ptr (hs.tmps b _ h1).2
    obtain ⟨b', o', r', hr', hI, hlies⟩ := hs.heap.rel n _ h2
    rw [hr] at hr'; cases hr'
    obtain ⟨arr, E, fz, k1, k2, k3, k4, k5⟩ := hlies.ex
    obtain ⟨pre, post, g1, g2, _⟩ := AV.flat_at p root u h3
    have hlen : root.flat.length = pre.length + u.size + post.length := by rw [g2]; simp [AV.flat_length]; omega
    obtain ⟨c, q1, q2⟩ := run_loadVar' (P := P) (w := w) (I := I) (ρ := ρ) (T := T) (u := u) (b := bb) (off := base + off) (f := fun k => arr.getD (base + off + k) Go.undef) h5
      (fun k hk => by
        have hlt : base + off + k < arr.size := by omega
        simp [World.cell?, k1, Array.getD_eq_getD_getElem?, Array.getElem?_eq_getElem hlt])
      (fun k hk => by
        have := k5 (pre.length + k) (by omega)
        rw [g2, getD_mid _ _ _ _ _ (by rw [AV.flat_length]; exact hk), g1, h4] at this
        rwa [Nat.add_assoc])
    have ht : ∀ vs, u ≠ .tuple vs := fun vs h => by subst h; exact h5
    refine ⟨c, XRel.of_V q1 ht, ?_⟩
    simp only [resSem, hc, Sem.run_bind, asAddr, Sem.run_pure, Result.andThen_ok, q2]

theorem run_results {P : Program} {w : World} {I : Nat → Prop} {ρ : Rho} {s : St} {a : Act} (hs : SRel w I ρ s.fs a) {fn : Func} {us : List AV} (h : All2 (ResOk P s) fn.results.toList us) :
    ∃ c, VRel w I ρ (packRes us) c ∧ (results fn a.tmps).run P w = .ok c w := by
  have key : ∀ (rs : List ResultVar) (us : List AV), All2 (ResOk P s) rs us → ∃ cs : List Value, (rs.mapM (resSem a.tmps)).run P w = .ok cs w ∧ All2 (XRel w I ρ) us cs := by
    intro rs
    induction rs with
    | nil => intro us h; cases us with
      | nil => exact ⟨[], rfl, trivial⟩
      | cons u us => exact h.elim
    | cons r rs ih => intro us h; cases us with
      | nil => exact h.elim
      | cons u us =>
        obtain ⟨c, h1, h2⟩ := run_result hs h.1
        obtain ⟨cs, h3, h4⟩ := ih us h.2
        exact ⟨c :: cs, by simp only [List.mapM_cons, Sem.run_bind, h2, Result.andThen_ok, h3, Sem.run_pure], h1, h4⟩
  obtain ⟨cs, h1, h2⟩ := key _ _ h
  have hrun : (results fn a.tmps).run P w = .ok (if h : cs.toArray.size = 1 then cs.toArray[0] else .tuple cs.toArray) w := by
    rw [results_eq]
    have e0 : fn.results.mapM (resSem a.tmps) = List.toArray <$> fn.results.toList.mapM (resSem a.tmps) := by
      rw [← List.mapM_toArray]
    rw [e0, Sem.run_bind, Sem.run_map, h1]
    rfl
  refine ⟨_, ?_, hrun⟩
  cases us with
  | nil =>
    cases cs with
    | nil => exact ⟨#[], rfl, rfl, fun k hk => by simp at hk⟩
    | cons c cs => exact h2.elim
  | cons u us =>
    cases cs with
    | nil => exact h2.elim
    | cons c cs =>
      cases us with
      | nil =>
        cases cs with
        | nil =>
          have h3 := h2.1
          have ht : ∀ vs, u ≠ .tuple vs := fun vs h => by subst h; exact h3.elim
          show VRel w I ρ u c
          rw [VRel_eq _ ht]; exact h3
        | cons _ _ => exact h2.2.elim
      | cons u2 us =>
        cases cs with
        | nil => exact h2.2.elim
        | cons c2 cs =>
          have hn : ¬ ((c :: c2 :: cs).toArray.size = 1) := by simp
          rw [dif_neg hn]
          refine ⟨_, rfl, ?_, fun k hk => ?_⟩
          · have := All2.length h2; simp at this ⊢; omega
          · have := All2.get .undef Go.undef h2 k hk
            simpa [Array.getD_eq_getD_getElem?, List.getD_eq_getElem?_getD] using this

end Go.Proofs.Ytipbgaahpchhbaa
/- Contracts from walks, and calls by contracts. -/
namespace Go.Proofs.Ytipbgaahpchhbaa
open Go Go.RowKit

theorem ne_none {α : Type} {o : Option α} {x : α} (h : o = some x) : o ≠ none := by rw [h]; simp

theorem get_mem {H : Heap} {n : Nat} (h : n ∈ H.map (·.1)) : ∃ b, Heap.get H n = some b := by
  induction H with
  | nil => simp at h
  | cons x r ih =>
    obtain ⟨m, b⟩ := x
    simp only [Heap.get]
    by_cases hn : n = m
    · exact ⟨b, by simp [hn]⟩
    · simp only [List.map_cons, List.mem_cons, hn, false_or] at h
      obtain ⟨b', hb'⟩ := ih h
      exact ⟨b', by simp [hn, hb']⟩

/-- A contract from a walk of the body. -/
theorem ACall.intro {P : Program} {f : FuncId} {fn : Func} {c : Code} {args : List AV} {H : Heap} {v : AV} {put : Heap} (hf : P.funcs[f]? = some fn) (hb : fn.body = some c) (ht : args.length ≤ fn.ntmps)
    (hargs : ∀ x, x ∈ args → AV.on (fun n => n ∈ H.map (·.1)) x ∧ ∀ vs, x ≠ .tuple vs) (hH : ∀ n b, Heap.get H n = some b → b.on fun n => n ∈ H.map (·.1)) (nx : Nat) (hnx : ∀ n, n ∈ H.map (·.1) → n < nx) (hpin : ∀ n, n ∈ H.map (·.1) → n < 100)
    (h : AWp P c { n := fn.ntmps, t := argEnv args 0, H := H, nx := nx } (Final P fn v put)) : ACall P f args H v put := by
  intro w I ρ cargs hsz hrel hbl hinj himm hfr
  refine calls_of_wp hf hb ?_
  let S : Nat → Prop := fun n => n ∈ H.map (·.1)
  let ρ0 : Rho := fun n => if n ∈ H.map (·.1) then ρ n else none
  have hρ0 : ∀ n x, S n → ρ n = some x → ρ0 n = some x := fun n x hn hx => by simp only [ρ0]; rw [if_pos hn]; exact hx
  have hρ0' : ∀ n x, ρ0 n = some x → S n ∧ ρ n = some x := fun n x hx => by
    simp only [ρ0] at hx
    by_cases hn : n ∈ H.map (·.1)
    · rw [if_pos hn] at hx; exact ⟨hn, hx⟩
    · rw [if_neg hn] at hx; cases hx
  have hown : ∀ b, Owns ρ0 (Heap.get H) b → OwnW ρ (H.map (·.1)) b := by
    rintro b ⟨n, blk, o, r, h1, h2⟩
    exact ⟨n, (hρ0' n _ h2).1, o, r, (hρ0' n _ h2).2⟩
  have hown' : ∀ b, OwnW ρ (H.map (·.1)) b → OwnW ρ0 (H.map (·.1)) b := by
    rintro b ⟨n, hn, o, r, hr⟩
    exact ⟨n, hn, o, r, hρ0 n _ hn hr⟩
  have hat : At ⟨w, I, ρ0, OwnW ρ (H.map (·.1)), fun n x hx => hpin n (hρ0' n x hx).1⟩ { n := fn.ntmps, t := argEnv args 0, H := H, nx := nx } { tmps := cargs ++ Array.replicate (fn.ntmps - cargs.size) Go.undef, defers := [] } w := by
    refine ⟨I, ρ0, Ext.refl _ _ _ _, ⟨by simp [St.fs]; omega, fun d v hv => ?_, rfl, ⟨fun n b hb => ?_, fun n m x y hnm h1 h2 b o r b' o' r' hr hr' => ?_⟩, fun b hb => ⟨(himm b hb).1, fun ho => (himm b hb).2 (hown b ho)⟩, fun n hn => ?_⟩, fun b hb => .inl (hown b hb)⟩
    · have := look_argEnv args 0 d v hv
      simp only [Nat.sub_zero, Nat.zero_le, true_and] at this
      have hd : d < args.length := by
        rcases Nat.lt_or_ge d args.length with h | h
        · exact h
        · simp [List.getElem?_eq_none h] at this
      refine ⟨by simp; omega, ?_⟩
      have hmem : v ∈ args := List.mem_of_getElem? this
      have h1 := hrel d hd
      rw [List.getD_eq_getElem?_getD, this, Option.getD_some] at h1
      rw [VRel_eq _ (hargs v hmem).2]
      have e1 : (cargs ++ Array.replicate (fn.ntmps - cargs.size) Go.undef).getD d Go.undef = cargs.getD d Go.undef := by
        have hdc : d < cargs.size := by omega
        simp [Array.getD_eq_getD_getElem?, Array.getElem?_append, hdc]
      rw [e1]
      exact h1.on (fun _ h => h) hρ0 (hargs v hmem).1
    · exact (hbl n b hb).on' (fun _ h => h) hρ0 (get_map hb) (hH n b hb) fun b' o r hr hI => by
        obtain ⟨b1, o1, r1, g1, g2⟩ := (hbl n b hb).dom
        rw [hr] at g1; cases g1; exact g2 hI
    · exact hinj n m x y hnm h1 h2 b o r b' o' r' (hρ0' n _ hr).2 (hρ0' m _ hr').2
    · simp only [St.fs] at hn
      simp only [ρ0]
      rw [if_neg]
      intro hm
      have := hnx n hm
      omega
  refine wp_mono (h _ _ _ hat) ?_
  rintro e a' w' ⟨s', ⟨he, us, hres, hfz, hput⟩, hA⟩
  obtain ⟨I', ρ', hx, hs, ho⟩ := hA.ex
  obtain ⟨cv, hcv, hrun⟩ := run_results hs hres
  -- what is frozen
  let K : Nat → Prop := fun n => Heap.get put n ≠ none
  let I2 : Nat → Prop := fun b => I' b ∨ ∃ n blk o r, Heap.get s'.H n = some blk ∧ ¬ K n ∧ ρ' n = some (b, o, r)
  let ρ2 : Rho := fun n => if (Heap.get put n).isSome then ρ' n else ρ n
  have hKsome : ∀ n, K n → (Heap.get put n).isSome = true := fun n hn => by
    cases hg : Heap.get put n with
    | none => exact absurd hg hn
    | some _ => rfl
  have hII : ∀ b, I' b → I2 b := fun b hb => .inl hb
  have hSS : ∀ n x, K n → ρ' n = some x → ρ2 n = some x := fun n x hn hx => by simp only [ρ2]; rw [if_pos (hKsome n hn)]; exact hx
  have hfzI : ∀ n blk b o r, Heap.get s'.H n = some blk → ¬ K n → ρ' n = some (b, o, r) → I2 b := fun n blk b o r h1 h2 h3 => .inr ⟨n, blk, o, r, h1, h2, h3⟩
  have hval : VRel w' I2 ρ2 v cv := hfz.rel hII hSS hs.heap.rel hfzI hcv
  have hkept : ∀ n blk b o r, Heap.get put n = some blk → ρ' n = some (b, o, r) → ¬ I2 b := by
    intro n blk b o r hn hr hI
    obtain ⟨b0, hb0, _⟩ := hput n blk hn
    rcases hI with hI | ⟨m, blk', o', r', h1, h2, h3⟩
    · exact (hs.imm b hI).2 ⟨n, b0, o, r, hb0, hr⟩
    · have hnm : n ≠ m := by intro h; subst h; exact h2 (ne_none hn)
      exact hs.heap.inj n m b0 blk' hnm hb0 h1 _ _ _ _ _ _ hr h3 rfl
  have hpost : LSPost w I ρ ⟨v, [], H.map (·.1), put⟩ cv w' I2 ρ2 := by
    refine ⟨hval, fun n b hn => ?_, fun n m x y hnm h1 h2 b o r b' o' r' hr hr' => ?_, fun n x hn b o r hr => ?_, ⟨hx.os, hx.tape, hx.output, hx.size, hx.keep, fun b hb => .inl (hx.imm b hb), fun b hb => ?_, fun n x hx' => ?_⟩, fun b hb => ?_, fun n h1 h2 => ?_⟩
    · obtain ⟨b0, hb0, hfb⟩ := hput n b hn
      have hKn : K n := ne_none hn
      have hrel0 := hs.heap.rel n b0 hb0
      cases b0 with
      | cells x0 =>
        cases b with
        | cells y0 =>
          obtain ⟨bb, o, r, h1, h2, h3⟩ := hrel0
          obtain ⟨arr, T, fz, g1, g2, g3, g4, g5⟩ := h3.ex
          have hfl := Frz.flat hII hSS hs.heap.rel hfzI hfb
          have hr4 : x0.flat.length ≤ arr.size - o := by omega
          have hcs := hfl ((arr.toList.drop o).take x0.flat.length) ⟨by simp; omega, fun k hk => by
            have := g5 k hk
            have e1 : ((arr.toList.drop o).take x0.flat.length).getD k Go.undef = arr.getD (o + k) Go.undef := by
              rw [← getD_toList]
              simp only [List.getD_eq_getElem?_getD, List.getElem?_take, hk, if_true, List.getElem?_drop]
            rw [e1]; exact this⟩
          obtain ⟨q1, q2⟩ := hcs
          have q1' : y0.flat.length = x0.flat.length := by rw [← q1]; simp; omega
          refine ⟨bb, o, r, hSS n _ hKn h1, hkept n _ bb o r hn h1, arr, T, fz, g1, g2, g3, by omega, fun k hk => ?_⟩
          have := q2 k hk
          have e1 : ((arr.toList.drop o).take x0.flat.length).getD k Go.undef = arr.getD (o + k) Go.undef := by
            rw [← getD_toList]
            have : k < x0.flat.length := by omega
            simp only [List.getD_eq_getElem?_getD, List.getElem?_take, this, if_true, List.getElem?_drop]
          rwa [e1] at this
        | map es => exact hfb.elim
        | raw _ _ => exact hfb.elim
      | raw _ _ => cases b <;> exact hfb.elim
      | map es =>
        cases b with
        | cells y0 => exact hfb.elim
        | raw _ _ => exact hfb.elim
        | map ds =>
          obtain ⟨rfl, hon⟩ := hfb
          exact hrel0.on' hII hSS hKn hon fun bb o r hr => hkept n _ bb o r hn hr
    · have k1 : K n := ne_none h1
      have k2 : K m := ne_none h2
      obtain ⟨x0, hx0, _⟩ := hput n x h1
      obtain ⟨y0, hy0, _⟩ := hput m y h2
      simp only [ρ2] at hr hr'
      rw [if_pos (hKsome n k1)] at hr
      rw [if_pos (hKsome m k2)] at hr'
      exact hs.heap.inj n m x0 y0 hnm hx0 hy0 b o r b' o' r' hr hr'
    · have k1 : K n := ne_none hn
      obtain ⟨x0, hx0, _⟩ := hput n x hn
      simp only [ρ2] at hr
      rw [if_pos (hKsome n k1)] at hr
      exact ho b ⟨n, x0, o, r, hx0, hr⟩
    · rcases hb with hb | ⟨n, blk, o, r, h1, h2, h3⟩
      · exact hx.new b hb
      · exact .inr (ho b ⟨n, blk, o, r, h1, h3⟩)
    · simp only [ρ2]
      by_cases hk : (Heap.get put n).isSome = true
      · rw [if_pos hk]
        by_cases hm : n ∈ H.map (·.1)
        · exact hx.rho n x (hρ0 n x hm hx')
        · cases hg : Heap.get put n with
          | none => rw [hg] at hk; cases hk
          | some blk => rw [hfr n blk hg hm] at hx'; cases hx'
      · rw [if_neg hk]; exact hx'
    · rcases hb with hb | ⟨n, blk, o, r, h1, h2, h3⟩
      · exact (hs.imm b hb).1
      · exact (hs.heap.rel n blk h1).lt h3
    · have h2' : Heap.get put n = none := h2
      simp only [ρ2, h2', Option.isSome_none, Bool.false_eq_true, if_false]
      exact h1
  rcases he with rfl | rfl
  · exact ⟨hs.defers, cv, hrun, cv, I2, ρ2, rfl, hpost⟩
  · exact ⟨hs.defers, cv, hrun, cv, I2, ρ2, rfl, hpost⟩

/-- May a function be entered? -/
def fnOk (P : Program) (f : FuncId) : Bool := match P.funcs[f]? with
  | some fn => fn.body.isSome && !(fn.name == "runtime.NumGoroutine")
  | none => false

theorem run_callFunc {P : Program} {f : FuncId} (h : fnOk P f = true) (args : Array Value) (w : World) : (callFunc f args).run P w = .ok (.enter f args) w := by
  unfold fnOk at h
  cases hf : P.funcs[f]? with
  | none => simp [hf] at h
  | some fn =>
    simp only [hf, Bool.and_eq_true, Bool.not_eq_true'] at h
    have h2 : fn.body.isNone = false := by cases hb : fn.body <;> simp [hb] at h ⊢
    simp only [callFunc, Sem.run_bind, run_program, Result.andThen_ok, hf, h.2, Bool.false_eq_true, if_false, h2, Sem.run_ite, Sem.run_pure]

theorem ls_call {P : Program} {o : Oper} {ev : Operand → Option AV} {H : Nat → Option ABlk} {f : FuncId} {fo : Operand} {as : Array Operand} {ts : Array TypeId} {caps args : List AV} {HH : Heap} {v : AV} {put : Heap}
    (ho : o.op = .call { callee := .value fo, args := as, argTypes := ts }) (hfo : ev fo = some (.func f caps)) (hok : fnOk P f = true) (hargs : as.toList.map ev = args.map some) (hta : ∀ x, x ∈ args → ∀ vs, x ≠ .tuple vs) (hcaps : ∀ x, x ∈ caps → (∀ vs, x ≠ .tuple vs) ∧ ∀ vs, x ≠ .agg vs)
    (hc : ACall P f (args ++ caps) HH v put) (hHH : ∀ n b, Heap.get HH n = some b → H n = some b) : LS P o ev H ⟨v, [], HH.map (·.1), put⟩ := by
  intro a w I ρ hd hev hrd hinj himm hfr K Q hK
  have hf := hev fo (by simp [ho, Op.operands, Call.operands]) _ hfo
  obtain ⟨cs, hfc, hcs1, hcs2⟩ := inv_func hf
  have hlen : as.size = args.length := by have := congrArg List.length hargs; simpa using this
  have hrel : ∀ k, k < args.length → XRel w I ρ (args.getD k .undef) ((as.map a.eval).getD k Go.undef) := by
    intro k hk
    have hk' : k < as.size := by omega
    have h1 : (as.toList.map ev)[k]? = (args.map some)[k]? := by rw [hargs]
    simp only [List.getElem?_map, Array.getElem?_toList, Array.getElem?_eq_getElem hk', List.getElem?_eq_getElem hk, Option.map_some, Option.some.injEq] at h1
    have hm : args[k] ∈ args := List.getElem_mem hk
    have h2 := hev as[k] (by simp [ho, Op.operands, Call.operands]) _ h1
    rw [VRel_eq _ (hta _ hm)] at h2
    rw [List.getD_eq_getElem?_getD, List.getElem?_eq_getElem hk, Array.getD_eq_getD_getElem?, Array.getElem?_map, Array.getElem?_eq_getElem hk']
    exact h2
  have hcall := hc w I ρ (as.map a.eval ++ cs) (by simp [hlen, hcs1]) (fun k hk => by
    simp only [List.length_append] at hk
    by_cases hka : k < args.length
    · have h1 := hrel k hka
      have e1 : (args ++ caps).getD k .undef = args.getD k .undef := by simp [List.getD_eq_getElem?_getD, List.getElem?_append_left hka]
      have e2 : (as.map a.eval ++ cs).getD k Go.undef = (as.map a.eval).getD k Go.undef := by
        have : k < (as.map a.eval).size := by simp; omega
        rw [Array.getD_eq_getD_getElem?, Array.getElem?_append_left this, ← Array.getD_eq_getD_getElem?]
      rw [e1, e2]; exact h1
    · have h1 := hcs2 (k - args.length) (by omega)
      have e1 : (args ++ caps).getD k .undef = caps.getD (k - args.length) .undef := by
        rw [List.getD_eq_getElem?_getD, List.getElem?_append_right (by omega), ← List.getD_eq_getElem?_getD]
      have e2 : (as.map a.eval ++ cs).getD k Go.undef = cs.getD (k - args.length) Go.undef := by
        rw [Array.getD_eq_getD_getElem?, Array.getElem?_append_right (by simp; omega), ← Array.getD_eq_getD_getElem?]
        simp [hlen]
      rw [e1, e2]
      have hm : caps.getD (k - args.length) .undef ∈ caps := by
        rw [List.getD_eq_getElem?_getD, List.getElem?_eq_getElem (by omega)]; exact List.getElem_mem _
      have := VRel.cell h1 (hcaps _ hm).1 (hcaps _ hm).2
      exact XRel.of_V this (hcaps _ hm).1)
    (fun n b hn => hrd n (.inr (get_map hn)) b (hHH n b hn)) (fun n m x y hnm h1 h2 => hinj n m x y (get_map h1) (.inr (get_map h2)) hnm (hHH n x h1) (hHH m y h2)) himm hfr
  unfold Oper.wp
  have hrun : (execOp a.eval o).run P w = .ok (.enter f (as.map a.eval ++ cs)) w := by
    simp only [execOp, ho, resolve, hfc, Deferred.ofValue, Sem.run_bind, Sem.run_pure, Result.andThen_ok, invoke, run_callFunc hok]
    simp
  rw [hrun]
  refine Calls.mono hcall ?_
  rintro e w' ⟨c, I', ρ', rfl, hp⟩
  exact hK _ _ _ _ hp

end Go.Proofs.Ytipbgaahpchhbaa
/- Equality of values that are made of numbers, bools and texts. -/
namespace Go.Proofs.Ytipbgaahpchhbaa
open Go Go.RowKit

/-- Are two cells alike? -/
def scEq : AV → AV → Option Bool
  | .int k a, .int k' b => if k = k' then some (a == b) else none
  | .bool a, .bool b => some (a == b)
  | .str a, .str b => some (strEq a b)
  | _, _ => none
def cellsEq : List AV → List AV → Option Bool
  | [], [] => some true
  | x :: xs, y :: ys => match scEq x y, cellsEq xs ys with
    | some a, some b => some (a && b)
    | _, _ => none
  | _, _ => none

theorem cellsEq_length : ∀ {xs ys : List AV} {b : Bool}, cellsEq xs ys = some b → xs.length = ys.length
  | [], [], _, _ => rfl
  | x :: xs, y :: ys, b, h => by
    simp only [cellsEq] at h
    cases h1 : scEq x y with
    | none => simp [h1] at h
    | some a =>
      cases h2 : cellsEq xs ys with
      | none => simp [h1, h2] at h
      | some c => simp [cellsEq_length h2]
  | [], _ :: _, _, h => by simp [cellsEq] at h
  | _ :: _, [], _, h => by simp [cellsEq] at h

theorem cellsEq_split : ∀ {xs ys : List AV} {b : Bool} (n : Nat), cellsEq xs ys = some b → ∃ b1 b2, cellsEq (xs.take n) (ys.take n) = some b1 ∧ cellsEq (xs.drop n) (ys.drop n) = some b2 ∧ b = (b1 && b2)
  | xs, ys, b, 0, h => ⟨true, b, by simp [cellsEq], by simpa using h, by simp⟩
  | [], [], b, n + 1, h => by simp only [cellsEq, Option.some.injEq] at h; subst h; exact ⟨true, true, rfl, rfl, rfl⟩
  | x :: xs, y :: ys, b, n + 1, h => by
    simp only [cellsEq] at h
    cases h1 : scEq x y with
    | none => simp [h1] at h
    | some a =>
      cases h2 : cellsEq xs ys with
      | none => simp [h1, h2] at h
      | some c =>
        simp only [h1, h2, Option.some.injEq] at h
        obtain ⟨b1, b2, g1, g2, g3⟩ := cellsEq_split n h2
        exact ⟨a && b1, b2, by simp [cellsEq, h1, g1], by simpa using g2, by rw [← h, g3, Bool.and_assoc]⟩
  | [], _ :: _, _, _, h => by simp [cellsEq] at h
  | _ :: _, [], _, _, h => by simp [cellsEq] at h

/-- What a cell is. -/
inductive K3 where
  | b | i | s
def kindOf : AV → Option K3
  | .bool _ => some .b
  | .int _ _ => some .i
  | .str _ => some .s
  | _ => none

def fieldKindsF (fk : TypeId → Option (List K3)) : List Field → Nat → Option (List K3)
  | [], _ => some []
  | f :: fs, off => if f.name = "_" ∨ f.offset ≠ off then none else match fk f.type with
    | some ks => if ks.length = 0 then none else (fieldKindsF fk fs (off + ks.length)).map (ks ++ ·)
    | none => none
/-- The cells of a type of which the values are compared cell by cell. -/
def flatKinds (P : Program) : Nat → TypeId → Option (List K3)
  | 0, _ => none
  | d + 1, T => match P.underlying T with
    | some .bool => if szOf P T = some 1 then some [.b] else none
    | some .string => if szOf P T = some 1 then some [.s] else none
    | some (.int _) => if szOf P T = some 1 then some [.i] else none
    | some (.struct fs) => if P.stoodInHeld T then none else match fieldKindsF (flatKinds P d) fs.toList 0 with
      | some ks => if szOf P T = some ks.length then some ks else none
      | none => none
    | some (.array n E) => match flatKinds P d E with
      | some ks => if ks.length ≠ 0 ∧ szOf P E = some ks.length ∧ szOf P T = some (n * ks.length) then some (List.replicate n ks).flatten else none
      | none => none
    | _ => none
abbrev fieldKinds (P : Program) (d : Nat) : List Field → Nat → Option (List K3) := fieldKindsF (flatKinds P d)

def cellVal (d : TypeDesc) (l : List Value) : Value := if isAggD d then .agg l.toArray else l.getD 0 Go.undef

theorem run_part_val {P : Program} {T : TypeId} {d : TypeDesc} {n off : Nat} {cs : Array Value} (hd : P.underlying T = some d) (hs : szOf P T = some n) (h1 : isAggD d = false → n = 1) (hl : off + n ≤ cs.size) (w : World) :
    (part T cs off).run P w = .ok (cellVal d ((cs.toList.drop off).take n)) w := by
  unfold part
  rw [Sem.run_bind, run_isAgg' hd]
  cases ha : isAggD d with
  | true =>
    simp only [Result.andThen_ok, if_true, Sem.run_bind, run_sizeOf' hs, Sem.run_pure, cellVal, ha]
    congr 2
    apply Array.ext'
    simp [List.extract]
  | false =>
    have := h1 ha
    subst this
    have hlt : off < cs.size := by omega
    simp only [Result.andThen_ok, if_false, Bool.false_eq_true, Array.getElem?_eq_getElem hlt, Sem.run_pure, cellVal, ha]
    congr 1
    rw [List.getD_eq_getElem?_getD, List.getElem?_take, if_pos (by omega), List.getElem?_drop]
    simp [hlt]

theorem CsRel.takeDrop {w : World} {I : Nat → Prop} {ρ : Rho} {xs : List AV} {cs : List Value} (h : CsRel w I ρ xs cs) (n : Nat) : CsRel w I ρ (xs.take n) (cs.take n) ∧ CsRel w I ρ (xs.drop n) (cs.drop n) := by
  obtain ⟨h1, h2⟩ := h
  refine ⟨⟨by simp [h1], fun k hk => ?_⟩, ⟨by simp [h1], fun k hk => ?_⟩⟩
  · simp only [List.length_take] at hk
    have hkn : k < n := by omega
    have := h2 k (by omega)
    simpa [List.getD_eq_getElem?_getD, List.getElem?_take, hkn] using this
  · simp only [List.length_drop] at hk
    have := h2 (n + k) (by omega)
    rw [getD_drop, getD_drop]; exact this

section
variable {P : Program}

def EqOk (P : Program) (d : Nat) (T : TypeId) (ks : List K3) : Prop :=
  ∃ td, P.underlying T = some td ∧ szOf P T = some ks.length ∧ (isAggD td = false → ks.length = 1) ∧
  ∀ (w : World) (I : Nat → Prop) (ρ : Rho) (xs ys : List AV) (cs ds : List Value) (b : Bool), xs.map kindOf = ks.map some → CsRel w I ρ xs cs → CsRel w I ρ ys ds → cellsEq xs ys = some b →
    (Op.equalIn d T (cellVal td cs) (cellVal td ds)).run P w = .ok b w

theorem eq_scalar {d : Nat} {T : TypeId} {td : TypeDesc} {k : K3} (hd : P.underlying T = some td) (hs : szOf P T = some 1) (hk : match k with | .b => td = .bool | .s => td = .string | .i => ∃ q, td = .int q) : EqOk P (d + 1) T [k] := by
  have ha : isAggD td = false := by cases k <;> (first | (subst hk; rfl) | (obtain ⟨q, rfl⟩ := hk; rfl))
  refine ⟨td, hd, by simpa using hs, fun _ => rfl, fun w I ρ xs ys cs ds b hx hc hdd he => ?_⟩
  have hly := cellsEq_length he
  have hx1 : xs.length = 1 := by have := congrArg List.length hx; simpa using this
  have hv : ∀ l : List Value, cellVal td l = l.getD 0 Go.undef := fun l => by simp [cellVal, ha]
  rw [hv, hv]
  match xs, ys, hx1, hly, he, hc, hdd, hx with
  | [x], [y], _, _, he, hc, hdd, hx =>
    have q1 := hc.2 0 (by simp)
    have q2 := hdd.2 0 (by simp)
    simp only [List.getD_cons_zero] at q1 q2
    generalize cs.getD 0 Go.undef = c at q1
    generalize ds.getD 0 Go.undef = e at q2
    simp only [List.map_cons, List.map_nil, List.cons.injEq, and_true] at hx
    simp only [cellsEq] at he
    cases hsc : scEq x y with
    | none => simp [hsc] at he
    | some r =>
      simp only [hsc, Bool.and_true, Option.some.injEq] at he
      subst he
      cases x <;> simp only [kindOf, Option.some.injEq, reduceCtorEq] at hx
      · subst hx
        subst hk
        cases y <;> simp only [scEq, reduceCtorEq, Option.some.injEq] at hsc
        cases q1; cases q2; subst hsc
        exact run_equalIn_bool' w _ T _ _ hd
      · subst hx
        obtain ⟨q, rfl⟩ := hk
        cases y <;> simp only [scEq, reduceCtorEq] at hsc
        split at hsc
        · rename_i hkk
          cases hsc
          cases q1; cases q2
          subst hkk
          exact run_equalIn_int w _ T _ _ _ _ hd
        · cases hsc
      · subst hx
        subst hk
        cases y <;> simp only [scEq, reduceCtorEq, Option.some.injEq] at hsc
        cases q1; cases q2; subst hsc
        exact run_equalIn_string w _ T _ _ hd

theorem map_split {xs : List AV} {a b : List K3} (h : xs.map kindOf = (a ++ b).map some) : (xs.take a.length).map kindOf = a.map some ∧ (xs.drop a.length).map kindOf = b.map some := by
  rw [List.map_append] at h
  constructor
  · rw [List.map_take, h]; simp
  · rw [List.map_drop, h]; simp

theorem fieldKinds_sound {d m : Nat} (IH : ∀ (T : TypeId) (ks : List K3), flatKinds P d T = some ks → EqOk P (d + m) T ks) : ∀ (fs : List Field) (off : Nat) (ks : List K3), fieldKinds P d fs off = some ks → ∀ (w : World) (I : Nat → Prop) (ρ : Rho) (xs ys : List AV) (cs ds : List Value) (b : Bool), xs.map kindOf = ks.map some → CsRel w I ρ xs (cs.drop off) → CsRel w I ρ ys (ds.drop off) → cellsEq xs ys = some b →
    (Op.eqFields (d + m) cs.toArray ds.toArray fs).run P w = .ok b w := by
  intro fs
  induction fs with
  | nil =>
    intro off ks h w I ρ xs ys cs ds b hx hc hdd he
    simp only [fieldKinds, fieldKindsF, Option.some.injEq] at h
    subst h
    have : xs = [] := by simpa using hx
    subst this
    have := cellsEq_length he
    have : ys = [] := by simpa using this.symm
    subst this
    simp only [cellsEq, Option.some.injEq] at he
    subst he
    simp [Op.eqFields]
  | cons f fs ih =>
    intro off ks h w I ρ xs ys cs ds b hx hc hdd he
    simp only [fieldKinds, fieldKindsF] at h
    split at h
    · cases h
    · rename_i hn
      split at h
      · rename_i k1 hk1
        split at h
        · cases h
        · rename_i hne
          cases hk2 : fieldKinds P d fs (off + k1.length) with
          | none => simp [hk2] at h
          | some k2 =>
            simp only [hk2, Option.map_some, Option.some.injEq] at h
            subst h
            obtain ⟨td, g1, g2, g3, g4⟩ := IH f.type k1 hk1
            obtain ⟨hx1, hx2⟩ := map_split hx
            obtain ⟨b1, b2, q1, q2, q3⟩ := cellsEq_split k1.length he
            have hlx : k1.length ≤ xs.length := by have := congrArg List.length hx; simp at this; omega
            have hly := cellsEq_length he
            have r1 := g4 w I ρ _ _ _ _ b1 hx1 (hc.takeDrop k1.length).1 (hdd.takeDrop k1.length).1 q1
            have hcl := hc.1
            have hdl := hdd.1
            simp only [List.length_drop] at hcl hdl
            have hoff : f.offset = off := by
              by_cases h : f.offset = off
              · exact h
              · exact absurd (.inr h) hn
            have hnm : f.name ≠ "_" := fun h => hn (.inl h)
            have p1 := run_part_val (P := P) (cs := cs.toArray) (off := off) g1 g2 g3 (by simp; omega) w
            have p2 := run_part_val (P := P) (cs := ds.toArray) (off := off) g1 g2 g3 (by simp; omega) w
            have r2 := ih (off + k1.length) k2 hk2 w I ρ _ _ cs ds b2 hx2 (by rw [← List.drop_drop]; exact (hc.takeDrop _).2) (by rw [← List.drop_drop]; exact (hdd.takeDrop _).2) q2
            simp only [Op.eqFields, hnm, ne_eq, not_false_eq_true, if_true, Sem.run_bind, hoff, p1, p2, Result.andThen_ok, r1, Sem.run_ite]
            subst q3
            cases b1 with
            | false => simp
            | true => simpa using r2
      · cases h

theorem itemKinds_sound {d : Nat} {E : TypeId} {ks : List K3} (hE : EqOk P d E ks) (hne : ks.length ≠ 0) (cs ds : List Value) (w : World) (I : Nat → Prop) (ρ : Rho) : ∀ (n j : Nat) (xs ys : List AV) (cs' ds' : List Value) (b : Bool), xs.map kindOf = (List.replicate n ks).flatten.map some → cs.drop (j * ks.length) = cs' → ds.drop (j * ks.length) = ds' →
    CsRel w I ρ xs cs' → CsRel w I ρ ys ds' → cellsEq xs ys = some b → (Op.eqItems d E ks.length cs.toArray ds.toArray (List.range' j n)).run P w = .ok b w := by
  obtain ⟨tdE, g1, g2, g3, g4⟩ := hE
  intro n
  induction n with
  | zero =>
    intro j xs ys cs' ds' b hx _ _ hc hdd he
    have : xs = [] := by simpa using hx
    subst this
    have := cellsEq_length he
    have : ys = [] := by simpa using this.symm
    subst this
    simp only [cellsEq, Option.some.injEq] at he
    subst he
    simp [Op.eqItems]
  | succ n ih =>
    intro j xs ys cs' ds' b hx h1 h2 hc hdd he
    rw [List.replicate_succ, List.flatten_cons] at hx
    obtain ⟨hx1, hx2⟩ := map_split hx
    obtain ⟨b1, b2, q1, q2, q3⟩ := cellsEq_split ks.length he
    have hlx : ks.length ≤ xs.length := by have := congrArg List.length hx; simp at this; omega
    have hly := cellsEq_length he
    have r1 := g4 w I ρ _ _ _ _ b1 hx1 (hc.takeDrop ks.length).1 (hdd.takeDrop ks.length).1 q1
    have hcl : cs'.length = xs.length := hc.1
    have hdl : ds'.length = ys.length := hdd.1
    have l1 : j * ks.length + ks.length ≤ cs.length := by rw [← h1] at hcl; simp at hcl; omega
    have l2 : j * ks.length + ks.length ≤ ds.length := by rw [← h2] at hdl; simp at hdl; omega
    have p1 := run_part_val (P := P) (cs := cs.toArray) (off := j * ks.length) g1 g2 g3 (by simpa using l1) w
    have p2 := run_part_val (P := P) (cs := ds.toArray) (off := j * ks.length) g1 g2 g3 (by simpa using l2) w
    simp only [h1] at p1
    simp only [h2] at p2
    have r2 := ih (j + 1) (xs.drop ks.length) (ys.drop ks.length) (cs'.drop ks.length) (ds'.drop ks.length) b2 hx2 (by rw [← h1, List.drop_drop]; congr 1; rw [Nat.add_mul]; omega) (by rw [← h2, List.drop_drop]; congr 1; rw [Nat.add_mul]; omega)
      (hc.takeDrop _).2 (hdd.takeDrop _).2 q2
    rw [List.range'_succ]
    simp only [Op.eqItems, Sem.run_bind, p1, p2, Result.andThen_ok, r1, Sem.run_ite]
    subst q3
    cases b1 with
    | false => simp
    | true => simpa using r2

theorem flatKinds_sound (d m : Nat) : ∀ (T : TypeId) (ks : List K3), flatKinds P d T = some ks → EqOk P (d + m) T ks := by
  induction d with
  | zero => intro T ks h; simp [flatKinds] at h
  | succ d ih =>
    intro T ks h
    have e0 : d + 1 + m = (d + m) + 1 := by omega
    rw [e0]
    simp only [flatKinds] at h
    split at h
    · rename_i hd; split at h
      · rename_i hs; injection h with h; subst h; exact eq_scalar hd hs rfl
      · cases h
    · rename_i hd; split at h
      · rename_i hs; injection h with h; subst h; exact eq_scalar hd hs rfl
      · cases h
    · rename_i q hd; split at h
      · rename_i hs; injection h with h; subst h; exact eq_scalar hd hs ⟨q, rfl⟩
      · cases h
    · rename_i fs hd
      split at h
      · cases h
      · rename_i hst
        split at h
        · rename_i ks' hf
          split at h
          · rename_i hs
            injection h with h
            subst h
            refine ⟨_, hd, hs, fun ha => by simp [isAggD] at ha, fun w I ρ xs ys cs ds b hx hc hdd he => ?_⟩
            have hfs : P.fieldsOf T = fs := by simp [Program.fieldsOf, hd]
            have hcv : ∀ l, cellVal (.struct fs) l = .agg l.toArray := fun l => rfl
            rw [hcv, hcv, run_equalIn_struct w (d + m) T cs.toArray ds.toArray (by rw [hfs]; exact hd) (by simpa using hst), hfs]
            exact fieldKinds_sound ih fs.toList 0 ks' hf w I ρ xs ys cs ds b hx (by simpa using hc) (by simpa using hdd) he
          · cases h
        · cases h
    · rename_i n E hd
      split at h
      · rename_i ks' hf
        split at h
        · rename_i hs
          injection h with h
          subst h
          have hE := ih E ks' hf
          have hlen : (List.replicate n ks').flatten.length = n * ks'.length := by simp
          refine ⟨_, hd, by rw [hlen]; exact hs.2.2, fun ha => by simp [isAggD] at ha, fun w I ρ xs ys cs ds b hx hc hdd he => ?_⟩
          have hcv : ∀ l, cellVal (.array n E) l = .agg l.toArray := fun l => rfl
          have g2 := hs.2.1
          obtain ⟨i, hi⟩ : ∃ i, P.info? E = some i := by
            unfold szOf at g2
            cases hi : P.info? E with
            | none => simp [hi] at g2
            | some i => exact ⟨i, rfl⟩
          have hce : P.cellsOf E = ks'.length := by
            unfold szOf at g2; simp [Program.cellsOf, g2]
          rw [hcv, hcv, run_equalIn_array w (d + m) cs.toArray ds.toArray hd hi, hce, List.range_eq_range']
          exact itemKinds_sound hE hs.1 cs ds w I ρ n 0 xs ys cs ds b hx (by simp) (by simp) hc hdd he
        · cases h
      · cases h
    · cases h

end

section
variable {P : Program} {o : Oper} {ev : Operand → Option AV} {H : Nat → Option ABlk} {v : AV} {rd : List Nat}

theorem ls_eq_agg {neq : Bool} {T T' : TypeId} {x y : Operand} {vs us : List AV} {ks : List K3} {b : Bool} (ho : o.op = .binOp (if neq then .neq else .eql) T x y T') (hx : ev x = some (.agg vs)) (hy : ev y = some (.agg us))
    (hk : flatKinds P 40 T = some ks) (hg : P.eqGuardType P.depth T = false) (ha : (P.underlying T).map isAggD = some true) (hv : (AV.flatL vs).map kindOf = ks.map some) (he : cellsEq (AV.flatL vs) (AV.flatL us) = some b) : LS P o ev H ⟨.bool (if neq then !b else b), [], [], []⟩ := by
  refine LS.value fun a w I ρ hev hrd => ?_
  obtain ⟨cs, h1, h2⟩ := inv_agg (hev x (by rw [ho]; simp [Op.operands]) _ hx)
  obtain ⟨ds, h3, h4⟩ := inv_agg (hev y (by rw [ho]; simp [Op.operands]) _ hy)
  obtain ⟨td, g1, g2, g3, g4⟩ := flatKinds_sound 40 9960 T ks hk
  have hagg : isAggD td = true := by simpa [g1] using ha
  have heq := g4 w I ρ _ _ _ _ b hv h2 h4 he
  have hc : ∀ arr : Array Value, cellVal td arr.toList = .agg arr := fun arr => by simp [cellVal, hagg]
  rw [hc, hc] at heq
  refine ⟨_, VRel.bool _, ?_⟩
  cases neq with
  | true =>
    simp only [if_true] at ho ⊢
    simp only [execOp, ho, h1, h3, Sem.run_bind, run_eqGuard_agg w _ T x y cs ds hg, Result.andThen_ok, run_neq_struct, heq, Sem.run_pure]
  | false =>
    simp only [Bool.false_eq_true, if_false] at ho ⊢
    simp only [execOp, ho, h1, h3, Sem.run_bind, run_eqGuard_agg w _ T x y cs ds hg, Result.andThen_ok, run_eql_struct, heq, Sem.run_pure]

theorem ls_eq_bool {neq : Bool} {T T' : TypeId} {x y : Operand} {p q : Bool} (ho : o.op = .binOp (if neq then .neq else .eql) T x y T') (hx : ev x = some (.bool p)) (hy : ev y = some (.bool q)) (hT : P.underlying T = some .bool) : LS P o ev H ⟨.bool (if neq then p != q else p == q), [], [], []⟩ := by
  refine LS.value fun a w I ρ hev hrd => ?_
  have h1 := (hev x (by rw [ho]; simp [Op.operands]) _ hx).bool_inv
  have h2 := (hev y (by rw [ho]; simp [Op.operands]) _ hy).bool_inv
  refine ⟨_, VRel.bool _, ?_⟩
  cases neq <;> simp at ho <;> simp [execOp, ho, h1, h2, eqGuard, binOp, run_equal_bool w T p q hT] <;> cases p <;> cases q <;> rfl

theorem run_equalIn_ptr0 (d : Nat) {T E : TypeId} (hT : P.underlying T = some (.pointer E)) (ae : Option Addr) (w : World) : (Op.equalIn (d + 1) T (.pointer none) (.pointer ae)).run P w = .ok ae.isNone w := by
  simp [Op.equalIn, run_underlying' hT]
theorem run_equalIn_ptr1 (d : Nat) {T E : TypeId} (hT : P.underlying T = some (.pointer E)) (ad : Addr) (w : World) : (Op.equalIn (d + 1) T (.pointer (some ad)) (.pointer none)).run P w = .ok false w := by
  simp [Op.equalIn, run_underlying' hT]

/-- Is it nil? -/
def isNilPtr : AV → Option Bool
  | .nilptr => some true
  | .ptr _ _ _ => some false
  | .vptr _ _ _ => some false
  | _ => none

theorem ls_eq_ptr {neq : Bool} {T T' E : TypeId} {x y : Operand} {u u' : AV} {p q : Bool} (ho : o.op = .binOp (if neq then .neq else .eql) T x y T') (hx : ev x = some u) (hy : ev y = some u') (hT : P.underlying T = some (.pointer E)) (hp : isNilPtr u = some p) (hq : isNilPtr u' = some q) (hpq : p = true ∨ q = true) :
    LS P o ev H ⟨.bool (if neq then !(p && q) else (p && q)), [], [], []⟩ := by
  refine LS.value fun a w I ρ hev hrd => ?_
  have inv : ∀ (u : AV) (c : Value) (p : Bool), isNilPtr u = some p → VRel w I ρ u c → ∃ ad, c = .pointer ad ∧ ad.isNone = p := by
    intro u c p hp hv
    cases u <;> simp only [isNilPtr, Option.some.injEq, reduceCtorEq] at hp
    · subst hp; change CRel w I ρ _ c at hv; cases hv; exact ⟨_, rfl, rfl⟩
    · subst hp; obtain ⟨_, _, _, _, h⟩ := inv_ptr hv; exact ⟨_, h, rfl⟩
    · subst hp; obtain ⟨_, _, _, _, _, _, h⟩ := inv_vptr hv; exact ⟨_, h, rfl⟩
  obtain ⟨ad, h1, h2⟩ := inv u _ p hp (hev x (by rw [ho]; simp [Op.operands]) _ hx)
  obtain ⟨ae, h3, h4⟩ := inv u' _ q hq (hev y (by rw [ho]; simp [Op.operands]) _ hy)
  refine ⟨_, VRel.bool _, ?_⟩
  have hg : ∀ op, (eqGuard op T x y (.pointer ad) (.pointer ae)).run P w = .ok () w := fun op => by cases op <;> simp [eqGuard]
  have he : (Op.equal T (.pointer ad) (.pointer ae)).run P w = .ok (p && q) w := by
    cases ad with
    | none =>
      have : p = true := by simpa using h2.symm
      subst this
      have := run_equalIn_ptr0 9999 hT ae w
      rw [h4] at this
      exact this
    | some ad =>
      have hp0 : p = false := by simpa using h2.symm
      subst hp0
      have hq1 : q = true := by simpa using hpq
      subst hq1
      have : ae = none := by cases ae <;> simp at h4 ⊢
      subst this
      exact run_equalIn_ptr1 9999 hT ad w
  cases neq with
  | true =>
    simp only [if_true] at ho ⊢
    simp only [execOp, ho, h1, h3, Sem.run_bind, hg, Result.andThen_ok, binOp, he, Sem.run_pure]
  | false =>
    simp only [Bool.false_eq_true, if_false] at ho ⊢
    simp only [execOp, ho, h1, h3, Sem.run_bind, hg, Result.andThen_ok, binOp, he, Sem.run_pure]
end
end Go.Proofs.Ytipbgaahpchhbaa
/- Maps that the call has made: made, looked up, stored to, taken from, counted. -/
namespace Go.Proofs.Ytipbgaahpchhbaa
open Go Go.RowKit

def scalarV : AV → Option Value
  | .bool b => some (.bool b)
  | .int k n => some (.int k n)
  | .str s => some (.string s)
  | _ => none
/-- A key's value: it names no memory. -/
def plainV : AV → Option Value
  | .agg vs => ((AV.flatL vs).mapM scalarV).map fun l => .agg l.toArray
  | .bool b => some (.bool b)
  | .int k n => some (.int k n)
  | .str s => some (.string s)
  | _ => none
theorem mapM_idx {α β : Type} {f : α → Option β} : ∀ {l : List α} {ys : List β}, l.mapM f = some ys → ys.length = l.length ∧ ∀ (i : Nat) (x : α), l[i]? = some x → ∃ y, f x = some y ∧ ys[i]? = some y
  | [], ys, h => by simp at h; subst h; exact ⟨rfl, fun i x h => by simp at h⟩
  | a :: l, ys, h => by
    simp only [List.mapM_cons] at h
    cases ha : f a with
    | none => simp [ha] at h
    | some b =>
      cases hl : l.mapM f with
      | none => simp [ha, hl] at h
      | some bs =>
        simp [ha, hl] at h
        subst h
        obtain ⟨h1, h2⟩ := mapM_idx hl
        refine ⟨by simp [h1], fun i x hx => ?_⟩
        cases i with
        | zero => simp at hx; subst hx; exact ⟨b, ha, rfl⟩
        | succ i => exact h2 i x (by simpa using hx)
theorem scalarV_rel {w : World} {I : Nat → Prop} {ρ : Rho} {x : AV} {v c : Value} (h : scalarV x = some v) (hc : CRel w I ρ x c) : c = v := by
  cases x <;> simp only [scalarV, Option.some.injEq, reduceCtorEq] at h <;> subst h <;> cases hc <;> rfl
theorem plainV_rel {w : World} {I : Nat → Prop} {ρ : Rho} {x : AV} {v c : Value} (h : plainV x = some v) (hc : XRel w I ρ x c) : c = v := by
  cases x with
  | agg vs =>
    obtain ⟨cs, rfl, h1, h2⟩ := hc
    simp only [plainV] at h
    cases hm : (AV.flatL vs).mapM scalarV with
    | none => simp [hm] at h
    | some l =>
      simp only [hm, Option.map_some, Option.some.injEq] at h
      subst h
      obtain ⟨g1, g2⟩ := mapM_idx hm
      congr 1
      apply Array.ext'
      apply List.ext_getElem?
      intro i
      rcases Nat.lt_or_ge i (AV.flatL vs).length with hi | hi
      · obtain ⟨y, hy, hl⟩ := g2 i _ (List.getElem?_eq_getElem hi)
        have h3 := h2 i hi
        have e1 : (AV.flatL vs).getD i .undef = (AV.flatL vs)[i] := by rw [List.getD_eq_getElem?_getD, List.getElem?_eq_getElem hi]; rfl
        rw [e1] at h3
        have h4 := scalarV_rel hy h3
        have hi2 : i < cs.toList.length := by omega
        rw [List.getElem?_eq_getElem hi2]
        rw [List.getD_eq_getElem?_getD, List.getElem?_eq_getElem hi2] at h4
        simp only [Option.getD_some] at h4
        simpa [h4] using hl.symm
      · rw [List.getElem?_eq_none (by omega), List.getElem?_eq_none (by simp; omega)]
  | bool b => simp only [plainV, Option.some.injEq] at h; subst h; have h' : CRel w I ρ _ c := hc; cases h'; rfl
  | int k n => simp only [plainV, Option.some.injEq] at h; subst h; have h' : CRel w I ρ _ c := hc; cases h'; rfl
  | str s => simp only [plainV, Option.some.injEq] at h; subst h; have h' : CRel w I ρ _ c := hc; cases h'; rfl
  | _ => simp [plainV] at h

/-- A key that the type's law speaks of. -/
def IsKey (P : Program) (kt : TypeId) (k : AV) : Prop := ∃ v l, plainV k = some v ∧ keyOf P kt v = some l
theorem IsKey.not_tuple {P : Program} {kt : TypeId} {k : AV} (h : IsKey P kt k) : ∀ vs, k ≠ .tuple vs := by
  rintro vs rfl
  obtain ⟨v, l, h1, _⟩ := h
  cases h1
structure GoodMap (P : Program) (kt : TypeId) (es : List (AV × AV)) : Prop where
  key : ∀ e, e ∈ es → IsKey P kt e.1
  nodup : (es.map fun e => plainV e.1).Nodup

open Classical in
/-- The place of a key. -/
noncomputable def mfind : List (AV × AV) → AV → Option Nat
  | [], _ => none
  | e :: es, k => if plainV e.1 = plainV k then some 0 else (mfind es k).map (· + 1)
theorem mfind_none {k : AV} : ∀ {es : List (AV × AV)}, (∀ e, e ∈ es → plainV e.1 ≠ plainV k) → mfind es k = none
  | [], _ => rfl
  | e :: es, h => by
    rw [mfind, if_neg (h e (by simp)), mfind_none fun x hx => h x (by simp [hx])]; rfl
theorem mfind_at {k : AV} : ∀ {es : List (AV × AV)} {j : Nat} {e : AV × AV}, (es.map fun e => plainV e.1).Nodup → es[j]? = some e → plainV e.1 = plainV k → mfind es k = some j
  | [], j, e, _, h, _ => by simp at h
  | x :: es, 0, e, hn, h, he => by
    simp at h; subst h
    rw [mfind, if_pos he]
  | x :: es, j + 1, e, hn, h, he => by
    simp only [List.map_cons, List.nodup_cons, List.mem_map, not_exists, not_and] at hn
    have hm : e ∈ es := List.mem_of_getElem? (by simpa using h)
    rw [mfind, if_neg fun h1 => hn.1 e hm (he.trans h1.symm), mfind_at (j := j) hn.2 (by simpa using h) he]; rfl
noncomputable def mval (es : List (AV × AV)) (k z : AV) : AV := match mfind es k with
  | some i => (es.getD i (.undef, .undef)).2
  | none => z
noncomputable def mhas (es : List (AV × AV)) (k : AV) : Bool := (mfind es k).isSome
noncomputable def mput (es : List (AV × AV)) (k v : AV) : List (AV × AV) := match mfind es k with
  | some i => es.set i (k, v)
  | none => es ++ [(k, v)]
noncomputable def mdel (es : List (AV × AV)) (k : AV) : List (AV × AV) := match mfind es k with
  | some i => es.eraseIdx i
  | none => es

section
variable {P : Program} {o : Oper} {ev : Operand → Option AV} {H : Nat → Option ABlk}

theorem ents_get {es : List (AV × AV)} {ents : Array MapEntry} (hs : ents.size = es.length) {k : Nat} (hk : k < es.length) : ents.toList[k]? = some (ents.getD k default) ∧ es[k]? = some (es.getD k (.undef, .undef)) := by
  constructor
  · have hk2 : k < ents.size := by omega
    rw [Array.getElem?_toList, Array.getD_eq_getD_getElem?, Array.getElem?_eq_getElem hk2]; rfl
  · rw [List.getD_eq_getElem?_getD, List.getElem?_eq_getElem hk]; rfl

/-- What is found in a map's block is what is found in the list. -/
theorem find_rel {w : World} {I : Nat → Prop} {ρ : Rho} {kt : TypeId} {es : List (AV × AV)} {ents : Array MapEntry} (K : Maps.Keyed P kt) (hg : GoodMap P kt es) (hs : ents.size = es.length)
    (hr : ∀ k, k < es.length → XRel w I ρ (es.getD k (.undef, .undef)).1 (ents.getD k default).key ∧ XRel w I ρ (es.getD k (.undef, .undef)).2 (ents.getD k default).val)
    {k : AV} (hk : IsKey P kt k) {c : Value} (hc : XRel w I ρ k c) :
    (mfind es k = none ∧ (Instr.findKey kt c ents.toList).run P w = .ok none w) ∨
    ∃ j, j < es.length ∧ mfind es k = some j ∧ (Instr.findKey kt c ents.toList).run P w = .ok (some (j, (ents.getD j default).val)) w ∧ (ents.getD j default).key = c := by
  obtain ⟨v, l, hv, hl⟩ := hk
  have hcv := plainV_rel hv hc
  subst hcv
  have hkey : ∀ j, j < es.length → ∃ v', plainV (es.getD j (.undef, .undef)).1 = some v' ∧ (ents.getD j default).key = v' ∧ ∃ l, keyOf P kt v' = some l := fun j hj => by
    obtain ⟨v', l', h1, h2⟩ := hg.key _ (List.mem_of_getElem? (ents_get hs hj).2)
    exact ⟨v', h1, plainV_rel h1 (hr j hj).1, l', h2⟩
  have hall : ∀ e ∈ ents.toList, ∃ l, keyOf P kt e.key = some l := fun e he => by
    obtain ⟨j, hj⟩ := List.getElem?_of_mem he
    have hjl : j < es.length := by
      rcases Nat.lt_or_ge j es.length with h | h
      · exact h
      · rw [List.getElem?_eq_none (by simp; omega)] at hj; cases hj
    rw [(ents_get hs hjl).1] at hj
    cases hj
    obtain ⟨v', _, h2, h3⟩ := hkey j hjl
    rw [h2]; exact h3
  rcases K.find w hl ents.toList hall with ⟨h1, h2⟩ | ⟨j, e, h1, h2, h3⟩
  · refine .inl ⟨mfind_none fun e he => ?_, h1⟩
    obtain ⟨j, hj⟩ := List.getElem?_of_mem he
    have hjl : j < es.length := by
      rcases Nat.lt_or_ge j es.length with h | h
      · exact h
      · rw [List.getElem?_eq_none h] at hj; cases hj
    rw [(ents_get hs hjl).2] at hj
    cases hj
    obtain ⟨v', g1, g2, _⟩ := hkey j hjl
    rw [g1, hv]
    intro h4
    cases h4
    exact h2 _ (List.mem_of_getElem? (ents_get hs hjl).1) g2
  · have hjl : j < es.length := by
      rcases Nat.lt_or_ge j es.length with h | h
      · exact h
      · rw [List.getElem?_eq_none (by simp; omega)] at h2; cases h2
    rw [(ents_get hs hjl).1] at h2
    cases h2
    obtain ⟨v', g1, g2, _⟩ := hkey j hjl
    refine .inr ⟨j, hjl, mfind_at hg.nodup (ents_get hs hjl).2 ?_, h1, h3⟩
    rw [g1, hv, ← g2, h3]

theorem inv_mapv {w : World} {I : Nat → Prop} {ρ : Rho} {n : Nat} {c : Value} (h : VRel w I ρ (.mapv n) c) : ∃ b o r, ρ n = some (b, o, r) ∧ c = .map (some b) := by
  have h' : CRel w I ρ _ c := h
  cases h' with
  | mapv _ b o r hr => exact ⟨b, o, r, hr, rfl⟩
theorem inv_nilmap {w : World} {I : Nat → Prop} {ρ : Rho} {c : Value} (h : VRel w I ρ .nilmap c) : c = .map none := by
  have h' : CRel w I ρ _ c := h
  cases h'; rfl
theorem XRel.nt {w : World} {I : Nat → Prop} {ρ : Rho} {x : AV} {c : Value} (h : XRel w I ρ x c) : VRel w I ρ x c := by
  cases x <;> first | exact h | exact h.elim

theorem GoodMap.perm {kt : TypeId} {es es0 : List (AV × AV)} (hp : es0.Perm es) (h : GoodMap P kt es) : GoodMap P kt es0 :=
  ⟨fun e he => h.key e (hp.mem_iff.1 he), (hp.map _).nodup_iff.2 h.nodup⟩
theorem mfind_spec {es : List (AV × AV)} (hn : (es.map fun e => plainV e.1).Nodup) (k : AV) : (mfind es k = none ∧ ∀ e, e ∈ es → plainV e.1 ≠ plainV k) ∨ ∃ j e, mfind es k = some j ∧ es[j]? = some e ∧ plainV e.1 = plainV k := by
  by_cases h : ∃ e, e ∈ es ∧ plainV e.1 = plainV k
  · obtain ⟨e, he, hk⟩ := h
    obtain ⟨j, hj⟩ := List.getElem?_of_mem he
    exact .inr ⟨j, e, mfind_at hn hj hk, hj, hk⟩
  · refine .inl ⟨mfind_none fun e he hk => h ⟨e, he, hk⟩, fun e he hk => h ⟨e, he, hk⟩⟩
theorem nodup_eq {es : List (AV × AV)} (hn : (es.map fun e => plainV e.1).Nodup) {e e' : AV × AV} (h : e ∈ es) (h' : e' ∈ es) (hk : plainV e.1 = plainV e'.1) : e = e' := by
  obtain ⟨i, hi⟩ := List.getElem?_of_mem h
  obtain ⟨j, hj⟩ := List.getElem?_of_mem h'
  have h1 := mfind_at (k := e.1) hn hi rfl
  have h2 := mfind_at (k := e.1) hn hj hk.symm
  rw [h1] at h2
  cases h2
  rw [hi] at hj
  exact Option.some.inj hj
theorem mfind_perm {kt : TypeId} {es es0 : List (AV × AV)} (hp : es0.Perm es) (hg : GoodMap P kt es) (k : AV) :
    (mfind es k = none ∧ mfind es0 k = none) ∨ ∃ j i e, mfind es k = some j ∧ mfind es0 k = some i ∧ es[j]? = some e ∧ es0[i]? = some e := by
  rcases mfind_spec hg.nodup k with ⟨h1, h2⟩ | ⟨j, e, h1, h2, h3⟩
  · exact .inl ⟨h1, mfind_none fun e he => h2 e (hp.mem_iff.1 he)⟩
  · obtain ⟨i, hi⟩ := List.getElem?_of_mem (hp.mem_iff.2 (List.mem_of_getElem? h2))
    exact .inr ⟨j, i, e, h1, mfind_at (hg.perm hp).nodup hi h3, h2, hi⟩
theorem mval_perm {kt : TypeId} {es es0 : List (AV × AV)} (hp : es0.Perm es) (hg : GoodMap P kt es) (k z : AV) : mval es0 k z = mval es k z := by
  rcases mfind_perm hp hg k with ⟨h1, h2⟩ | ⟨j, i, e, h1, h2, h3, h4⟩
  · rw [mval, mval, h1, h2]
  · rw [mval, mval, h1, h2]; simp [List.getD_eq_getElem?_getD, h3, h4]
theorem mhas_perm {kt : TypeId} {es es0 : List (AV × AV)} (hp : es0.Perm es) (hg : GoodMap P kt es) (k : AV) : mhas es0 k = mhas es k := by
  rcases mfind_perm hp hg k with ⟨h1, h2⟩ | ⟨j, i, e, h1, h2, h3, h4⟩ <;> rw [mhas, mhas, h1, h2] <;> rfl
theorem set_perm {α : Type} {l : List α} {i : Nat} {x y : α} (h : l[i]? = some x) : (l.set i y).Perm (y :: l.eraseIdx i) := by
  induction l generalizing i with
  | nil => simp at h
  | cons a l ih =>
    cases i with
    | zero => simp
    | succ i =>
      simp only [List.set_cons_succ, List.eraseIdx_cons_succ]
      exact ((ih (by simpa using h)).cons a).trans (List.Perm.swap _ _ _)
theorem erase_perm {α : Type} {l : List α} {i : Nat} {x : α} (h : l[i]? = some x) : l.Perm (x :: l.eraseIdx i) := by
  have := set_perm (y := x) h
  have e : l.set i x = l := by
    apply List.ext_getElem?
    intro k
    rw [List.getElem?_set]
    by_cases hk : i = k
    · subst hk
      have hi : i < l.length := by
        rcases Nat.lt_or_ge i l.length with h1 | h1
        · exact h1
        · rw [List.getElem?_eq_none h1] at h; cases h
      rw [if_pos rfl, if_pos hi, h]
    · rw [if_neg hk]
  rwa [e] at this
theorem mput_perm {kt : TypeId} {es es0 : List (AV × AV)} (hp : es0.Perm es) (hg : GoodMap P kt es) (k v : AV) : (mput es0 k v).Perm (mput es k v) := by
  rcases mfind_perm hp hg k with ⟨h1, h2⟩ | ⟨j, i, e, h1, h2, h3, h4⟩
  · rw [mput, mput, h1, h2]; exact hp.append_right _
  · rw [mput, mput, h1, h2]
    refine (set_perm h4).trans (.trans (.cons _ ?_) (set_perm h3).symm)
    have := (erase_perm h4).symm.trans (hp.trans (erase_perm h3))
    exact this.cons_inv
theorem mdel_perm {kt : TypeId} {es es0 : List (AV × AV)} (hp : es0.Perm es) (hg : GoodMap P kt es) (k : AV) : (mdel es0 k).Perm (mdel es k) := by
  rcases mfind_perm hp hg k with ⟨h1, h2⟩ | ⟨j, i, e, h1, h2, h3, h4⟩
  · rw [mdel, mdel, h1, h2]; exact hp
  · rw [mdel, mdel, h1, h2]
    have := (erase_perm h4).symm.trans (hp.trans (erase_perm h3))
    exact this.cons_inv

theorem ls_lookup {T kt et : TypeId} {x i : Operand} {n : Nat} {es : List (AV × AV)} {k z : AV} {c : Bool} (ho : o.op = .lookup T x i c) (hx : ev x = some (.mapv n)) (hi : ev i = some k) (hH : H n = some (.map es)) (hT : P.underlying T = some (.map kt et)) (K : Maps.Keyed P kt) (hz : ZeroIs P et z) (hk : IsKey P kt k) (hg : GoodMap P kt es) :
    LS P o ev H ⟨if c then .tuple [mval es k z, .bool (mhas es k)] else mval es k z, [n], [], []⟩ := by
  refine LS.value fun a w I ρ hev hrd => ?_
  obtain ⟨b, o', r, hr, hc⟩ := inv_mapv (hev x (by simp [ho, Op.operands]) _ hx)
  have hkc := XRel.of_V (hev i (by simp [ho, Op.operands]) _ hi) hk.not_tuple
  obtain ⟨b', o2, r', hr', hI, hlies⟩ := hrd n (by simp) _ hH
  rw [hr] at hr'; cases hr'
  obtain ⟨ents, clock, es0, hpm, h1, h2, h3, h4, h5⟩ := hlies.ex
  rw [← mval_perm hpm hg, ← mhas_perm hpm hg]
  have hg := hg.perm hpm
  obtain ⟨hzl, zc, hzr, hzx⟩ := hz
  obtain ⟨vk, lk, hvk, hlk⟩ := hk
  have hkv := plainV_rel hvk hkc
  have hck := K.check w ents.isEmpty hlk
  rw [← hkv] at hck
  rcases find_rel K hg h2 h3 ⟨vk, lk, hvk, hlk⟩ hkc with ⟨g1, g2⟩ | ⟨j, hj, g1, g2, g3⟩
  · have hm : mval es0 k z = z := by rw [mval, g1]
    have hh : mhas es0 k = false := by rw [mhas, g1]; rfl
    refine ⟨if c then .tuple #[zc, .bool false] else zc, ?_, ?_⟩
    · rw [hm, hh]
      cases c
      · exact (hzx w I ρ).nt
      · refine ⟨_, rfl, rfl, fun k hk => ?_⟩
        match k, hk with
        | 0, _ => exact hzx w I ρ
        | 1, _ => exact CRel.bool _
    · cases c <;> simp [execOp, ho, hc, Instr.lookup, run_underlying' hT, Result.andThen_ok, MapKept.run_getObj_map h1, hck, g2, hzr, Sem.run_bind, Sem.run_pure]
  · have hm : mval es0 k z = (es0.getD j (.undef, .undef)).2 := by rw [mval, g1]
    have hh : mhas es0 k = true := by rw [mhas, g1]; rfl
    refine ⟨if c then .tuple #[(ents.getD j default).val, .bool true] else (ents.getD j default).val, ?_, ?_⟩
    · rw [hm, hh]
      cases c
      · exact (h3 j hj).2.nt
      · refine ⟨_, rfl, rfl, fun k hk => ?_⟩
        match k, hk with
        | 0, _ => exact (h3 j hj).2
        | 1, _ => exact CRel.bool _
    · cases c <;> simp [execOp, ho, hc, Instr.lookup, run_underlying' hT, Result.andThen_ok, MapKept.run_getObj_map h1, hck, g2, Sem.run_bind, Sem.run_pure]

theorem ls_lookup_nil {T kt et : TypeId} {x i : Operand} {k z : AV} {c : Bool} (ho : o.op = .lookup T x i c) (hx : ev x = some .nilmap) (hi : ev i = some k) (hT : P.underlying T = some (.map kt et)) (K : Maps.Keyed P kt) (hz : ZeroIs P et z) (hk : IsKey P kt k) :
    LS P o ev H ⟨if c then .tuple [z, .bool false] else z, [], [], []⟩ := by
  refine LS.value fun a w I ρ hev hrd => ?_
  have hc := inv_nilmap (hev x (by simp [ho, Op.operands]) _ hx)
  have hkc := XRel.of_V (hev i (by simp [ho, Op.operands]) _ hi) hk.not_tuple
  obtain ⟨hzl, zc, hzr, hzx⟩ := hz
  obtain ⟨vk, lk, hvk, hlk⟩ := hk
  have hkv := plainV_rel hvk hkc
  have hck := K.check w true hlk
  rw [← hkv] at hck
  rcases K.find w hlk [] (fun e he => by simp at he) with ⟨g2, _⟩ | ⟨j, e, _, h2, _⟩
  rotate_left
  · simp at h2
  rw [← hkv] at g2
  refine ⟨if c then .tuple #[zc, .bool false] else zc, ?_, ?_⟩
  · cases c
    · exact (hzx w I ρ).nt
    · refine ⟨_, rfl, rfl, fun k hk => ?_⟩
      match k, hk with
      | 0, _ => exact hzx w I ρ
      | 1, _ => exact CRel.bool _
  · cases c <;> simp [execOp, ho, hc, Instr.lookup, run_underlying' hT, Result.andThen_ok, hck, g2, hzr, Sem.run_bind, Sem.run_pure]

theorem ls_makeMap {T : TypeId} (m : Nat) (ho : o.op = .makeMap T none) : LS P o ev H ⟨.mapv m, [], [], [(m, .map [])]⟩ := by
  intro a w I ρ hd hev hrd hinj himm hfr K Q hK
  unfold Oper.wp
  have hrun : (execOp a.eval o).run P w = .ok (.value (.map (some w.heap.size))) { w with heap := w.heap.push (.map #[] 0) } := by
    have h : (Instr.makeMap T none).run P w = .ok (.map (some w.heap.size)) { w with heap := w.heap.push (.map #[] 0) } := rfl
    simp [execOp, ho, h, Result.andThen]
  rw [hrun]
  obtain ⟨ρ', hp⟩ := post_new (w := w) (w' := { w with heap := w.heap.push (.map #[] 0) }) (I := I) (ρ := ρ) (e := ⟨.mapv m, [], [], [(m, .map [])]⟩) (c := .map (some w.heap.size))
    (r := 0) (m := m) (blk := .map []) rfl (hfr m (.map []) (by simp [Heap.get]) (by simp)) himm rfl rfl rfl rfl fun ρ' hx hb hm hI =>
      ⟨CRel.mapv _ _ _ _ hm, ⟨_, _, _, hm, hI, ⟨#[], 0, [], .nil, hb, rfl, fun k hk => by simp at hk, fun k hk => by simp at hk, fun j k _ hk => by simp at hk⟩⟩⟩
  exact hK _ _ _ _ hp

theorem ls_len_map {T kt et : TypeId} {x : Operand} {n : Nat} {es : List (AV × AV)} (ho : o.op = .call { callee := .builtin .len, args := #[x], argTypes := #[T] }) (hx : ev x = some (.mapv n)) (hH : H n = some (.map es)) (hT : P.underlying T = some (.map kt et)) :
    LS P o ev H ⟨.int .i64 es.length, [n], [], []⟩ := by
  refine LS.value fun a w I ρ hev hrd => ?_
  obtain ⟨b, o', r, hr, hc⟩ := inv_mapv (hev x (by simp [ho, Op.operands, Call.operands]) _ hx)
  obtain ⟨b', o2, r', hr', hI, hlies⟩ := hrd n (by simp) _ hH
  rw [hr] at hr'; cases hr'
  obtain ⟨ents, clock, es0, hpm, h1, h2, h3, h4, h5⟩ := hlies.ex
  rw [hpm.length_eq] at h2
  refine ⟨.int .i64 es.length, CRel.int _ _, ?_⟩
  simp [execOp, ho, resolve, invoke, builtin, hc, Builtin.len_, run_underlying' hT, Result.andThen_ok, MapKept.run_getObj_map h1, Sem.run_bind, Sem.run_pure, h2, goInt]

theorem ls_len_nilmap {T kt et : TypeId} {x : Operand} (ho : o.op = .call { callee := .builtin .len, args := #[x], argTypes := #[T] }) (hx : ev x = some .nilmap) (hT : P.underlying T = some (.map kt et)) :
    LS P o ev H ⟨.int .i64 0, [], [], []⟩ := by
  refine LS.value fun a w I ρ hev hrd => ?_
  have hc := inv_nilmap (hev x (by simp [ho, Op.operands, Call.operands]) _ hx)
  refine ⟨.int .i64 0, CRel.int _ _, ?_⟩
  simp [execOp, ho, resolve, invoke, builtin, hc, Builtin.len_, run_underlying' hT, Result.andThen_ok, Sem.run_bind, Sem.run_pure, goInt]

theorem ls_mapUpdate {T kt et : TypeId} {x i y : Operand} {n : Nat} {es : List (AV × AV)} {k u : AV} (ho : o.op = .mapUpdate T x i y) (hx : ev x = some (.mapv n)) (hi : ev i = some k) (hy : ev y = some u) (hH : H n = some (.map es)) (hT : P.underlying T = some (.map kt et)) (K : Maps.Keyed P kt) (hk : IsKey P kt k) (hg : GoodMap P kt es) (hu : ∀ vs, u ≠ .tuple vs) :
    LS P o ev H ⟨.undef, [], [n], [(n, .map (mput es k u))]⟩ := by
  intro a w I ρ hd hev hrd hinj himm hfr K' Q hK
  obtain ⟨b, o', r, hr, hc⟩ := inv_mapv (hev x (by simp [ho, Op.operands]) _ hx)
  have hkc := XRel.of_V (hev i (by simp [ho, Op.operands]) _ hi) hk.not_tuple
  have huc := XRel.of_V (hev y (by simp [ho, Op.operands]) _ hy) hu
  obtain ⟨b', o2, r', hr', hI, hlies⟩ := hrd n (by simp) _ hH
  rw [hr] at hr'; cases hr'
  obtain ⟨ents, clock, es0, hpm, h1, h2, h3, h4, h5⟩ := hlies.ex
  have hpu := mput_perm hpm hg k u
  have hg := hg.perm hpm
  obtain ⟨vk, lk, hvk, hlk⟩ := hk
  have hkv := plainV_rel hvk hkc
  have hck := K.check w false hlk
  have hst := K.stays w hlk
  rw [← hkv] at hck hst
  have hblt : b < w.heap.size := hlies.lt
  unfold Oper.wp
  rcases find_rel K hg h2 h3 ⟨vk, lk, hvk, hlk⟩ hkc with ⟨g1, g2⟩ | ⟨j, hj, g1, g2, g3⟩
  · have hm : mput es0 k u = es0 ++ [(k, u)] := by rw [mput, g1]
    have hrun : (execOp a.eval o).run P w = .ok .skip { w with heap := w.heap.setIfInBounds b (.map (ents.push ⟨a.eval i, a.eval y, clock⟩) (clock + 1)) } := by
      simp [execOp, ho, hc, Instr.mapUpdate, run_underlying' hT, Result.andThen_ok, MapKept.run_getObj_map h1, hck, g2, MapKept.run_setObj_map _ h1, Sem.run_bind, Sem.run_pure]
    rw [hrun]
    rw [hm] at hpu
    obtain ⟨ρ', hp'⟩ := post_write (w := w) (w' := { w with heap := w.heap.setIfInBounds b (.map (ents.push ⟨a.eval i, a.eval y, clock⟩) (clock + 1)) }) (I := I) (ρ := ρ) (e := ⟨.undef, [], [n], [(n, .map (mput es k u))]⟩) (c := Go.undef) (blk := .map (mput es k u)) rfl rfl hr (.inl ⟨rfl, rfl, rfl⟩) himm (by simp) (fun q hq => by simp [Array.getElem?_setIfInBounds, Ne.symm hq]) rfl rfl rfl fun ρ' hx hm hI => by
      refine ⟨trivial, b, o', r, hm, hI, ents.push ⟨a.eval i, a.eval y, clock⟩, clock + 1, es0 ++ [(k, u)], hpu, by simp [Array.getElem?_setIfInBounds, hblt], by simp [h2], fun q hq => ?_, fun q hq => ?_, fun p q hpq hq => ?_⟩
      · simp only [List.length_append, List.length_cons, List.length_nil] at hq
        rcases Nat.lt_or_ge q es0.length with hlt | hge
        · have e1 : (es0 ++ [(k, u)]).getD q (.undef, .undef) = es0.getD q (.undef, .undef) := by rw [List.getD_eq_getElem?_getD, List.getElem?_append_left hlt, ← List.getD_eq_getElem?_getD]
          have e2 : (ents.push ⟨a.eval i, a.eval y, clock⟩).getD q default = ents.getD q default := by
            rw [Array.getD_eq_getD_getElem?, Array.getElem?_push, if_neg (by omega), ← Array.getD_eq_getD_getElem?]
          rw [e1, e2]
          exact ⟨(h3 q hlt).1.mono hx himm, (h3 q hlt).2.mono hx himm⟩
        · have hqe : q = es0.length := by omega
          subst hqe
          have e1 : (es0 ++ [(k, u)]).getD es0.length (.undef, .undef) = (k, u) := by simp [List.getD_eq_getElem?_getD]
          have e2 : (ents.push ⟨a.eval i, a.eval y, clock⟩).getD es0.length default = ⟨a.eval i, a.eval y, clock⟩ := by
            rw [Array.getD_eq_getD_getElem?, Array.getElem?_push, if_pos h2.symm]; rfl
          rw [e1, e2]
          exact ⟨hkc.mono hx himm, huc.mono hx himm⟩
      · rw [Array.getD_eq_getD_getElem?, Array.getElem?_push]
        split
        · simp
        · rename_i hne
          have hlt : q < ents.size := by simp at hq; omega
          have := h4 q hlt
          rw [Array.getD_eq_getD_getElem?] at this
          omega
      · simp only [Array.size_push] at hq
        have hp : p < ents.size := by omega
        have e1 : (ents.push ⟨a.eval i, a.eval y, clock⟩).getD p default = ents.getD p default := by
          rw [Array.getD_eq_getD_getElem?, Array.getElem?_push, if_neg (by omega), ← Array.getD_eq_getD_getElem?]
        rcases Nat.lt_or_ge q ents.size with hlt | hge
        · have e2 : (ents.push ⟨a.eval i, a.eval y, clock⟩).getD q default = ents.getD q default := by
            rw [Array.getD_eq_getD_getElem?, Array.getElem?_push, if_neg (by omega), ← Array.getD_eq_getD_getElem?]
          rw [e1, e2]; exact h5 p q hpq hlt
        · have e2 : (ents.push ⟨a.eval i, a.eval y, clock⟩).getD q default = ⟨a.eval i, a.eval y, clock⟩ := by
            rw [Array.getD_eq_getD_getElem?, Array.getElem?_push, if_pos (by omega)]; rfl
          rw [e1, e2]
          have := h4 p hp
          show _ ≠ clock
          omega
    exact hK _ _ _ _ hp'
  · have hm : mput es0 k u = es0.set j (k, u) := by rw [mput, g1]
    have hjs : j < ents.size := by omega
    have hje : ents[j]? = some (ents.getD j default) := by rw [Array.getD_eq_getD_getElem?, Array.getElem?_eq_getElem hjs]; rfl
    obtain ⟨e0, he0⟩ : ∃ e0, ents.getD j default = e0 := ⟨_, rfl⟩
    rw [he0] at hje g3 g2
    have hrun : (execOp a.eval o).run P w = .ok .skip { w with heap := w.heap.setIfInBounds b (.map (ents.modify j fun e => { e with key := a.eval i, val := a.eval y }) clock) } := by
      simp [execOp, ho, hc, Instr.mapUpdate, run_underlying' hT, Result.andThen_ok, MapKept.run_getObj_map h1, hck, g2, hje, g3, hst, MapKept.run_setObj_map _ h1, Sem.run_bind, Sem.run_pure]
    rw [hrun]
    rw [hm] at hpu
    have hget : ∀ q, q < ents.size → (ents.modify j fun e => { e with key := a.eval i, val := a.eval y }).getD q default = if q = j then { e0 with key := a.eval i, val := a.eval y } else ents.getD q default := fun q hq => by
      rw [Array.getD_eq_getD_getElem?, Array.getElem?_modify]
      by_cases hqj : j = q
      · subst hqj
        rw [if_pos rfl, if_pos rfl, hje]; rfl
      · rw [if_neg hqj, if_neg (Ne.symm hqj), ← Array.getD_eq_getD_getElem?]
    obtain ⟨ρ', hp'⟩ := post_write (w := w) (w' := { w with heap := w.heap.setIfInBounds b (.map (ents.modify j fun e => { e with key := a.eval i, val := a.eval y }) clock) }) (I := I) (ρ := ρ) (e := ⟨.undef, [], [n], [(n, .map (mput es k u))]⟩) (c := Go.undef) (blk := .map (mput es k u)) rfl rfl hr (.inl ⟨rfl, rfl, rfl⟩) himm (by simp) (fun q hq => by simp [Array.getElem?_setIfInBounds, Ne.symm hq]) rfl rfl rfl fun ρ' hx hm hI => by
      refine ⟨trivial, b, o', r, hm, hI, ents.modify j fun e => { e with key := a.eval i, val := a.eval y }, clock, es0.set j (k, u), hpu, by simp [Array.getElem?_setIfInBounds, hblt], by simp [h2], fun q hq => ?_, fun q hq => ?_, fun p q hpq hq => ?_⟩
      · rw [List.length_set] at hq
        rw [hget q (by omega)]
        by_cases hqj : q = j
        · subst hqj
          have e1 : (es0.set q (k, u)).getD q (.undef, .undef) = (k, u) := by simp [List.getD_eq_getElem?_getD, hq]
          rw [e1, if_pos rfl]
          exact ⟨hkc.mono hx himm, huc.mono hx himm⟩
        · have e1 : (es0.set j (k, u)).getD q (.undef, .undef) = es0.getD q (.undef, .undef) := by rw [List.getD_eq_getElem?_getD, List.getElem?_set_ne (Ne.symm hqj), ← List.getD_eq_getElem?_getD]
          rw [e1, if_neg hqj]
          exact ⟨(h3 q hq).1.mono hx himm, (h3 q hq).2.mono hx himm⟩
      · simp only [Array.size_modify] at hq
        rw [hget q hq]
        by_cases h6 : q = j
        · rw [if_pos h6]
          have := h4 j hjs
          rw [he0] at this
          exact this
        · rw [if_neg h6]
          exact h4 q hq
      · simp only [Array.size_modify] at hq
        rw [hget q hq, hget p (by omega)]
        have := h5 p q hpq hq
        by_cases h6 : p = j
        · subst h6
          rw [he0] at this
          rw [if_pos rfl, if_neg (by omega)]; exact this
        · rw [if_neg h6]
          by_cases h7 : q = j
          · subst h7
            rw [he0] at this
            rw [if_pos rfl]; exact this
          · rw [if_neg h7]; exact this
    exact hK _ _ _ _ hp'
end
end Go.Proofs.Ytipbgaahpchhbaa
/- The evaluator: what an operation comes to, as a proposition that is simplified. -/
namespace Go.Proofs.Ytipbgaahpchhbaa
open Go Go.RowKit

def byOf (P : Program) (T : TypeId) : Option Nat := (P.info? T).map (·.bytes)

def partsAV (ev : Operand → Option AV) : List (Nat × Operand) → Option (List (Nat × AV))
  | [] => some []
  | (i, x) :: r => match ev x, partsAV ev r with
    | some v, some us => some ((i, v) :: us)
    | _, _ => none

/-- The elements that a slice or a text hands out. -/
def Src (H : Nat → Option ABlk) (wd : Nat) (u : AV) (K : List Nat → List AV → Prop) : Prop :=
  match u with
  | .nilsl => K [] []
  | .vsl es len => (len ≤ es.length ∧ Unif wd es) ∧ K [] (es.take len)
  | .sl n off p i len cap wd' => match H n with
    | some (.cells root) => match root.proj p with
      | some (.agg es) => (wd' = wd ∧ off = root.offOf p + i * wd ∧ i + len ≤ es.length ∧ Unif wd es) ∧ K [n] ((es.drop i).take len)
      | _ => False
    | _ => False
  | .str s => wd = 1 ∧ K [] (s.data.toList.map byteAV)
  | _ => False

theorem Src.sound {H : Nat → Option ABlk} {wd : Nat} {u : AV} {K : List Nat → List AV → Prop} (h : Src H wd u K) : ∃ rd xs, IsSrc H wd u rd xs ∧ K rd xs := by
  unfold Src at h
  split at h
  · exact ⟨_, _, .nil, h⟩
  · exact ⟨_, _, .vsl _ _ h.1.1 h.1.2, h.2⟩
  · split at h
    · split at h
      · obtain ⟨⟨rfl, h1, h2, h3⟩, h4⟩ := h
        exact ⟨_, _, .sl _ _ _ _ _ _ _ _ ‹_› ‹_› h1 h2 h3, h4⟩
      · exact h.elim
    · exact h.elim
  · exact ⟨_, _, .str _ h.1, h.2⟩
  · exact h.elim

/-- A bound of a slice expression. -/
def bndAV (ev : Operand → Option AV) (y : Option Operand) (d : Int) : Option Int := match y with
  | none => some d
  | some y => match ev y with
    | some (.int _ l) => some l
    | _ => none

theorem bndAV_spec {ev : Operand → Option AV} {y : Option Operand} {d l : Int} (h : bndAV ev y d = some l) : Bnd ev y l d := by
  unfold bndAV at h
  unfold Bnd
  split at h
  · simp only [Option.some.injEq] at h; exact h.symm
  · split at h
    · simp only [Option.some.injEq] at h; subst h; exact ⟨_, ‹_›⟩
    · cases h

/-- A call of a function: left to a contract. -/
def CallTo (P : Program) (o : Oper) (s : St) (K : Eff → Nat → Prop) : Prop := ∃ e nx, LS P o s.ev (Heap.get s.H) e ∧ EffOk s e nx ∧ K e nx

def isEq : BinOp → Option Bool
  | .eql => some false
  | .neq => some true
  | _ => none

def DoBin (P : Program) (op : BinOp) (T : TypeId) (x y : Option AV) (K : AV → Prop) : Prop :=
  match x, y with
  | some (.int k a), some (.int k' b) => (k = k' ∨ shifty op = true) ∧ match binI op k a b with | some v => K v | none => False
  | some (.str a), some (.str b) => match binS op a b with | some v => K v | none => False
  | some (.bool a), some (.bool b) => match isEq op with
    | some ng => P.underlying T = some .bool ∧ K (.bool (if ng then a != b else a == b))
    | none => False
  | some (.agg a), some (.agg b) => match isEq op, flatKinds P 40 T, cellsEq (AV.flatL a) (AV.flatL b) with
    | some ng, some ks, some r => (P.eqGuardType P.depth T = false ∧ (P.underlying T).map isAggD = some true ∧ (AV.flatL a).map kindOf = ks.map some) ∧ K (.bool (if ng then !r else r))
    | _, _, _ => False
  | some u, some u' => match isEq op, isNilPtr u, isNilPtr u', P.underlying T with
    | some ng, some p, some q, some (.pointer _) => (p = true ∨ q = true) ∧ K (.bool (if ng then !(p && q) else (p && q)))
    | _, _, _, _ => False
  | _, _ => False

def DoAppend (P : Program) (Z : TypeId → Option AV) (T1 T2 : TypeId) (x y : Option AV) (s : St) (K : Eff → Nat → Prop) : Prop :=
  match P.underlying T1, x, y with
  | some (.slice E), some u, some w => match szOf P E, byOf P E, Z E, P.underlying T2 with
    | some wd, some by_, some z, some d => (z.size = wd ∧ (match d with | .slice _ | .string => True | _ => False)) ∧ Src (Heap.get s.H) wd w fun rd xs =>
      match u with
      | .nilsl => (xs.length * by_ ≤ 140737488355328 ∧ xs.length ≤ 9223372036854775807) ∧ if xs.length = 0 then K ⟨.nilsl, rd, [], []⟩ s.nx else K ⟨.sl s.nx 0 [] 0 xs.length xs.length wd, rd, [], [(s.nx, .cells (.agg xs))]⟩ (s.nx + 1)
      | .sl n off [] i len cap wd' => match Heap.get s.H n with
        | some (.cells (.agg es)) => (wd' = wd ∧ off = i * wd ∧ i + len ≤ es.length ∧ Unif wd es ∧ n ∉ rd ∧ n ≠ s.nx ∧ (len + xs.length) * by_ ≤ 140737488355328 ∧ len + xs.length ≤ 9223372036854775807) ∧
            K ⟨.sl s.nx 0 [] 0 (len + xs.length) (len + xs.length) wd, rd, [n], [(s.nx, .cells (.agg ((es.drop i).take len ++ xs)))]⟩ (s.nx + 1)
        | _ => False
      | _ => False
    | _, _, _, _ => False
  | _, _, _ => False

def DoCopy (P : Program) (T1 : TypeId) (x y : Option AV) (s : St) (K : Eff → Nat → Prop) : Prop :=
  match P.underlying T1, x, y with
  | some (.slice E), some (.sl n off p i len cap wd), some w => match szOf P E, Heap.get s.H n with
    | some wd', some (.cells root) => match root.proj p with
      | some (.agg es) => (wd' = wd ∧ off = root.offOf p + i * wd ∧ i + len ≤ es.length ∧ Unif wd es) ∧ Src (Heap.get s.H) wd w fun rd xs =>
          n ∉ rd ∧ K ⟨.int .i64 (Nat.min xs.length len : Nat), rd, [n], [(n, .cells (root.upd p (.agg (es.take i ++ xs.take (Nat.min xs.length len) ++ es.drop (i + Nat.min xs.length len)))))]⟩ s.nx
      | _ => False
    | _, _ => False
  | _, _, _ => False

def DoSlice (P : Program) (T : TypeId) (x : Option AV) (lo hi : Option Operand) (s : St) (K : Eff → Nat → Prop) : Prop :=
  match x with
  | some (.str t) => match bndAV s.ev lo 0, bndAV s.ev hi t.size with
    | some l, some h => (P.underlying T = some .string ∧ 0 ≤ l ∧ l ≤ h ∧ h ≤ t.size) ∧ K ⟨.str (t.extract l.toNat h.toNat), [], [], []⟩ s.nx
    | _, _ => False
  | some .nilsl => match bndAV s.ev lo 0, bndAV s.ev hi 0, P.underlying T with
    | some l, some h, some (.slice E) => (l = 0 ∧ h = 0 ∧ (szOf P E).isSome = true) ∧ K ⟨.nilsl, [], [], []⟩ s.nx
    | _, _, _ => False
  | some (.vsl es len) => match bndAV s.ev lo 0, bndAV s.ev hi len, P.underlying T with
    | some l, some h, some (.slice E) => match szOf P E with
      | some wd => (Unif wd es ∧ 0 ≤ l ∧ l ≤ h ∧ h ≤ es.length) ∧ K ⟨.vsl (es.drop l.toNat) (h.toNat - l.toNat), [], [], []⟩ s.nx
      | none => False
    | _, _, _ => False
  | some (.sl n off p i len cap wd) => match bndAV s.ev lo 0, bndAV s.ev hi len, P.underlying T with
    | some l, some h, some (.slice E) => (szOf P E = some wd ∧ 0 ≤ l ∧ l ≤ h ∧ h ≤ cap) ∧ K ⟨.sl n (off + l.toNat * wd) p (i + l.toNat) (h.toNat - l.toNat) (cap - l.toNat) wd, [], [], []⟩ s.nx
    | _, _, _ => False
  | some (.ptr n off p) => match P.underlying T, Heap.get s.H n with
    | some (.array len E), some (.cells root) => match bndAV s.ev lo 0, bndAV s.ev hi len, szOf P E, root.proj p with
      | some l, some h, some wd, some (.agg es) => (root.offOf p = off ∧ AV.sizeL es = len * wd ∧ 0 ≤ l ∧ l ≤ h ∧ h ≤ len) ∧ K ⟨.sl n (off + l.toNat * wd) p l.toNat (h.toNat - l.toNat) (len - l.toNat) wd, [n], [], []⟩ s.nx
      | _, _, _, _ => False
    | _, _ => False
  | _ => False

def DoIndexAddr (P : Program) (T : TypeId) (x y : Option AV) (K : AV → Prop) : Prop :=
  match x, y with
  | some (.sl n off p i len cap wd), some (.int _ q) => match P.underlying T with
    | some (.slice E) => (szOf P E = some wd ∧ 0 ≤ q ∧ q < len) ∧ K (.ptr n (off + q.toNat * wd) (p ++ [i + q.toNat]))
    | _ => False
  | some (.vsl es len), some (.int _ q) => match P.underlying T with
    | some (.slice E) => match szOf P E with
      | some wd => (0 ≤ q ∧ q < len) ∧ K (.vptr (.agg es) (q.toNat * wd) [q.toNat])
      | none => False
    | _ => False
  | some (.ptr n off p), some (.int _ q) => match P.underlying T with
    | some (.array len E) => match szOf P E with
      | some wd => (0 ≤ q ∧ q < len) ∧ K (.ptr n (off + q.toNat * wd) (p ++ [q.toNat]))
      | none => False
    | _ => False
  | _, _ => False

def DoIndex (P : Program) (T : TypeId) (x y : Option AV) (K : AV → Prop) : Prop :=
  match x, y with
  | some (.str t), some (.int _ q) => (P.underlying T = some .string ∧ 0 ≤ q ∧ q < t.size) ∧ K (.int .u8 (byteAt t q))
  | some (.agg vs), some (.int _ q) => match P.underlying T with
    | some (.array n E) => match szOf P E, vs[q.toNat]? with
      | some wd, some u => (0 ≤ q ∧ q < n ∧ q.toNat * wd = AV.sizeL (vs.take q.toNat) ∧ LoadOk P E u) ∧ K u
      | _, _ => False
    | _ => False
  | _, _ => False

def DoConvert (P : Program) (S D : TypeId) (x : Option AV) (s : St) (K : Eff → Nat → Prop) : Prop :=
  match x with
  | some (.int k n) => match P.underlying S, P.underlying D with
    | some _, some (.int k') => K ⟨.int k' (k'.wrap n), [], [], []⟩ s.nx
    | _, _ => False
  | some (.str t) => False
  | some u => match P.underlying S, P.underlying D with
    | some (.slice E), some .string => P.underlying E = some (.int .u8) ∧ Src (Heap.get s.H) 1 u fun rd xs => match bytesOf xs with
      | some bs => K ⟨.str ⟨bs.toArray⟩, rd, [], []⟩ s.nx
      | none => False
    | _, _ => False
  | none => False

def DoBuild (P : Program) (Z : TypeId → Option AV) (T : TypeId) (us : Option (List (Nat × AV))) (K : AV → Prop) : Prop :=
  match P.underlying T, Z T, us with
  | some (.struct fs), some (.agg zs), some us => ((∀ f, f ∈ fs.toList → (szOf P f.type).isSome = true) ∧ PartsOk (fieldPlaces P fs) zs us ∧ ∀ x, x ∈ us → x.2.layable = true) ∧ K (.agg (setParts zs us))
  | some (.array n E), some (.agg zs), some us => match szOf P E with
    | some sz => (PartsOk (fun i => some (i * sz, sz)) zs us ∧ ∀ x, x ∈ us → x.2.layable = true) ∧ K (.agg (setParts zs us))
    | none => False
  | _, _, _ => False

def isMapT (P : Program) (T : TypeId) : Bool := match P.underlying T with
  | some (.map _ _) => true
  | _ => false
def DoLookup (P : Program) (Z : TypeId → Option AV) (T : TypeId) (x i : Option AV) (c : Bool) (s : St) (K : Eff → Nat → Prop) : Prop :=
  match P.underlying T, x, i with
  | some (.map kt et), some (.mapv n), some k => match Heap.get s.H n, Z et with
    | some (.map es), some z => (Maps.Keyed P kt ∧ IsKey P kt k ∧ GoodMap P kt es) ∧ K ⟨if c then .tuple [mval es k z, .bool (mhas es k)] else mval es k z, [n], [], []⟩ s.nx
    | _, _ => False
  | some (.map kt et), some .nilmap, some k => match Z et with
    | some z => (Maps.Keyed P kt ∧ IsKey P kt k) ∧ K ⟨if c then .tuple [z, .bool false] else z, [], [], []⟩ s.nx
    | none => False
  | _, _, _ => False
def DoMapUpdate (P : Program) (T : TypeId) (x i y : Option AV) (s : St) (K : Eff → Nat → Prop) : Prop :=
  match P.underlying T, x, i, y with
  | some (.map kt et), some (.mapv n), some k, some u => match Heap.get s.H n with
    | some (.map es) => (Maps.Keyed P kt ∧ IsKey P kt k ∧ GoodMap P kt es ∧ ∀ vs, u ≠ .tuple vs) ∧ K ⟨.undef, [], [n], [(n, .map (mput es k u))]⟩ s.nx
    | _ => False
  | _, _, _, _ => False

/-- An operation of which the tape says what comes. -/
def NStep (P : Program) (o : Oper) (s : St) (K : Eff → Nat → Prop) : Prop := SStep P o s fun s' => ∃ e nx, K e nx ∧ s' = s.app o.dst e nx
def stepOp : Op → Bool
  | .range _ _ => true
  | .next _ _ => true
  | _ => false
def capOk : AV → Bool
  | .agg _ => false
  | .tuple _ => false
  | .undef => false
  | _ => true
def evL (ev : Operand → Option AV) : List Operand → Option (List AV)
  | [] => some []
  | x :: r => match ev x, evL ev r with
    | some v, some us => some (v :: us)
    | _, _ => none
/-- What an operation comes to. -/
def Do (P : Program) (Z : TypeId → Option AV) (o : Oper) (s : St) (K : Eff → Nat → Prop) : Prop :=
  match o.op with
  | .move x | .assign x => match s.ev x with
    | some v => K ⟨v, [], [], []⟩ s.nx
    | none => False
  | .pick c a b => match s.ev c with
    | some (.bool t) => match s.ev (if t then a else b) with
      | some v => K ⟨v, [], [], []⟩ s.nx
      | none => False
    | _ => False
  | .alloc T => match Z T with
    | some z => K ⟨.ptr s.nx 0 [], [], [], [(s.nx, .cells z)]⟩ (s.nx + 1)
    | none => False
  | .box T x => match s.ev x with
    | some u => u.layable = true ∧ K ⟨.ptr s.nx 0 [], [], [], [(s.nx, .cells u)]⟩ (s.nx + 1)
    | none => False
  | .load T x => match s.ev x with
    | some (.ptr n off p) => match Heap.get s.H n with
      | some (.cells root) => match root.proj p with
        | some u => (root.offOf p = off ∧ LoadOk P T u) ∧ K ⟨u, [n], [], []⟩ s.nx
        | none => False
      | _ => False
    | some (.vptr root off p) => match root.proj p with
      | some u => (root.offOf p = off ∧ LoadOk P T u) ∧ K ⟨u, [], [], []⟩ s.nx
      | none => False
    | _ => False
  | .store T x y => match s.ev x, s.ev y with
    | some (.ptr n off p), some u => match Heap.get s.H n with
      | some (.cells root) => match root.proj p with
        | some old => (root.offOf p = off ∧ u.layable = true ∧ u.size = old.size ∧ szOf P T = some u.size) ∧ K ⟨.undef, [], [n], [(n, .cells (root.upd p u))]⟩ s.nx
        | none => False
      | _ => False
    | _, _ => False
  | .fieldAddr S x j => match P.underlying S with
    | some (.struct fs) => match fs[j]? with
      | some f => match szOf P f.type, s.ev x with
        | some k, some (.ptr n off p) => k ≠ 0 ∧ K ⟨.ptr n (off + f.offset) (p ++ [j]), [], [], []⟩ s.nx
        | some k, some (.vptr root off p) => k ≠ 0 ∧ K ⟨.vptr root (off + f.offset) (p ++ [j]), [], [], []⟩ s.nx
        | _, _ => False
      | none => False
    | _ => False
  | .field S x j => match P.underlying S, s.ev x with
    | some (.struct fs), some (.agg vs) => match fs[j]?, vs[j]? with
      | some f, some u => (f.offset = AV.sizeL (vs.take j) ∧ LoadOk P f.type u) ∧ K ⟨u, [], [], []⟩ s.nx
      | _, _ => False
    | _, _ => False
  | .indexAddr T x y => DoIndexAddr P T (s.ev x) (s.ev y) fun v => K ⟨v, [], [], []⟩ s.nx
  | .index T x y => DoIndex P T (s.ev x) (s.ev y) fun v => K ⟨v, [], [], []⟩ s.nx
  | .slice T x lo hi none => DoSlice P T (s.ev x) lo hi s K
  | .binOp op T x y _ => DoBin P op T (s.ev x) (s.ev y) fun v => K ⟨v, [], [], []⟩ s.nx
  | .unOp op _ x => match s.ev x with
    | some (.bool b) => match op with
      | .not => K ⟨.bool (!b), [], [], []⟩ s.nx
      | _ => False
    | some (.int k n) => match unI op k n with
      | some v => K ⟨v, [], [], []⟩ s.nx
      | none => False
    | _ => False
  | .convert S D x => DoConvert P S D (s.ev x) s K
  | .nilCheck x => match s.ev x with
    | some (.ptr n off p) => K ⟨.ptr n off p, [], [], []⟩ s.nx
    | _ => False
  | .extract x j => match s.ev x with
    | some (.tuple vs) => match vs[j]? with
      | some u => (∀ us, u ≠ .tuple us) ∧ K ⟨u, [], [], []⟩ s.nx
      | none => False
    | _ => False
  | .build T ps => DoBuild P Z T (partsAV s.ev ps.toList) fun v => K ⟨v, [], [], []⟩ s.nx
  | .buildSlice T n ps => match P.underlying T, partsAV s.ev ps.toList with
    | some (.slice E), some us => match Z E, szOf P E with
      | some z, some wd => (z.size = wd ∧ n * wd ≤ 2 ^ 24 ∧ PartsOk (fun i => some (i * wd, wd)) (List.replicate n z) us ∧ ∀ x, x ∈ us → x.2.layable = true) ∧ K ⟨.sl s.nx 0 [] 0 n n wd, [], [], [(s.nx, .cells (.agg (setParts (List.replicate n z) us)))]⟩ (s.nx + 1)
      | _, _ => False
    | _, _ => False
  | .makeSlice T x y => match P.underlying T, s.ev x, s.ev y with
    | some (.slice E), some (.int _ l), some (.int _ c) => match Z E, szOf P E, byOf P E with
      | some z, some wd, some by_ => (z.size = wd ∧ 0 ≤ l ∧ l ≤ c ∧ (by_ : Int) * c ≤ 140737488355328 ∧ c ≤ 9223372036854775807) ∧ K ⟨.sl s.nx 0 [] 0 l.toNat c.toNat wd, [], [], [(s.nx, .cells (.agg (List.replicate c.toNat z)))]⟩ (s.nx + 1)
      | _, _, _ => False
    | _, _, _ => False
  | .call c => match c with
    | { callee := .builtin .len, args := ⟨[x]⟩, argTypes := ⟨[T]⟩ } => match s.ev x with
      | some (.str t) => P.underlying T = some .string ∧ K ⟨.int .i64 t.size, [], [], []⟩ s.nx
      | some (.mapv n) => match Heap.get s.H n with
        | some (.map es) => isMapT P T = true ∧ K ⟨.int .i64 es.length, [n], [], []⟩ s.nx
        | _ => False
      | some .nilmap => isMapT P T = true ∧ K ⟨.int .i64 0, [], [], []⟩ s.nx
      | some u => match P.underlying T with
        | some (.slice _) => match slLen u with
          | some n => K ⟨.int .i64 n, [], [], []⟩ s.nx
          | none => False
        | some (.array n _) => K ⟨.int .i64 n, [], [], []⟩ s.nx
        | _ => False
      | none => False
    | { callee := .builtin .append, args := ⟨[x, y]⟩, argTypes := ⟨[T1, T2]⟩ } => DoAppend P Z T1 T2 (s.ev x) (s.ev y) s K
    | { callee := .builtin .copy, args := ⟨[x, y]⟩, argTypes := ⟨[T1, _]⟩ } => DoCopy P T1 (s.ev x) (s.ev y) s K
    | { callee := .builtin .min, args := ⟨[x, y]⟩, argTypes := _ } => match s.ev x, s.ev y with
      | some (.int k m), some (.int k' n) => k = k' ∧ K ⟨.int k (if n < m then n else m), [], [], []⟩ s.nx
      | _, _ => False
    | { callee := .builtin .max, args := ⟨[x, y]⟩, argTypes := _ } => match s.ev x, s.ev y with
      | some (.int k m), some (.int k' n) => k = k' ∧ K ⟨.int k (if m < n then n else m), [], [], []⟩ s.nx
      | _, _ => False
    | { callee := .value _, .. } => CallTo P o s K
    | { callee := .builtin .delete, .. } => CallTo P o s K
    | _ => False
  | .lookup T x i c => DoLookup P Z T (s.ev x) (s.ev i) c s K
  | .mapUpdate T x i y => DoMapUpdate P T (s.ev x) (s.ev i) (s.ev y) s K
  | .makeMap _ none => K ⟨.mapv s.nx, [], [], [(s.nx, .map [])]⟩ (s.nx + 1)
  | .range _ _ => NStep P o s K
  | .next _ _ => NStep P o s K
  | .entry _ => CallTo P o s K
  | .makeInterface _ _ => CallTo P o s K
  | .makeFunc (.func f) ⟨[]⟩ cs => match evL s.ev cs.toList with
    | some us => us.all capOk = true ∧ K ⟨.func f us, [], [], []⟩ s.nx
    | none => False
  | _ => False

section
variable {P : Program} {Z : TypeId → Option AV} {o : Oper} {s : St} {K : Eff → Nat → Prop}

theorem effOk_val (v : AV) (rd : List Nat) : EffOk s ⟨v, rd, [], []⟩ s.nx := ⟨Nat.le_refl _, fun n x h => by simp [Heap.get] at h, fun n h => by simp at h⟩
theorem effOk_new (v : AV) (rd : List Nat) (b : ABlk) : EffOk s ⟨v, rd, [], [(s.nx, b)]⟩ (s.nx + 1) :=
  ⟨by omega, fun n x h _ => by
    simp only [Heap.get] at h
    by_cases hn : n = s.nx
    · subst hn; omega
    · simp [hn] at h, fun n h => by simp at h⟩
theorem effOk_write (v : AV) (rd : List Nat) {n : Nat} {b0 : ABlk} (b : ABlk) (h : Heap.get s.H n = some b0) : EffOk s ⟨v, rd, [n], [(n, b)]⟩ s.nx :=
  ⟨Nat.le_refl _, fun m x hm hw => by
    simp only [Heap.get] at hm
    by_cases hn : m = n
    · subst hn; exact absurd (by simp) hw
    · simp [hn] at hm, fun m hm => by simp at hm; subst hm; exact ⟨_, h⟩⟩
theorem effOk_move (v : AV) (rd : List Nat) {n : Nat} {b0 : ABlk} (b : ABlk) (h : Heap.get s.H n = some b0) : EffOk s ⟨v, rd, [n], [(s.nx, b)]⟩ (s.nx + 1) :=
  ⟨by omega, fun m x hm hw => by
    simp only [Heap.get] at hm
    by_cases hn : m = s.nx
    · subst hn; omega
    · simp [hn] at hm, fun m hm => by simp at hm; subst hm; exact ⟨_, h⟩⟩

theorem partsAV_spec {ev : Operand → Option AV} : ∀ {ps : List (Nat × Operand)} {us : List (Nat × AV)}, partsAV ev ps = some us → ps.map (fun x => (x.1, ev x.2)) = us.map (fun x => (x.1, some x.2))
  | [], us, h => by simp only [partsAV, Option.some.injEq] at h; subst h; rfl
  | (i, x) :: r, us, h => by
    simp only [partsAV] at h
    split at h
    · rename_i v us' h1 h2
      simp only [Option.some.injEq] at h
      subst h
      simp [h1, partsAV_spec h2]
    · cases h

theorem DoBin.sound {op : BinOp} {T T' : TypeId} {x y : Operand} {K : AV → Prop} (ho : o.op = .binOp op T x y T') (h : DoBin P op T (s.ev x) (s.ev y) K) : ∃ v, LS P o s.ev (Heap.get s.H) ⟨v, [], [], []⟩ ∧ K v := by
  unfold DoBin at h
  have eqop : ∀ {ng : Bool}, isEq op = some ng → op = if ng then .neq else .eql := by
    intro ng h; cases op <;> simp only [isEq, Option.some.injEq, reduceCtorEq] at h <;> subst h <;> rfl
  split at h
  · obtain ⟨h1, h2⟩ := h
    split at h2
    · exact ⟨_, ls_bin_int ho ‹_› ‹_› h1 ‹_›, h2⟩
    · exact h2.elim
  · split at h
    · exact ⟨_, ls_bin_str ho ‹_› ‹_› ‹_›, h⟩
    · exact h.elim
  · split at h
    · rename_i ng hng
      have := eqop hng
      subst this
      exact ⟨_, ls_eq_bool ho ‹_› ‹_› h.1, h.2⟩
    · exact h.elim
  · split at h
    · rename_i ng ks r hng hks hr
      have := eqop hng
      subst this
      exact ⟨_, ls_eq_agg ho ‹_› ‹_› hks h.1.1 h.1.2.1 h.1.2.2 hr, h.2⟩
    · exact h.elim
  · split at h
    · rename_i ng p q E hng hp hq hT
      have := eqop hng
      subst this
      exact ⟨_, ls_eq_ptr ho ‹_› ‹_› hT hp hq h.1, h.2⟩
    · exact h.elim
  · exact h.elim

theorem szOf_info {P : Program} {E wd by_ : Nat} (h1 : szOf P E = some wd) (h2 : byOf P E = some by_) : ∃ i, P.info? E = some i ∧ i.size = wd ∧ i.bytes = by_ := by
  unfold szOf at h1
  unfold byOf at h2
  cases hi : P.info? E with
  | none => simp [hi] at h1
  | some i => simp [hi] at h1 h2; exact ⟨i, rfl, h1, h2⟩

theorem DoAppend.sound (hZ : ∀ T z, Z T = some z → ZeroIs P T z) {T1 T2 : TypeId} {x y : Operand} (ho : o.op = .call { callee := .builtin .append, args := #[x, y], argTypes := #[T1, T2] }) (h : DoAppend P Z T1 T2 (s.ev x) (s.ev y) s K) :
    ∃ e nx, LS P o s.ev (Heap.get s.H) e ∧ EffOk s e nx ∧ K e nx := by
  unfold DoAppend at h
  split at h
  · rename_i E u w hT hx hy
    split at h
    · rename_i wd by_ z d h1 h2 h3 h4
      obtain ⟨⟨h5, h6⟩, h⟩ := h
      obtain ⟨rd, xs, hs, h⟩ := h.sound
      have he : ElemOk P T1 T2 E wd by_ := ⟨hT, ⟨d, h4, fun k hk => by subst hk; exact h6⟩, szOf_info h1 h2, ⟨z, hZ _ _ h3, h5⟩⟩
      split at h
      · obtain ⟨⟨h7, h8⟩, h⟩ := h
        split at h
        · exact ⟨_, _, ls_append_nil0 ho he hx hy hs ‹_›, effOk_val _ _, h⟩
        · exact ⟨_, _, ls_append_nil s.nx ho he hx hy hs (by omega) h7 h8, effOk_new _ _ _, h⟩
      · split at h
        · rename_i hH
          obtain ⟨⟨rfl, g1, g2, g3, g4, g5, g6, g7⟩, h⟩ := h
          exact ⟨_, _, ls_append_own s.nx ho he hx hH g1 g2 g3 hy hs g4 (Ne.symm g5) g6 g7, effOk_move _ _ _ hH, h⟩
        · exact h.elim
      · exact h.elim
    · exact h.elim
  · exact h.elim

theorem DoCopy.sound {T1 T2 : TypeId} {x y : Operand} (ho : o.op = .call { callee := .builtin .copy, args := #[x, y], argTypes := #[T1, T2] }) (h : DoCopy P T1 (s.ev x) (s.ev y) s K) :
    ∃ e nx, LS P o s.ev (Heap.get s.H) e ∧ EffOk s e nx ∧ K e nx := by
  unfold DoCopy at h
  split at h
  · rename_i E n off p i len cap wd w hT hx hy
    split at h
    · rename_i wd' root h1 h2
      split at h
      · rename_i es h3
        obtain ⟨⟨rfl, g1, g2, g3⟩, h⟩ := h
        obtain ⟨rd, xs, hs, h4, h⟩ := h.sound
        exact ⟨_, _, ls_copy ho hT h1 hx h2 h3 g1 g2 g3 hy hs h4, effOk_write _ _ _ h2, h⟩
      · exact h.elim
    · exact h.elim
  · exact h.elim

theorem ls_slice_str' {P : Program} {o : Oper} {ev : Operand → Option AV} {H : Nat → Option ABlk} {T : TypeId} {x : Operand} {lo hi : Option Operand} {s : ByteArray} {l h : Int} (ho : o.op = .slice T x lo hi none) (hx : ev x = some (.str s)) (hlo : Bnd ev lo l 0) (hhi : Bnd ev hi h s.size)
    (hT : P.underlying T = some .string) (h0 : 0 ≤ l) (h1 : l ≤ h) (h2 : h ≤ s.size) : LS P o ev H ⟨.str (s.extract l.toNat h.toNat), [], [], []⟩ := by
  cases lo with
  | none => cases hi with
    | none => exact ls_slice_str ho hx hlo hhi hT h0 h1 h2
    | some y => exact ls_slice_str ho hx hlo hhi hT h0 h1 h2
  | some z => cases hi with
    | none => exact ls_slice_str ho hx hlo hhi hT h0 h1 h2
    | some y => exact ls_slice_str ho hx hlo hhi hT h0 h1 h2

theorem DoSlice.sound {T : TypeId} {x : Operand} {lo hi : Option Operand} (ho : o.op = .slice T x lo hi none) (h : DoSlice P T (s.ev x) lo hi s K) : ∃ e nx, LS P o s.ev (Heap.get s.H) e ∧ EffOk s e nx ∧ K e nx := by
  unfold DoSlice at h
  split at h
  · rename_i t hx
    split at h
    · rename_i l hh hl hh'
      obtain ⟨⟨g1, g2, g3, g4⟩, h⟩ := h
      exact ⟨_, _, ls_slice_str' ho hx (bndAV_spec hl) (bndAV_spec hh') g1 g2 g3 g4, effOk_val _ _, h⟩
    · exact h.elim
  · rename_i hx
    split at h
    · rename_i l hh E hl hh' hT
      obtain ⟨⟨rfl, rfl, g3⟩, h⟩ := h
      obtain ⟨wd, hwd⟩ := Option.isSome_iff_exists.1 g3
      exact ⟨_, _, ls_slice_nil ho hx (bndAV_spec hl) (bndAV_spec hh') hT hwd, effOk_val _ _, h⟩
    · exact h.elim
  · rename_i es len hx
    split at h
    · rename_i l hh E hl hh' hT
      split at h
      · rename_i wd hwd
        obtain ⟨⟨g1, g2, g3, g4⟩, h⟩ := h
        exact ⟨_, _, ls_slice_vsl ho hx (bndAV_spec hl) (bndAV_spec hh') hT hwd g1 g2 g3 g4, effOk_val _ _, h⟩
      · exact h.elim
    · exact h.elim
  · rename_i n off p i len cap wd hx
    split at h
    · rename_i l hh E hl hh' hT
      obtain ⟨⟨g1, g2, g3, g4⟩, h⟩ := h
      exact ⟨_, _, ls_slice_sl ho hx (bndAV_spec hl) (bndAV_spec hh') hT g1 g2 g3 g4, effOk_val _ _, h⟩
    · exact h.elim
  · rename_i n off p hx
    split at h
    · rename_i len E root hT hH
      split at h
      · rename_i l hh wd es hl hh' hwd hp
        obtain ⟨⟨g1, g2, g3, g4, g5⟩, h⟩ := h
        exact ⟨_, _, ls_slice_arr ho hx (bndAV_spec hl) (bndAV_spec hh') hT hwd hH hp g1 g2 g3 g4 g5, effOk_val _ _, h⟩
      · exact h.elim
    · exact h.elim
  · exact h.elim

theorem DoIndexAddr.sound {T : TypeId} {x y : Operand} {K : AV → Prop} (ho : o.op = .indexAddr T x y) (h : DoIndexAddr P T (s.ev x) (s.ev y) K) : ∃ v, LS P o s.ev (Heap.get s.H) ⟨v, [], [], []⟩ ∧ K v := by
  unfold DoIndexAddr at h
  split at h
  · split at h
    · exact ⟨_, ls_indexAddr_sl ho ‹_› ‹_› ‹_› h.1.1 h.1.2.1 h.1.2.2, h.2⟩
    · exact h.elim
  · split at h
    · split at h
      · exact ⟨_, ls_indexAddr_vsl ho ‹_› ‹_› ‹_› ‹_› h.1.1 h.1.2, h.2⟩
      · exact h.elim
    · exact h.elim
  · split at h
    · split at h
      · exact ⟨_, ls_indexAddr_arr ho ‹_› ‹_› ‹_› ‹_› h.1.1 h.1.2, h.2⟩
      · exact h.elim
    · exact h.elim
  · exact h.elim

theorem DoIndex.sound {T : TypeId} {x y : Operand} {K : AV → Prop} (ho : o.op = .index T x y) (h : DoIndex P T (s.ev x) (s.ev y) K) : ∃ v, LS P o s.ev (Heap.get s.H) ⟨v, [], [], []⟩ ∧ K v := by
  unfold DoIndex at h
  split at h
  · exact ⟨_, ls_index_str ho ‹_› ‹_› h.1.1 h.1.2.1 h.1.2.2, h.2⟩
  · split at h
    · split at h
      · exact ⟨_, ls_index_arr ho ‹_› ‹_› ‹_› ‹_› h.1.1 h.1.2.1 ‹_› h.1.2.2.1 h.1.2.2.2, h.2⟩
      · exact h.elim
    · exact h.elim
  · exact h.elim

theorem DoConvert.sound {S D : TypeId} {x : Operand} (ho : o.op = .convert S D x) (h : DoConvert P S D (s.ev x) s K) : ∃ e nx, LS P o s.ev (Heap.get s.H) e ∧ EffOk s e nx ∧ K e nx := by
  unfold DoConvert at h
  split at h
  · split at h
    · exact ⟨_, _, ls_conv_int ho ‹_› ‹_› ‹_›, effOk_val _ _, h⟩
    · exact h.elim
  · exact h.elim
  · rename_i u hx1 hx2 hx
    split at h
    · rename_i E hS hD
      obtain ⟨hE, h⟩ := h
      obtain ⟨rd, xs, hs, h⟩ := h.sound
      split at h
      · exact ⟨_, _, ls_strof ho hx hs (fun t ht => by subst ht; exact hx2 t rfl) hS hD hE ‹_›, effOk_val _ _, h⟩
      · exact h.elim
    · exact h.elim
  · exact h.elim

theorem DoBuild.sound (hZ : ∀ T z, Z T = some z → ZeroIs P T z) {T : TypeId} {ps : Array (Nat × Operand)} {K : AV → Prop} (ho : o.op = .build T ps) (h : DoBuild P Z T (partsAV s.ev ps.toList) K) : ∃ v, LS P o s.ev (Heap.get s.H) ⟨v, [], [], []⟩ ∧ K v := by
  unfold DoBuild at h
  split at h
  · rename_i fs zs us hT hz hus
    exact ⟨_, ls_build_struct ho hT (hZ _ _ hz) (partsAV_spec hus) (fun f hf => h.1.1 f (by simpa using hf)) h.1.2.1 h.1.2.2, h.2⟩
  · rename_i n E zs us hT hz hus
    split at h
    · rename_i sz hE
      exact ⟨_, ls_build_array ho hT (hZ _ _ hz) hE (partsAV_spec hus) h.1.1 h.1.2, h.2⟩
    · exact h.elim
  · exact h.elim

theorem isMapT_spec {T : TypeId} (h : isMapT P T = true) : ∃ kt et, P.underlying T = some (.map kt et) := by
  unfold isMapT at h
  split at h
  · exact ⟨_, _, ‹_›⟩
  · cases h
theorem DoLookup.sound (hZ : ∀ T z, Z T = some z → ZeroIs P T z) {T : TypeId} {x i : Operand} {c : Bool} (ho : o.op = .lookup T x i c) (h : DoLookup P Z T (s.ev x) (s.ev i) c s K) : ∃ e nx, LS P o s.ev (Heap.get s.H) e ∧ EffOk s e nx ∧ K e nx := by
  unfold DoLookup at h
  split at h
  · rename_i kt et n k hT hx hi
    split at h
    · rename_i es z hH hz
      exact ⟨_, _, ls_lookup ho hx hi hH hT h.1.1 (hZ _ _ hz) h.1.2.1 h.1.2.2, effOk_val _ _, h.2⟩
    · exact h.elim
  · rename_i kt et k hT hx hi
    split at h
    · rename_i z hz
      exact ⟨_, _, ls_lookup_nil ho hx hi hT h.1.1 (hZ _ _ hz) h.1.2, effOk_val _ _, h.2⟩
    · exact h.elim
  · exact h.elim
theorem DoMapUpdate.sound {T : TypeId} {x i y : Operand} (ho : o.op = .mapUpdate T x i y) (h : DoMapUpdate P T (s.ev x) (s.ev i) (s.ev y) s K) : ∃ e nx, LS P o s.ev (Heap.get s.H) e ∧ EffOk s e nx ∧ K e nx := by
  unfold DoMapUpdate at h
  split at h
  · rename_i kt et n k u hT hx hi hy
    split at h
    · rename_i es hH
      exact ⟨_, _, ls_mapUpdate ho hx hi hy hH hT h.1.1 h.1.2.1 h.1.2.2.1 h.1.2.2.2, effOk_write _ _ _ hH, h.2⟩
    · exact h.elim
  · exact h.elim

theorem evL_spec {ev : Operand → Option AV} : ∀ {xs : List Operand} {us : List AV}, evL ev xs = some us → us.length = xs.length ∧ ∀ (k : Nat) (x : Operand), xs[k]? = some x → ∃ v, ev x = some v ∧ us[k]? = some v
  | [], us, h => by simp [evL] at h; subst h; exact ⟨rfl, fun k x h => by simp at h⟩
  | x :: r, us, h => by
    simp only [evL] at h
    split at h
    · rename_i v vs h1 h2
      cases h
      obtain ⟨g1, g2⟩ := evL_spec h2
      refine ⟨by simp [g1], fun k y hy => ?_⟩
      cases k with
      | zero => simp at hy; subst hy; exact ⟨v, h1, rfl⟩
      | succ k => exact g2 k y (by simpa using hy)
    · cases h
theorem ls_makeFunc {f : FuncId} {cs : Array Operand} {us : List AV} {ev : Operand → Option AV} {H : Nat → Option ABlk} (ho : o.op = .makeFunc (.func f) #[] cs) (hu : evL ev cs.toList = some us) (hk : us.all capOk = true) : LS P o ev H ⟨.func f us, [], [], []⟩ := by
  obtain ⟨g1, g2⟩ := evL_spec hu
  refine LS.value fun a w I ρ hev _ => ⟨.func (.func f) #[] (cs.map a.eval), CRel.func f us _ (by simp [g1]) fun k hk' => ?_, ?_⟩
  · have hkc : k < cs.size := by simp [g1] at hk'; exact hk'
    obtain ⟨v, h1, h2⟩ := g2 k cs[k] (by simp [hkc])
    have h3 := hev cs[k] (by simp [ho, Op.operands]) v h1
    have q := List.all_eq_true.1 hk v (List.mem_of_getElem? h2)
    rw [List.getD_eq_getElem?_getD, h2, Array.getD_eq_getD_getElem?, Array.getElem?_map, Array.getElem?_eq_getElem hkc]
    simp only [Option.getD_some, Option.map_some]
    cases v <;> first | exact h3 | (simp [capOk] at q)
  · simp [execOp, ho, Instr.makeFunc]
theorem Do.sound (hZ : ∀ T z, Z T = some z → ZeroIs P T z) (hst : stepOp o.op = false) (h : Do P Z o s K) : ∃ e nx, LS P o s.ev (Heap.get s.H) e ∧ EffOk s e nx ∧ K e nx := by
  unfold Do at h
  split at h
  · rename_i x ho
    split at h
    · exact ⟨_, _, ls_move (.inl ho) ‹_›, effOk_val _ _, h⟩
    · exact h.elim
  · rename_i x ho
    split at h
    · exact ⟨_, _, ls_move (.inr ho) ‹_›, effOk_val _ _, h⟩
    · exact h.elim
  · rename_i c a b ho
    split at h
    · split at h
      · exact ⟨_, _, ls_pick ho ‹_› ‹_›, effOk_val _ _, h⟩
      · exact h.elim
    · exact h.elim
  · rename_i T ho
    split at h
    · exact ⟨_, _, ls_alloc s.nx ho (hZ _ _ ‹_›), effOk_new _ _ _, h⟩
    · exact h.elim
  · rename_i T x ho
    split at h
    · exact ⟨_, _, ls_box s.nx ho ‹_› h.1, effOk_new _ _ _, h.2⟩
    · exact h.elim
  · rename_i T x ho
    split at h
    · split at h
      · split at h
        · exact ⟨_, _, ls_load ho ‹_› ‹_› ‹_› h.1.1 h.1.2, effOk_val _ _, h.2⟩
        · exact h.elim
      · exact h.elim
    · split at h
      · exact ⟨_, _, ls_loadv ho ‹_› ‹_› h.1.1 h.1.2, effOk_val _ _, h.2⟩
      · exact h.elim
    · exact h.elim
  · rename_i T x y ho
    split at h
    · split at h
      · rename_i hH
        split at h
        · exact ⟨_, _, ls_store ho ‹_› ‹_› hH ‹_› h.1.1 h.1.2.1 h.1.2.2.1 h.1.2.2.2, effOk_write _ _ _ hH, h.2⟩
        · exact h.elim
      · exact h.elim
    · exact h.elim
  · rename_i S x j ho
    split at h
    · split at h
      · split at h
        · exact ⟨_, _, ls_fieldAddr ho ‹_› ‹_› ‹_› ‹_› h.1, effOk_val _ _, h.2⟩
        · exact ⟨_, _, ls_fieldAddrv ho ‹_› ‹_› ‹_› ‹_› h.1, effOk_val _ _, h.2⟩
        · exact h.elim
      · exact h.elim
    · exact h.elim
  · rename_i S x j ho
    split at h
    · split at h
      · exact ⟨_, _, ls_field ho ‹_› ‹_› ‹_› ‹_› h.1.1 h.1.2, effOk_val _ _, h.2⟩
      · exact h.elim
    · exact h.elim
  · rename_i T x y ho
    obtain ⟨v, h1, h2⟩ := DoIndexAddr.sound ho h
    exact ⟨_, _, h1, effOk_val _ _, h2⟩
  · rename_i T x y ho
    obtain ⟨v, h1, h2⟩ := DoIndex.sound ho h
    exact ⟨_, _, h1, effOk_val _ _, h2⟩
  · rename_i T x lo hi ho
    exact DoSlice.sound ho h
  · rename_i op T x y T' ho
    obtain ⟨v, h1, h2⟩ := DoBin.sound ho h
    exact ⟨_, _, h1, effOk_val _ _, h2⟩
  · rename_i op T x ho
    split at h
    · split at h
      · exact ⟨_, _, ls_not ho ‹_›, effOk_val _ _, h⟩
      · exact h.elim
    · split at h
      · exact ⟨_, _, ls_un_int ho ‹_› ‹_›, effOk_val _ _, h⟩
      · exact h.elim
    · exact h.elim
  · rename_i S D x ho
    exact DoConvert.sound ho h
  · rename_i x ho
    split at h
    · exact ⟨_, _, ls_nilCheck ho ‹_›, effOk_val _ _, h⟩
    · exact h.elim
  · rename_i x j ho
    split at h
    · split at h
      · exact ⟨_, _, ls_extract ho ‹_› ‹_› h.1, effOk_val _ _, h.2⟩
      · exact h.elim
    · exact h.elim
  · rename_i T ps ho
    obtain ⟨v, h1, h2⟩ := DoBuild.sound hZ ho h
    exact ⟨_, _, h1, effOk_val _ _, h2⟩
  · rename_i T n ps ho
    split at h
    · split at h
      · exact ⟨_, _, ls_buildSlice s.nx ho ‹_› (hZ _ _ ‹_›) h.1.1 ‹_› h.1.2.1 (partsAV_spec ‹_›) h.1.2.2.1 h.1.2.2.2, effOk_new _ _ _, h.2⟩
      · exact h.elim
    · exact h.elim
  · rename_i T x y ho
    split at h
    · split at h
      · rename_i z wd by_ g1 g2 g3
        obtain ⟨i, i1, i2, i3⟩ := szOf_info g2 g3
        exact ⟨_, _, ls_makeSlice s.nx ho ‹_› ‹_› ‹_› (hZ _ _ g1) h.1.1 i1 i2 h.1.2.1 h.1.2.2.1 (by rw [i3]; exact h.1.2.2.2.1) h.1.2.2.2.2, effOk_new _ _ _, h.2⟩
      · exact h.elim
    · exact h.elim
  · rename_i c ho
    split at h
    · split at h
      · exact ⟨_, _, ls_len_str ho ‹_› h.1, effOk_val _ _, h.2⟩
      · split at h
        · obtain ⟨kt, et, hT⟩ := isMapT_spec h.1
          exact ⟨_, _, ls_len_map ho ‹_› ‹_› hT, effOk_val _ _, h.2⟩
        · exact h.elim
      · obtain ⟨kt, et, hT⟩ := isMapT_spec h.1
        exact ⟨_, _, ls_len_nilmap ho ‹_› hT, effOk_val _ _, h.2⟩
      · split at h
        · split at h
          · exact ⟨_, _, ls_len_sl ho ‹_› ‹_› ‹_›, effOk_val _ _, h⟩
          · exact h.elim
        · exact ⟨_, _, ls_len_arr ho ‹_› ‹_›, effOk_val _ _, h⟩
        · exact h.elim
      · exact h.elim
    · exact DoAppend.sound hZ ho h
    · exact DoCopy.sound ho h
    · split at h
      · obtain ⟨rfl, h⟩ := h
        exact ⟨_, _, ls_min (.inl rfl) ho ‹_› ‹_›, effOk_val _ _, by simpa using h⟩
      · exact h.elim
    · split at h
      · obtain ⟨rfl, h⟩ := h
        exact ⟨_, _, ls_min (.inr rfl) ho ‹_› ‹_›, effOk_val _ _, by simpa using h⟩
      · exact h.elim
    · exact h
    · exact h
    · exact h.elim
  · rename_i T x i c ho
    exact DoLookup.sound hZ ho h
  · rename_i T x i y ho
    exact DoMapUpdate.sound ho h
  · rename_i T ho
    exact ⟨_, _, ls_makeMap s.nx ho, effOk_new _ _ _, h⟩
  · rename_i ho; rw [ho] at hst; cases hst
  · rename_i ho; rw [ho] at hst; cases hst
  · exact h
  · exact h
  · rename_i f cs ho
    split at h
    · exact ⟨_, _, ls_makeFunc ho ‹_› h.1, effOk_val _ _, h.2⟩
    · exact h.elim
  · exact h.elim

end
end Go.Proofs.Ytipbgaahpchhbaa
/- The evaluator in pieces that are simplified one by one. -/
namespace Go.Proofs.Ytipbgaahpchhbaa
open Go Go.RowKit

/-- A mark beside a proposition: what is marked is not simplified. -/
structure Inert {α : Type} (A : α) : Type where
  mk :: (u : Unit)

def Got {α : Type} (o : Option α) (K : α → Prop) (_ : Inert K := ⟨()⟩) : Prop := match o with
  | some v => K v
  | none => False
theorem Got_some {α : Type} {v : α} {K : α → Prop} {h : Inert K} : Got (some v) K h = K v := rfl

def Need (φ K : Prop) (_ : Inert K := ⟨()⟩) : Prop := φ ∧ K
theorem Need_true {K : Prop} {h : Inert K} : Need True K h = K := by simp [Need]

def Branch (b : Bool) (A B : Prop) (_ : Inert A := ⟨()⟩) (_ : Inert B := ⟨()⟩) : Prop := (b = true → A) ∧ (b = false → B)
theorem Branch_true {A B : Prop} {h : Inert A} {h' : Inert B} : Branch true A B h h' = A := by simp [Branch]
theorem Branch_false {A B : Prop} {h : Inert A} {h' : Inert B} : Branch false A B h h' = B := by simp [Branch]

/-- A choice by a value. -/
def BranchV (v : AV) (A B : Prop) (_ : Inert A := ⟨()⟩) (_ : Inert B := ⟨()⟩) : Prop := match v with
  | .bool b => Branch b A B
  | _ => False
theorem BranchV_bool {b : Bool} {A B : Prop} {h : Inert A} {h' : Inert B} : BranchV (.bool b) A B h h' = Branch b A B := rfl

/-- A guard: wanted or not. -/
def Gd (want : Bool) (v : AV) (A B : Prop) (_ : Inert A := ⟨()⟩) (_ : Inert B := ⟨()⟩) : Prop := match v with
  | .bool b => match want with
    | true => Branch b A B
    | false => Branch b B A
  | .tuple [] => B
  | _ => False
theorem Gd_true {b : Bool} {A B : Prop} {h : Inert A} {h' : Inert B} : Gd true (.bool b) A B h h' = Branch b A B := rfl
theorem Gd_false {b : Bool} {A B : Prop} {h : Inert A} {h' : Inert B} : Gd false (.bool b) A B h h' = Branch b B A := rfl
theorem Gd_skip {want : Bool} {A B : Prop} {h : Inert A} {h' : Inert B} : Gd want (.tuple []) A B h h' = B := rfl

/-- Cells or nothing. -/
def GotC (o : Option ABlk) (K : AV → Prop) (_ : Inert K := ⟨()⟩) : Prop := match o with
  | some (.cells r) => K r
  | _ => False
theorem GotC_cells {r : AV} {K : AV → Prop} {h : Inert K} : GotC (some (.cells r)) K h = K r := rfl

section
variable (P : Program) (Z : TypeId → Option AV)

def BO (all : List Oper) : List Oper → St → (St → Prop) → Prop
  | [], s, K => K s
  | o :: os, s, K => match o.guard with
    | none => Do P Z o s fun e nx => BO all os (s.app o.dst e nx) K
    | some (j, want) => Got (((all[j]?).bind (·.dst)).bind (look s.t)) fun v =>
        Gd want v (Do P Z o s fun e nx => BO all os (s.app o.dst e nx) K) (BO all os { s with t := Env.put s.t o.dst (.tuple []) } K)

def BOD (all : List Oper) : List Oper → St → List Foot → (List Foot → St → Prop) → Prop
  | [], s, L, K => K L s
  | o :: os, s, L, K => match o.guard with
    | none => Do P Z o s fun e nx => BOD all os (s.app o.dst e nx) (L ++ [e.foot]) K
    | some (j, want) => Got (((all[j]?).bind (·.dst)).bind (look s.t)) fun v =>
        Gd want v (Do P Z o s fun e nx => BOD all os (s.app o.dst e nx) (L ++ [e.foot]) K) (BOD all os { s with t := Env.put s.t o.dst (.tuple []) } (L ++ [([], [])]) K)

def RunR (ops : List Oper) (draw : Bool) (s : St) (K : St → Prop) : Prop := match draw with
  | false => BO P Z ops ops s K
  | true => BOD P Z ops ops s [] fun L s' => Need (confOk ops L = true) (K s')

def Run : Code → St → (Exit → St → Prop) → Prop
  | .skip, s, Q => Q .normal s
  | .ret, s, Q => Q .ret s
  | .exit id, s, Q => Q (.exit id) s
  | .seq x y, s, Q => Run x s fun e s' => match e with
    | .normal => Run y s' Q
    | e => Q e s'
  | .cond c x y, s, Q => Got (s.ev c) fun v => BranchV v (Run x s Q) (Run y s Q)
  | .block id c, s, Q => Run c s fun e s' => match e with
    | .exit i => if i = id then Q .normal s' else Q (.exit i) s'
    | e => Q e s'
  | .region _ ops draw, s, Q => RunR P Z ops.toList draw s (Q .normal)
  | .loop c, s, Q => AWp P (.loop c) s fun e s' => Q e s' ∧ s'.n = s.n
  | .rangeFunc f ps a c, s, Q => AWp P (.rangeFunc f ps a c) s fun e s' => Q e s' ∧ s'.n = s.n
  | _, _, _ => False
end

section
variable {P : Program} {Z : TypeId → Option AV}

@[congr] theorem BO_congr {all os : List Oper} {s s' : St} {K : St → Prop} (h : s = s') : BO P Z all os s K = BO P Z all os s' K := by rw [h]
@[congr] theorem BOD_congr {all os : List Oper} {s s' : St} {L L' : List Foot} {K : List Foot → St → Prop} (h : s = s') (h' : L = L') : BOD P Z all os s L K = BOD P Z all os s' L' K := by rw [h, h']
@[congr] theorem RunR_congr {ops ops' : List Oper} {d : Bool} {s s' : St} {K : St → Prop} (h : ops = ops') (h' : s = s') : RunR P Z ops d s K = RunR P Z ops' d s' K := by rw [h, h']
@[congr] theorem Run_congr {c : Code} {s s' : St} {Q : Exit → St → Prop} (h : s = s') : Run P Z c s Q = Run P Z c s' Q := by rw [h]
@[congr] theorem Do_congr {o : Oper} {s s' : St} {K : Eff → Nat → Prop} (h : s = s') : Do P Z o s K = Do P Z o s' K := by rw [h]
@[congr] theorem NStep_congr {o : Oper} {s s' : St} {K : Eff → Nat → Prop} (h : s = s') : NStep P o s K = NStep P o s' K := by rw [h]
@[congr] theorem CallTo_congr {o : Oper} {s s' : St} {K : Eff → Nat → Prop} (h : s = s') : CallTo P o s K = CallTo P o s' K := by rw [h]
@[congr] theorem AWp_congr {c : Code} {s s' : St} {Q : Exit → St → Prop} (h : s = s') : AWp P c s Q = AWp P c s' Q := by rw [h]

def opOk (N : Nat) (draw : Bool) (o : Oper) : Bool := dstOk N o && (!stepOp o.op || (o.guard.isNone && !draw))
theorem opOk_dst {N : Nat} {draw : Bool} {l : List Oper} (h : l.all (opOk N draw) = true) : l.all (dstOk N) = true := by
  rw [List.all_eq_true] at h ⊢
  intro x hx
  have := h x hx
  simp only [opOk, Bool.and_eq_true] at this
  exact this.1
theorem BO.sound (hZ : ∀ T z, Z T = some z → ZeroIs P T z) {N : Nat} {all : List Oper} {K : St → Prop} : ∀ {l : List Oper} {s : St}, l.all (opOk N false) = true → BO P Z all l s K → AOps P all l s K
  | [], s, _, h => h
  | o :: os, s, hk, h => by
    simp only [List.all_cons, Bool.and_eq_true] at hk
    obtain ⟨hk1, hk2⟩ := hk
    simp only [opOk, Bool.and_eq_true] at hk1
    simp only [BO] at h
    simp only [AOps]
    cases hg : o.guard with
    | none =>
      simp only [hg] at h ⊢
      cases hst : stepOp o.op with
      | false =>
        obtain ⟨e, nx, h1, h2, h3⟩ := Do.sound hZ hst h
        exact .inl ⟨e, nx, h1, h2, BO.sound hZ hk2 h3⟩
      | true =>
        have hn : NStep P o s fun e nx => BO P Z all os (s.app o.dst e nx) K := by
          unfold Do at h
          cases ho : o.op <;> rw [ho] at hst h <;> first | exact h | (simp [stepOp] at hst)
        refine .inr fun C a w K' Q ha hd hK => hn C a w K' Q ha hd fun s' a' w' hs hn' ha' => ?_
        obtain ⟨e, nx, h3, rfl⟩ := hs
        exact hK _ a' w' (BO.sound hZ hk2 h3) hn' ha'
    | some jw =>
      have hst : stepOp o.op = false := by
        have := hk1.2
        rw [hg] at this
        simpa using this
      obtain ⟨j, want⟩ := jw
      simp only [hg] at h ⊢
      cases hb : ((all[j]?).bind (·.dst)).bind (look s.t) with
      | none => rw [hb] at h; exact h.elim
      | some v =>
        rw [hb, Got_some] at h
        cases v with
        | bool b =>
          cases want <;> cases b <;> simp only [Gd, Branch_true, Branch_false] at h <;> simp only [gdBool, Option.some.injEq, if_true, if_false, Bool.false_eq_true, Bool.true_eq_false, reduceCtorEq] <;>
            first
            | exact BO.sound hZ hk2 h
            | (obtain ⟨e, nx, h1, h2, h3⟩ := Do.sound hZ hst h
               exact ⟨e, nx, h1, h2, BO.sound hZ hk2 h3⟩)
        | tuple vs =>
          cases vs with
          | nil =>
            simp only [gdBool, reduceCtorEq, if_false]
            exact BO.sound hZ hk2 h
          | cons _ _ => exact h.elim
        | _ => exact h.elim

theorem BOD.sound (hZ : ∀ T z, Z T = some z → ZeroIs P T z) {N : Nat} {all : List Oper} {K : List Foot → St → Prop} : ∀ {l : List Oper} {s : St} {L : List Foot}, l.all (opOk N true) = true → BOD P Z all l s L K → AOpsD P all l s L K
  | [], s, L, _, h => h
  | o :: os, s, L, hk, h => by
    simp only [List.all_cons, Bool.and_eq_true] at hk
    obtain ⟨hk1, hk2⟩ := hk
    have hst : stepOp o.op = false := by
      simp only [opOk, Bool.and_eq_true] at hk1
      simpa using hk1.2
    simp only [BOD] at h
    simp only [AOpsD]
    cases hg : o.guard with
    | none =>
      simp only [hg] at h ⊢
      obtain ⟨e, nx, h1, h2, h3⟩ := Do.sound hZ hst h
      exact ⟨e, nx, h1, h2, BOD.sound hZ hk2 h3⟩
    | some jw =>
      obtain ⟨j, want⟩ := jw
      simp only [hg] at h ⊢
      cases hb : ((all[j]?).bind (·.dst)).bind (look s.t) with
      | none => rw [hb] at h; exact h.elim
      | some v =>
        rw [hb, Got_some] at h
        cases v with
        | bool b =>
          cases want <;> cases b <;> simp only [Gd, Branch_true, Branch_false] at h <;> simp only [gdBool, Option.some.injEq, if_true, if_false, Bool.false_eq_true, Bool.true_eq_false, reduceCtorEq] <;>
            first
            | exact BOD.sound hZ hk2 h
            | (obtain ⟨e, nx, h1, h2, h3⟩ := Do.sound hZ hst h
               exact ⟨e, nx, h1, h2, BOD.sound hZ hk2 h3⟩)
        | tuple vs =>
          cases vs with
          | nil =>
            simp only [gdBool, reduceCtorEq, if_false]
            exact BOD.sound hZ hk2 h
          | cons _ _ => exact h.elim
        | _ => exact h.elim

def codeOk (n : Nat) : Code → Bool
  | .seq x y => codeOk n x && codeOk n y
  | .cond _ x y => codeOk n x && codeOk n y
  | .block _ c => codeOk n c
  | .loop c => codeOk n c
  | .region _ ops d => ops.toList.all (opOk n d)
  | _ => true

theorem AOps.n {all : List Oper} {K : St → Prop} {N : Nat} : ∀ {l : List Oper} {s : St}, s.n = N → AOps P all l s K → AOps P all l s fun s' => K s' ∧ s'.n = N
  | [], s, hn, h => ⟨h, hn⟩
  | o :: os, s, hn, h => by
    simp only [AOps] at h ⊢
    cases hg : o.guard with
    | none =>
      simp only [hg] at h ⊢
      rcases h with h | h
      · obtain ⟨e, nx, h1, h2, h3⟩ := h
        exact .inl ⟨e, nx, h1, h2, AOps.n (s := s.app o.dst e nx) hn h3⟩
      · exact .inr fun C a w K' Q ha hd hK => h C a w K' Q ha hd fun s' a' w' h3 hn' ha' => hK s' a' w' (AOps.n (s := s') (hn'.trans hn) h3) hn' ha'
    | some jw =>
      obtain ⟨j, want⟩ := jw
      simp only [hg] at h ⊢
      split at h
      · rename_i b hb
        by_cases hbw : b = some want
        · simp only [hbw, if_true] at h ⊢
          obtain ⟨e, nx, h1, h2, h3⟩ := h
          exact ⟨e, nx, h1, h2, AOps.n (s := s.app o.dst e nx) hn h3⟩
        · simp only [hbw, if_false] at h ⊢
          exact AOps.n (s := { s with t := Env.put s.t o.dst (.tuple []) }) hn h
      · exact h.elim

theorem AOpsD.n {all : List Oper} {K : List Foot → St → Prop} {N : Nat} : ∀ {l : List Oper} {s : St} {L : List Foot}, s.n = N → AOpsD P all l s L K → AOpsD P all l s L fun L s' => K L s' ∧ s'.n = N
  | [], s, L, hn, h => ⟨h, hn⟩
  | o :: os, s, L, hn, h => by
    simp only [AOpsD] at h ⊢
    cases hg : o.guard with
    | none =>
      simp only [hg] at h ⊢
      obtain ⟨e, nx, h1, h2, h3⟩ := h
      exact ⟨e, nx, h1, h2, AOpsD.n (s := s.app o.dst e nx) hn h3⟩
    | some jw =>
      obtain ⟨j, want⟩ := jw
      simp only [hg] at h ⊢
      split at h
      · rename_i b hb
        by_cases hbw : b = some want
        · simp only [hbw, if_true] at h ⊢
          obtain ⟨e, nx, h1, h2, h3⟩ := h
          exact ⟨e, nx, h1, h2, AOpsD.n (s := s.app o.dst e nx) hn h3⟩
        · simp only [hbw, if_false] at h ⊢
          exact AOpsD.n (s := { s with t := Env.put s.t o.dst (.tuple []) }) hn h
      · exact h.elim

theorem AOpsD.mono {all : List Oper} {K K' : List Foot → St → Prop} (hK : ∀ L s, K L s → K' L s) : ∀ {l : List Oper} {s : St} {L : List Foot}, AOpsD P all l s L K → AOpsD P all l s L K'
  | [], s, L, h => hK _ _ h
  | o :: os, s, L, h => by
    simp only [AOpsD] at h ⊢
    cases hg : o.guard with
    | none =>
      simp only [hg] at h ⊢
      obtain ⟨e, nx, h1, h2, h3⟩ := h
      exact ⟨e, nx, h1, h2, AOpsD.mono hK h3⟩
    | some jw =>
      obtain ⟨j, want⟩ := jw
      simp only [hg] at h ⊢
      split at h
      · rename_i b hb
        by_cases hbw : b = some want
        · simp only [hbw, if_true] at h ⊢
          obtain ⟨e, nx, h1, h2, h3⟩ := h
          exact ⟨e, nx, h1, h2, AOpsD.mono hK h3⟩
        · simp only [hbw, if_false] at h ⊢
          exact AOpsD.mono hK h
      · exact h.elim

theorem Run.sound (hm : P.follows .mixedOrders = true) (hZ : ∀ T z, Z T = some z → ZeroIs P T z) {N : Nat} : ∀ (c : Code) (s : St) (Q : Exit → St → Prop), codeOk N c = true → s.n = N → Run P Z c s Q → AWp P c s fun e s' => Q e s' ∧ s'.n = N
  | .skip, s, Q, hc, hn, h => AWp.skip ⟨h, hn⟩
  | .ret, s, Q, hc, hn, h => AWp.ret ⟨h, hn⟩
  | .exit id, s, Q, hc, hn, h => AWp.exit ⟨h, hn⟩
  | .seq x y, s, Q, hc, hn, h => by
    simp only [codeOk, Bool.and_eq_true] at hc
    refine AWp.seq (AWp.mono (Run.sound hm hZ x s _ hc.1 hn h) fun e s' h' => ?_)
    obtain ⟨h1, h2⟩ := h'
    cases e with
    | normal => exact Run.sound hm hZ y s' Q hc.2 h2 h1
    | _ => exact ⟨h1, h2⟩
  | .cond c x y, s, Q, hc, hn, h => by
    simp only [codeOk, Bool.and_eq_true] at hc
    simp only [Run] at h
    cases hv : s.ev c with
    | none => rw [hv] at h; exact h.elim
    | some v =>
      rw [hv, Got_some] at h
      cases v <;> first
        | exact h.elim
        | (rename_i b
           exact AWp.cond hv (fun ht => Run.sound hm hZ x s Q hc.1 hn (h.1 ht)) (fun hf => Run.sound hm hZ y s Q hc.2 hn (h.2 hf)))
  | .block id c, s, Q, hc, hn, h => by
    simp only [codeOk] at hc
    refine AWp.block (AWp.mono (Run.sound hm hZ c s _ hc hn h) fun e s' h' => ?_)
    obtain ⟨h1, h2⟩ := h'
    cases e with
    | exit i =>
      simp only [InBlock] at h1 ⊢
      split <;> rename_i hi <;> simp only [hi, if_true, if_false] at h1 <;> exact ⟨h1, h2⟩
    | _ => exact ⟨h1, h2⟩
  | .region id ops draw, s, Q, hc, hn, h => by
    simp only [codeOk] at hc
    simp only [Run, RunR] at h
    subst hn
    cases draw with
    | false => exact AWp.region (ops := ops.toList) (opOk_dst hc) (AOps.n rfl (BO.sound hZ hc h))
    | true => exact AWp.regionD (ops := ops.toList) hm (opOk_dst hc) (AOpsD.mono (fun L s' h => ⟨h.1.1, h.1.2, h.2⟩) (AOpsD.n rfl (BOD.sound hZ hc h)))
  | .loop c, s, Q, hc, hn, h => by
    subst hn
    exact h
  | .rangeFunc .., s, Q, hc, hn, h => by
    subst hn
    exact h
  | .scope .., s, Q, hc, hn, h => h.elim
  | .label .., s, Q, hc, hn, h => h.elim
  | .goto .., s, Q, hc, hn, h => h.elim
  | .refuse .., s, Q, hc, hn, h => h.elim

end
end Go.Proofs.Ytipbgaahpchhbaa
