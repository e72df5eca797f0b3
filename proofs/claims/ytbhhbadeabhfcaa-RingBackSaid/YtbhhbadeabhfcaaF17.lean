/- Calls: contracts of functions. -/
import Derived.Test.YtbhhbadeabhfcaaF16
set_option linter.unusedVariables false
set_option linter.unusedSimpArgs false
namespace Go.Proofs.Ytbhhbadeabhfcaa
open Go Go.RowKit

/- The names in a value all have a property. -/
mutual
def AV.on (S : Nat → Prop) : AV → Prop
  | .ptr n _ _ => S n
  | .sl n _ _ _ _ _ _ => S n
  | .mapv n => S n
  | .vptr r _ _ => AV.on S r
  | .vsl es _ => AV.onL S es
  | .func _ cs => AV.onL S cs
  | .iface _ v => AV.on S v
  | .agg vs => AV.onL S vs
  | .tuple vs => AV.onL S vs
  | _ => True
def AV.onL (S : Nat → Prop) : List AV → Prop
  | [] => True
  | v :: vs => AV.on S v ∧ AV.onL S vs
end

theorem AV.onL_iff {S : Nat → Prop} : ∀ {vs : List AV}, AV.onL S vs ↔ ∀ x, x ∈ vs → AV.on S x
  | [] => by simp [AV.onL]
  | v :: vs => by simp [AV.onL, AV.onL_iff (vs := vs)]

mutual
theorem AV.on_flat {S : Nat → Prop} : ∀ {v : AV}, AV.on S v → ∀ x, x ∈ v.flat → AV.on S x
  | .agg vs, h, x, hx => AV.on_flatL (vs := vs) h x hx
  | .undef, h, x, hx | .bool _, h, x, hx | .int _ _, h, x, hx | .str _, h, x, hx | .nilptr, h, x, hx | .ptr _ _ _, h, x, hx | .vptr _ _ _, h, x, hx | .nilsl, h, x, hx | .sl _ _ _ _ _ _ _, h, x, hx
  | .vsl _ _, h, x, hx | .nilmap, h, x, hx | .mapv _, h, x, hx | .func _ _, h, x, hx | .nilfunc, h, x, hx | .iface _ _, h, x, hx | .niliface, h, x, hx | .tuple _, h, x, hx => by
    simp only [AV.flat, List.mem_singleton] at hx; subst hx; exact h
theorem AV.on_flatL {S : Nat → Prop} : ∀ {vs : List AV}, AV.onL S vs → ∀ x, x ∈ AV.flatL vs → AV.on S x
  | [], h, x, hx => by simp [AV.flatL] at hx
  | v :: vs, h, x, hx => by
    simp only [AV.flatL, List.mem_append] at hx
    rcases hx with hx | hx
    · exact AV.on_flat h.1 x hx
    · exact AV.on_flatL h.2 x hx
end

theorem getD_on {S : Nat → Prop} {xs : List AV} (h : ∀ x, x ∈ xs → AV.on S x) (k : Nat) : AV.on S (xs.getD k .undef) := by
  rw [List.getD_eq_getElem?_getD]
  rcases Nat.lt_or_ge k xs.length with hk | hk
  · rw [List.getElem?_eq_getElem hk]; exact h _ (List.getElem_mem hk)
  · rw [List.getElem?_eq_none hk]; trivial

section
variable {w : World} {I I' : Nat → Prop} {ρ ρ' : Rho} {S : Nat → Prop}

/-- The places of other names don't matter. -/
theorem CRel.on (hI : ∀ b, I b → I' b) (hS : ∀ n x, S n → ρ n = some x → ρ' n = some x) {x : AV} {c : Value} (hc : CRel w I ρ x c) (hx : AV.on S x) : CRel w I' ρ' x c := by
  induction hc with
  | undef c h => exact .undef c h
  | bool b => exact .bool b
  | int k n => exact .int k n
  | str s => exact .str s
  | nilptr => exact .nilptr
  | ptr n off p b o r hr => exact .ptr n off p b o r (hS _ _ hx hr)
  | vptr root off p b o c hb hc _ ih => exact .vptr root off p b o c (hI _ hb) hc fun k hk => ih k hk (getD_on (AV.on_flat (show AV.on S root from hx)) k)
  | nilsl => exact .nilsl
  | sl n off p i len cap wd b o r c hr h1 h2 h3 => exact .sl n off p i len cap wd b o r c (hS _ _ hx hr) h1 h2 h3
  | sl0 n off p i wd a => exact .sl0 n off p i wd a
  | vsl0 a c => exact .vsl0 a c
  | vsl es len b o cap c hb h1 h2 hc _ ih => exact .vsl es len b o cap c (hI _ hb) h1 h2 hc fun k hk => ih k hk (getD_on (AV.on_flatL hx) k)
  | nilmap => exact .nilmap
  | mapv n b o r hr => exact .mapv n b o r (hS _ _ hx hr)
  | func f caps cs hs _ ih => exact .func f caps cs hs fun k hk => ih k hk (getD_on (AV.onL_iff.1 hx) k)
  | nilfunc => exact .nilfunc
  | iface t v c _ ih => exact .iface t v c (ih hx)
  | niliface => exact .niliface

theorem CsRel.on (hI : ∀ b, I b → I' b) (hS : ∀ n x, S n → ρ n = some x → ρ' n = some x) {xs : List AV} {cs : List Value} (hc : CsRel w I ρ xs cs) (hx : ∀ x, x ∈ xs → AV.on S x) : CsRel w I' ρ' xs cs :=
  ⟨hc.1, fun k hk => (hc.2 k hk).on hI hS (getD_on hx k)⟩

theorem XRel.on (hI : ∀ b, I b → I' b) (hS : ∀ n x, S n → ρ n = some x → ρ' n = some x) {x : AV} {c : Value} (hc : XRel w I ρ x c) (hx : AV.on S x) : XRel w I' ρ' x c := by
  cases x with
  | agg vs => obtain ⟨cs, rfl, hcs⟩ := hc; exact ⟨cs, rfl, hcs.on hI hS (AV.on_flatL hx)⟩
  | tuple vs => exact hc.elim
  | undef => trivial
  | _ => exact CRel.on hI hS hc hx

theorem BRel.on (hI : ∀ b, I b → I' b) (hS : ∀ n x, S n → ρ n = some x → ρ' n = some x) {n : Nat} {v : AV} (hc : BRel w I ρ n (.cells v)) (hn : S n) (hx : AV.on S v) (hnI : ∀ b o r, ρ n = some (b, o, r) → ¬ I' b) : BRel w I' ρ' n (.cells v) := by
  obtain ⟨b, o, r, h1, h2, h3⟩ := hc
  obtain ⟨arr, T, fz, g1, g2, g3, g4, g5⟩ := h3.ex
  exact ⟨b, o, r, hS _ _ hn h1, hnI _ _ _ h1, arr, T, fz, g1, g2, g3, g4, fun k hk => (g5 k hk).on hI hS (getD_on (AV.on_flat hx) k)⟩
end

def ABlk.on (S : Nat → Prop) : ABlk → Prop
  | .cells v => AV.on S v
  | .map es => ∀ x, x ∈ es → AV.on S x.1 ∧ AV.on S x.2

theorem BRel.on' {w : World} {I I' : Nat → Prop} {ρ ρ' : Rho} {S : Nat → Prop} (hI : ∀ b, I b → I' b) (hS : ∀ n x, S n → ρ n = some x → ρ' n = some x) {n : Nat} {blk : ABlk} (hc : BRel w I ρ n blk) (hn : S n) (hx : blk.on S) (hnI : ∀ b o r, ρ n = some (b, o, r) → ¬ I' b) : BRel w I' ρ' n blk := by
  cases blk with
  | cells v => exact BRel.on hI hS hc hn hx hnI
  | map es =>
    obtain ⟨b, o, r, h1, h2, h3⟩ := hc
    obtain ⟨ents, clock, g1, g2, g3, g4, g5⟩ := h3.ex
    refine ⟨b, o, r, hS _ _ hn h1, hnI _ _ _ h1, ents, clock, g1, g2, fun k hk => ?_, g4, g5⟩
    have hm : es.getD k (.undef, .undef) ∈ es := by
      rw [List.getD_eq_getElem?_getD, List.getElem?_eq_getElem hk]; exact List.getElem_mem hk
    exact ⟨(g3 k hk).1.on hI hS (hx _ hm).1, (g3 k hk).2.on hI hS (hx _ hm).2⟩

/-- The contract of a function: called with such values, over such memory, it returns such a value, and leaves such memory. -/
def ACall (P : Program) (f : FuncId) (args : List AV) (H : Heap) (v : AV) (put : Heap) : Prop :=
  ∀ (w : World) (I : Nat → Prop) (ρ : Rho) (cargs : Array Value), cargs.size = args.length → (∀ k, k < args.length → XRel w I ρ (args.getD k .undef) (cargs.getD k Go.undef)) →
    (∀ n b, Heap.get H n = some b → BRel w I ρ n b) →
    (∀ n m x y, n ≠ m → Heap.get H n = some x → Heap.get H m = some y → ∀ b o r b' o' r', ρ n = some (b, o, r) → ρ m = some (b', o', r') → b ≠ b') →
    Imm (OwnW ρ (H.map (·.1))) w I → (∀ n x, Heap.get put n = some x → n ∉ H.map (·.1) → ρ n = none) →
    Calls P f cargs w fun e w' => ∃ c I' ρ', e = .returned c ∧ LSPost w I ρ ⟨v, [], H.map (·.1), put⟩ c w' I' ρ'

/-- Of a result: what was a row of the call's own is immutable behind the call, unless it is told on. -/
inductive Frz (K : Nat → Prop) (H : Heap) : AV → AV → Prop
  | same (x : AV) : AV.on K x → Frz K H x x
  | sl (n off : Nat) (p : List Nat) (i len cap wd : Nat) (root : AV) (es : List AV) : Heap.get H n = some (.cells root) → ¬ K n → root.proj p = some (.agg es) → off = root.offOf p + i * wd → i + len ≤ es.length → Unif wd es →
      (∀ x, x ∈ (es.drop i).take len → AV.on K x) → Frz K H (.sl n off p i len cap wd) (.vsl ((es.drop i).take len) len)
  | slc (n off : Nat) (p : List Nat) (i len cap wd m : Nat) (root : AV) (es : List AV) : Heap.get H n = some (.cells root) → ¬ K n → root.proj p = some (.agg es) → off = root.offOf p + i * wd → len ≤ m → m ≤ cap → i + m ≤ es.length → Unif wd es →
      (∀ x, x ∈ (es.drop i).take m → AV.on K x) → Frz K H (.sl n off p i len cap wd) (.vsl ((es.drop i).take m) len)
  | vcut (es : List AV) (len m : Nat) : len ≤ m → m ≤ es.length → AV.onL K es → Frz K H (.vsl es len) (.vsl (es.take m) len)
  | nil : Frz K H .nilsl (.vsl [] 0)
  | agg (xs ys : List AV) : xs.length = ys.length → (∀ k, k < xs.length → Frz K H (xs.getD k .undef) (ys.getD k .undef)) → Frz K H (.agg xs) (.agg ys)

def All2 {α β : Type} (R : α → β → Prop) : List α → List β → Prop
  | [], [] => True
  | a :: as, b :: bs => R a b ∧ All2 R as bs
  | _, _ => False

theorem All2.length {α β : Type} {R : α → β → Prop} : ∀ {as : List α} {bs : List β}, All2 R as bs → as.length = bs.length
  | [], [], _ => rfl
  | a :: as, b :: bs, h => by simp [All2.length h.2]
  | [], _ :: _, h => h.elim
  | _ :: _, [], h => h.elim
theorem All2.get {α β : Type} {R : α → β → Prop} (d : α) (e : β) : ∀ {as : List α} {bs : List β}, All2 R as bs → ∀ k, k < as.length → R (as.getD k d) (bs.getD k e)
  | [], [], _, k, hk => by simp at hk
  | a :: as, b :: bs, h, 0, _ => by simpa using h.1
  | a :: as, b :: bs, h, k + 1, hk => by simpa using All2.get d e h.2 k (by simpa using hk)
  | [], _ :: _, h, _, _ => h.elim
  | _ :: _, [], h, _, _ => h.elim

theorem Frz.all {K : Nat → Prop} {H : Heap} {xs ys : List AV} (h : All2 (Frz K H) xs ys) : Frz K H (.agg xs) (.agg ys) :=
  .agg xs ys (All2.length h) fun k hk => All2.get .undef .undef h k hk

def FrzV (K : Nat → Prop) (H : Heap) : AV → AV → Prop
  | .tuple xs, .tuple ys => All2 (Frz K H) xs ys
  | .tuple _, _ => False
  | _, .tuple _ => False
  | x, y => Frz K H x y

section
variable {w : World} {I I' : Nat → Prop} {ρ ρ' : Rho} {K : Nat → Prop} {H : Heap}

theorem AV.flat_one {x : AV} (h : ∀ vs, x ≠ .agg vs) : x.flat = [x] := by cases x <;> first | rfl | exact absurd rfl (h _)

theorem CsRel.split {xs ys : List AV} {cs : List Value} (h : CsRel w I ρ (xs ++ ys) cs) : ∃ as bs, cs = as ++ bs ∧ CsRel w I ρ xs as ∧ CsRel w I ρ ys bs := by
  obtain ⟨h1, h2⟩ := h
  simp only [List.length_append] at h1 h2
  refine ⟨cs.take xs.length, cs.drop xs.length, by simp, ⟨by simp; omega, fun k hk => ?_⟩, ⟨by simp; omega, fun k hk => ?_⟩⟩
  · have := h2 k (by omega)
    simpa [List.getD_eq_getElem?_getD, List.getElem?_append, List.getElem?_take, hk] using this
  · have := h2 (xs.length + k) (by omega)
    rw [List.getD_eq_getElem?_getD, List.getElem?_append_right (by omega), Nat.add_sub_cancel_left, ← List.getD_eq_getElem?_getD] at this
    rw [getD_drop]; exact this

theorem Frz.flat (hI : ∀ b, I b → I' b) (hS : ∀ n x, K n → ρ n = some x → ρ' n = some x) (hb : ∀ n blk, Heap.get H n = some blk → BRel w I ρ n blk) (hfz : ∀ n blk b o r, Heap.get H n = some blk → ¬ K n → ρ n = some (b, o, r) → I' b) {x y : AV} (h : Frz K H x y) :
    ∀ cs, CsRel w I ρ x.flat cs → CsRel w I' ρ' y.flat cs := by
  have slc : ∀ (n off : Nat) (p : List Nat) (i len cap wd m : Nat) (root : AV) (es : List AV), Heap.get H n = some (.cells root) → ¬ K n → root.proj p = some (.agg es) → off = root.offOf p + i * wd → len ≤ m → (m ≤ len ∨ m ≤ cap) → i + m ≤ es.length → Unif wd es →
      (∀ x, x ∈ (es.drop i).take m → AV.on K x) → ∀ c, CRel w I ρ (.sl n off p i len cap wd) c → CRel w I' ρ' (.vsl ((es.drop i).take m) len) c := by
    intro n off p i len cap wd m root es hH hn hp hoff hlm hmc hil hu hon c hc
    have hlen : ((es.drop i).take m).length = m := by rw [List.length_take, List.length_drop]; omega
    cases hc with
    | sl0 _ _ _ _ _ a =>
      have : m = 0 := by omega
      subst this
      simp only [List.take_zero]; exact .vsl0 _ _
    | sl _ _ _ _ _ _ _ b o r c hr h1 h2 h3 =>
      obtain ⟨b', o', r', hr', hnI, hlies⟩ := hb n _ hH
      rw [hr] at hr'; cases hr'
      obtain ⟨arr, T, fz, g1, g2, g3, g4, g5⟩ := hlies.ex
      obtain ⟨pre, post, q1, q2, _⟩ := AV.flat_at p root _ hp
      have hui := hu.drop i
      have hes : (AV.flatL es).length = es.length * wd := by rw [AV.flatL_length, hu.sizeL]
      have hroot : root.flat.length = pre.length + es.length * wd + post.length := by rw [q2]; simp [AV.flat, hes]; omega
      have hilw : i * wd + m * wd ≤ es.length * wd := by rw [← Nat.add_mul]; exact Nat.mul_le_mul_right _ hil
      have hsz : AV.sizeL ((es.drop i).take m) = m * wd := by rw [(hui.take m).sizeL, hlen]
      refine .vsl _ _ b (o + off) c (fun k => arr.getD (o + off + k) Go.undef) (hfz n _ b o r hH hn hr) (by omega) (by rw [hlen]; omega) (fun k hk => ?_) (fun k hk => ?_)
      · have hlt : o + off + k < arr.size := by omega
        simp [World.cell?, g1, Array.getD_eq_getD_getElem?, Array.getElem?_eq_getElem hlt]
      · have hk' : k < m * wd := by omega
        have h6 := g5 (off + k) (by omega)
        have e1 : root.flat.getD (off + k) AV.undef = (AV.flatL ((es.drop i).take m)).getD k AV.undef := by
          rw [q2, AV.flat]
          have : off + k = pre.length + (i * wd + k) := by omega
          rw [this, getD_mid _ _ _ _ _ (by rw [hes]; omega), flatL_take hui (by rw [List.length_drop]; omega), flatL_drop hu (by omega)]
          simp only [List.getD_eq_getElem?_getD, List.getElem?_take, hk', if_true, List.getElem?_drop]
        rw [e1, ← Nat.add_assoc] at h6
        exact h6.on hI hS (getD_on (fun x hx => AV.on_flatL (AV.onL_iff.2 hon) x hx) k)
  have vct : ∀ (es : List AV) (len m : Nat), len ≤ m → m ≤ es.length → AV.onL K es → ∀ c, CRel w I ρ (.vsl es len) c → CRel w I' ρ' (.vsl (es.take m) len) c := by
    intro es len m h1 h2 h3 c hc
    have hc' : CRel w I' ρ' (.vsl es len) c := hc.on hI hS h3
    cases hc' with
    | vsl0 a cap =>
      simp only [List.take_nil]; exact .vsl0 _ _
    | vsl _ _ b o cap c' q1 q2 q3 q4 q5 =>
      have hl : (es.take m).length = m := by rw [List.length_take]; omega
      have e : AV.flatL es = AV.flatL (es.take m) ++ AV.flatL (es.drop m) := by rw [← AV.flatL_append, List.take_append_drop]
      have hs : AV.sizeL es = AV.sizeL (es.take m) + AV.sizeL (es.drop m) := by rw [← AV.sizeL_append, List.take_append_drop]
      refine .vsl _ _ b o cap c' q1 (by omega) (by omega) (fun k hk => q4 k (by omega)) (fun k hk => ?_)
      have := q5 k (by omega)
      rw [e, List.getD_eq_getElem?_getD, List.getElem?_append_left (by rw [AV.flatL_length]; exact hk), ← List.getD_eq_getElem?_getD] at this
      exact this
  induction h with
  | same x hx => exact fun cs hc => hc.on hI hS (AV.on_flat hx)
  | vcut es len m h1 h2 h3 =>
    have key := vct es len m h1 h2 h3
    refine fun cs hc => ?_
    obtain ⟨g1, g2⟩ := hc
    refine ⟨g1, fun k hk => ?_⟩
    have hk0 : k = 0 := by simp [AV.flat] at hk; exact hk
    subst hk0
    exact key _ (g2 0 (by simp [AV.flat]))
  | nil =>
    refine fun cs hc => ⟨hc.1, fun k hk => ?_⟩
    have hk0 : k = 0 := by simp [AV.flat] at hk; exact hk
    subst hk0
    have h0 := hc.2 0 (by simp [AV.flat])
    have h1 : cs.getD 0 Go.undef = .slice none 0 0 := by
      generalize cs.getD 0 Go.undef = c at h0
      have h0' : CRel w I ρ .nilsl c := h0
      cases h0'; rfl
    rw [h1]; exact .vsl0 _ _
  | sl n off p i len cap wd root es h1 h2 h3 h4 h5 h6 h7 =>
    have key := slc n off p i len cap wd len root es h1 h2 h3 h4 (Nat.le_refl _) (.inl (Nat.le_refl _)) h5 h6 h7
    refine fun cs hc => ?_
    obtain ⟨g1, g2⟩ := hc
    refine ⟨g1, fun k hk => ?_⟩
    have hk0 : k = 0 := by simp [AV.flat] at hk; exact hk
    subst hk0
    exact key _ (g2 0 (by simp [AV.flat]))
  | slc n off p i len cap wd m root es h1 h2 h3 h4 h8 h9 h5 h6 h7 =>
    have key := slc n off p i len cap wd m root es h1 h2 h3 h4 h8 (.inr h9) h5 h6 h7
    refine fun cs hc => ?_
    obtain ⟨g1, g2⟩ := hc
    refine ⟨g1, fun k hk => ?_⟩
    have hk0 : k = 0 := by simp [AV.flat] at hk; exact hk
    subst hk0
    exact key _ (g2 0 (by simp [AV.flat]))
  | agg xs ys hl _ ih =>
    have key : ∀ (xs ys : List AV), xs.length = ys.length → (∀ k, k < xs.length → ∀ cs, CsRel w I ρ (xs.getD k .undef).flat cs → CsRel w I' ρ' (ys.getD k .undef).flat cs) → ∀ cs, CsRel w I ρ (AV.flatL xs) cs → CsRel w I' ρ' (AV.flatL ys) cs := by
      intro xs
      induction xs with
      | nil =>
        intro ys hl _ cs hc
        cases ys with
        | nil => exact ⟨hc.1, fun k hk => by simp [AV.flatL] at hk⟩
        | cons y ys => simp at hl
      | cons x xs ih =>
        intro ys hl h cs hc
        cases ys with
        | nil => simp at hl
        | cons y ys =>
          simp only [AV.flatL] at hc ⊢
          obtain ⟨as, bs, rfl, h1, h2⟩ := hc.split
          exact (h 0 (by simp) as h1).append (ih ys (by simpa using hl) (fun k hk => by simpa using h (k + 1) (by simpa using hk)) bs h2)
    exact key xs ys hl ih

theorem Frz.rel (hI : ∀ b, I b → I' b) (hS : ∀ n x, K n → ρ n = some x → ρ' n = some x) (hb : ∀ n blk, Heap.get H n = some blk → BRel w I ρ n blk) (hfz : ∀ n blk b o r, Heap.get H n = some blk → ¬ K n → ρ n = some (b, o, r) → I' b) {x y : AV} (h : Frz K H x y) {c : Value} (hc : XRel w I ρ x c) : XRel w I' ρ' y c := by
  have hf := h.flat hI hS hb hfz
  cases h with
  | same x hx => exact hc.on hI hS hx
  | vcut es len m h1 h2 h3 =>
    have := hf [c] ⟨rfl, fun k hk => by
      have hk0 : k = 0 := by simp [AV.flat] at hk; exact hk
      subst hk0; exact hc⟩
    exact this.2 0 (by simp [AV.flat])
  | sl n off p i len cap wd root es h1 h2 h3 h4 h5 h6 h7 =>
    have := hf [c] ⟨rfl, fun k hk => by
      have hk0 : k = 0 := by simp [AV.flat] at hk; exact hk
      subst hk0; exact hc⟩
    exact this.2 0 (by simp [AV.flat])
  | slc n off p i len cap wd m root es h1 h2 h3 h4 h8 h9 h5 h6 h7 =>
    have := hf [c] ⟨rfl, fun k hk => by
      have hk0 : k = 0 := by simp [AV.flat] at hk; exact hk
      subst hk0; exact hc⟩
    exact this.2 0 (by simp [AV.flat])
  | nil =>
    have hc' : CRel w I ρ .nilsl c := hc
    cases hc'; exact CRel.vsl0 _ _
  | agg xs ys hl h =>
    obtain ⟨cs, rfl, hcs⟩ := hc
    exact ⟨cs, rfl, hf _ hcs⟩

theorem FrzV.rel (hI : ∀ b, I b → I' b) (hS : ∀ n x, K n → ρ n = some x → ρ' n = some x) (hb : ∀ n blk, Heap.get H n = some blk → BRel w I ρ n blk) (hfz : ∀ n blk b o r, Heap.get H n = some blk → ¬ K n → ρ n = some (b, o, r) → I' b) {x y : AV} (h : FrzV K H x y) {c : Value} (hc : VRel w I ρ x c) : VRel w I' ρ' y c := by
  by_cases hx : ∃ vs, x = .tuple vs
  · obtain ⟨xs, rfl⟩ := hx
    by_cases hy : ∃ vs, y = .tuple vs
    · obtain ⟨ys, rfl⟩ := hy
      obtain ⟨cs, rfl, h1, h2⟩ := hc
      have hl := All2.length h
      refine ⟨cs, rfl, by omega, fun k hk => ?_⟩
      exact Frz.rel hI hS hb hfz (All2.get .undef .undef h k (by omega)) (h2 k (by omega))
    · cases y <;> first | exact absurd ⟨_, rfl⟩ hy | exact h.elim
  · have h1 : ∀ vs, x ≠ .tuple vs := fun vs h => hx ⟨vs, h⟩
    have h2 : ∀ vs, y ≠ .tuple vs := fun vs hv => by subst hv; cases x <;> first | exact absurd rfl (h1 _) | exact h.elim
    have h3 : Frz K H x y := by
      cases x <;> first | exact absurd rfl (h1 _) | (cases y <;> first | exact absurd rfl (h2 _) | exact h)
    rw [VRel_eq _ h1] at hc
    rw [VRel_eq _ h2]
    exact h3.rel hI hS hb hfz hc
end
end Go.Proofs.Ytbhhbadeabhfcaa
