/- What one operation does, said of the memory that it touches alone; regions in the text's order. -/
import Derived.Test.YtbhhbadeabhfcaaF3
set_option linter.unusedVariables false
set_option linter.unusedSimpArgs false
namespace Go.Proofs.Ytbhhbadeabhfcaa
open Go Go.RowKit

/-- An operation's effect: its value; the names that it reads; those that it writes or that fall away; what then lies there, and what is new. -/
structure Eff where
  v : AV
  rd : List Nat := []
  wr : List Nat := []
  put : Heap := []

def OwnW (ρ : Rho) (wr : List Nat) (b : Nat) : Prop := ∃ n, n ∈ wr ∧ ∃ o r, ρ n = some (b, o, r)

structure LSPost (w : World) (I : Nat → Prop) (ρ : Rho) (e : Eff) (c : Value) (w' : World) (I' : Nat → Prop) (ρ' : Rho) : Prop where
  val : VRel w' I' ρ' e.v c
  blk : ∀ n b, Heap.get e.put n = some b → BRel w' I' ρ' n b
  inj : ∀ n m x y, n ≠ m → Heap.get e.put n = some x → Heap.get e.put m = some y → ∀ b o r b' o' r', ρ' n = some (b, o, r) → ρ' m = some (b', o', r') → b ≠ b'
  own : ∀ n x, Heap.get e.put n = some x → ∀ b o r, ρ' n = some (b, o, r) → OwnW ρ e.wr b ∨ w.heap.size ≤ b
  ext : Ext (OwnW ρ e.wr) w w' I I' ρ ρ'
  lt : ∀ b, I' b → b < w'.heap.size
  fresh : ∀ n, ρ n = none → Heap.get e.put n = none → ρ' n = none

def LS (P : Program) (o : Oper) (ev : Operand → Option AV) (H : Nat → Option ABlk) (e : Eff) : Prop :=
  ∀ (a : Act) (w : World) (I : Nat → Prop) (ρ : Rho), a.defers = [] →
    (∀ x, x ∈ o.op.operands → ∀ v, ev x = some v → VRel w I ρ v (a.eval x)) →
    (∀ n, n ∈ e.rd ∨ n ∈ e.wr → ∀ b, H n = some b → BRel w I ρ n b) →
    (∀ n m x y, n ∈ e.wr → m ∈ e.rd ∨ m ∈ e.wr → n ≠ m → H n = some x → H m = some y →
      ∀ b o r b' o' r', ρ n = some (b, o, r) → ρ m = some (b', o', r') → b ≠ b') →
    Imm (OwnW ρ e.wr) w I →
    (∀ n x, Heap.get e.put n = some x → n ∉ e.wr → ρ n = none) →
    ∀ (K : Act → World → Prop) (Q : Exit → Act → World → Prop),
      (∀ c w' I' ρ', LSPost w I ρ e c w' I' ρ' → K (a.put o.dst c) w') → o.wp P a w K Q

def Heap.del (H : Heap) (n : Nat) : Heap := match H with
  | [] => []
  | (m, b) :: r => if n = m then Heap.del r n else (m, b) :: Heap.del r n
def Heap.dels (H : Heap) : List Nat → Heap
  | [] => H
  | n :: r => Heap.dels (H.del n) r

theorem get_append (A B : Heap) (n : Nat) : Heap.get (A ++ B) n = match Heap.get A n with | some b => some b | none => Heap.get B n := by
  induction A with
  | nil => simp [Heap.get]
  | cons x r ih =>
    obtain ⟨m, b⟩ := x
    simp only [List.cons_append, Heap.get]
    by_cases h : n = m
    · simp [h]
    · simp [h, ih]

theorem get_del (H : Heap) (n m : Nat) : Heap.get (H.del n) m = if m = n then none else Heap.get H m := by
  induction H with
  | nil => simp [Heap.del, Heap.get]
  | cons x r ih =>
    obtain ⟨k, b⟩ := x
    simp only [Heap.del]
    by_cases h : n = k
    · subst h
      simp only [if_true, ih, Heap.get]
      by_cases hm : m = n <;> simp [hm]
    · simp only [h, if_false, Heap.get, ih]
      by_cases hk : m = k
      · subst hk; simp [Ne.symm h]
      · simp [hk]

theorem get_dels (l : List Nat) : ∀ (H : Heap) (m : Nat), Heap.get (H.dels l) m = if m ∈ l then none else Heap.get H m := by
  induction l with
  | nil => intro H m; simp [Heap.dels]
  | cons n r ih =>
    intro H m
    simp only [Heap.dels, ih, get_del, List.mem_cons]
    by_cases h1 : m ∈ r
    · simp [h1]
    · by_cases h2 : m = n <;> simp [h1, h2]

def Env.put (t : Env) (dst : Option Tmp) (v : AV) : Env := match dst with
  | some d => (d, v) :: t
  | none => t

/-- A state behind an effect; nx: the next name. -/
def St.app (s : St) (dst : Option Tmp) (e : Eff) (nx : Nat) : St := { n := s.n, t := Env.put s.t dst e.v, H := e.put ++ s.H.dels e.wr, nx := nx }

/-- A state as functions behind an effect. -/
def FS.app (s : FS) (dst : Option Tmp) (e : Eff) (fr : Nat → Prop) : FS :=
  { n := s.n, t := fun d => if dst = some d then some e.v else s.t d, H := fun n => match Heap.get e.put n with | some b => some b | none => if n ∈ e.wr then none else s.H n, fr := fr }

/-- The names fit: what is written lies there, what is new is new. -/
structure EffFits (s : FS) (e : Eff) (fr : Nat → Prop) : Prop where
  sub : ∀ n, fr n → s.fr n ∧ ∀ x, Heap.get e.put n = some x → n ∈ e.wr
  new : ∀ n x, Heap.get e.put n = some x → n ∉ e.wr → s.fr n
  wr : ∀ n, n ∈ e.wr → ∃ b, s.H n = some b

def EffOk (s : St) (e : Eff) (nx : Nat) : Prop :=
  s.nx ≤ nx ∧ (∀ n x, Heap.get e.put n = some x → n ∉ e.wr → s.nx ≤ n ∧ n < nx) ∧ (∀ n, n ∈ e.wr → ∃ b, Heap.get s.H n = some b)

theorem EffOk.fits {s : St} {e : Eff} {nx : Nat} (h : EffOk s e nx) : EffFits s.fs e (fun n => nx ≤ n) where
  sub := fun n hn => ⟨Nat.le_trans h.1 hn, fun x hg => by
    by_cases hw : n ∈ e.wr
    · exact hw
    · have := (h.2.1 n x hg hw).2; omega⟩
  new := fun n x h1 h2 => (h.2.1 n x h1 h2).1
  wr := h.2.2

theorem Act.put_size (a : Act) (dst : Option Tmp) (v : Value) : (a.put dst v).tmps.size = a.tmps.size := by
  cases dst <;> simp [Act.put]

theorem Act.put_getD (a : Act) (d : Nat) (v : Value) (x : Nat) : (a.put (some d) v).tmps.getD x Go.undef = if x = d ∧ x < a.tmps.size then v else a.tmps.getD x Go.undef := by
  simp only [Act.put, Array.getD_eq_getD_getElem?, Array.getElem?_setIfInBounds]
  by_cases h : d = x
  · subst h
    by_cases h2 : d < a.tmps.size
    · simp [h2]
    · simp [h2]
  · simp [h, Ne.symm h]

/-- A state at which an operation is done; the frame has room for its slot. -/
def Fits (ntmps : Nat) (o : Oper) : Prop := ∀ d, o.dst = some d → d < ntmps

section
variable {P : Program}

theorem FAt.step {C : Ctx} {s : FS} {a : Act} {w : World} {o : Oper} {e : Eff} {fr : Nat → Prop} {ev : Operand → Option AV} {H : Nat → Option ABlk} (ha : FAt C s a w) (hl : LS P o ev H e)
    (hev : ∀ x, x ∈ o.op.operands → ev x = evF s.t x) (hH : ∀ n, n ∈ e.rd ∨ n ∈ e.wr → H n = s.H n) (hok : EffFits s e fr)
    (hd : ∀ d, o.dst = some d → d < s.n) {K : Act → World → Prop} {Q : Exit → Act → World → Prop}
    (hK : ∀ a' w', FAt C (s.app o.dst e fr) a' w' → K a' w') : o.wp P a w K Q := by
  obtain ⟨I, ρ, hx, hs, ho⟩ := ha.ex
  have hsub : ∀ b, OwnW ρ e.wr b → Owns ρ s.H b := by
    rintro b ⟨n, hn, o', r', hr⟩
    obtain ⟨blk, hb⟩ := hok.wr n hn
    exact ⟨n, blk, o', r', hb, hr⟩
  have himm : Imm (OwnW ρ e.wr) w I := fun b hb => ⟨(hs.imm b hb).1, fun h => (hs.imm b hb).2 (hsub b h)⟩
  refine hl a w I ρ hs.defers (fun x hx v h => hs.ev (hev x hx ▸ h)) (fun n hn b hb => hs.heap.rel n b (hH n hn ▸ hb))
    (fun n m x y hn hm hnm h1 h2 => hs.heap.inj n m x y hnm (hH n (.inr hn) ▸ h1) (hH m hm ▸ h2))
    himm (fun n x h1 h2 => hs.fresh n (hok.new n x h1 h2)) K Q ?_
  intro c w' I' ρ' hp
  have hdefined : ∀ n blk, s.H n = some blk → ∃ b o r, ρ n = some (b, o, r) := fun n blk h =>
    let ⟨b, o, r, h1, _⟩ := (hs.heap.rel n blk h).dom; ⟨b, o, r, h1⟩
  have hfar : ∀ n blk, n ∉ e.wr → s.H n = some blk → ∀ b o r, ρ n = some (b, o, r) → ¬ OwnW ρ e.wr b ∧ b < w.heap.size := by
    intro n blk hn hb b o r hr
    refine ⟨?_, (hs.heap.rel n blk hb).lt hr⟩
    rintro ⟨m, hm, o', r', hr'⟩
    obtain ⟨blk', hb'⟩ := hok.wr m hm
    exact hs.heap.inj n m blk blk' (fun h => hn (h ▸ hm)) hb hb' _ _ _ _ _ _ hr hr' rfl
  have hnotI : ∀ b, I' b → ∀ n blk, n ∉ e.wr → s.H n = some blk → ∀ o r, ρ n = some (b, o, r) → False := by
    intro b hb n blk hn hg o r hr
    obtain ⟨h1, h2⟩ := hfar n blk hn hg b o r hr
    rcases hp.ext.new b hb with h | h | h
    · exact (hs.imm b h).2 ⟨n, blk, o, r, hg, hr⟩
    · exact h1 h
    · omega
  have hget : ∀ n b, (s.app o.dst e fr).H n = some b → Heap.get e.put n = some b ∨ (n ∉ e.wr ∧ s.H n = some b) := by
    intro n b h
    simp only [FS.app] at h
    cases hg : Heap.get e.put n with
    | some x => rw [hg] at h; exact .inl h
    | none =>
      simp only [hg] at h
      by_cases hn : n ∈ e.wr <;> simp only [hn, if_true, if_false] at h
      · cases h
      · exact .inr ⟨hn, h⟩
  have hback : ∀ n blk, n ∉ e.wr → s.H n = some blk → ∀ x, ρ' n = some x → ρ n = some x := by
    intro n blk hn hb x hx
    obtain ⟨b, o, r, hr⟩ := hdefined n blk hb
    rw [hp.ext.rho n _ hr] at hx; cases hx; exact hr
  refine hK _ _ ⟨I', ρ', hx.trans hp.ext (fun b hb => ho b (hsub b hb)), ⟨(Act.put_size _ _ _).trans hs.sz, ?_, ?_, ⟨?_, ?_⟩, ?_, ?_⟩, ?_⟩
  · -- slots
    intro d v hv
    simp only [FS.app] at hv
    by_cases hdd : o.dst = some d
    · simp only [hdd, if_true, Option.some.injEq] at hv
      subst hv
      have ht : d < a.tmps.size := hs.sz ▸ hd d hdd
      refine ⟨by rw [Act.put_size]; exact ht, ?_⟩
      rw [hdd, Act.put_getD, if_pos ⟨rfl, ht⟩]; exact hp.val
    · simp only [hdd, if_false] at hv
      obtain ⟨h1, h2⟩ := hs.tmps d v hv
      refine ⟨by rw [Act.put_size]; exact h1, ?_⟩
      cases hdst : o.dst with
      | none => simpa [Act.put] using h2.mono hp.ext himm
      | some t =>
        rw [Act.put_getD, if_neg (fun h => hdd (by rw [hdst, h.1]))]
        exact h2.mono hp.ext himm
  · cases o.dst <;> exact hs.defers
  · -- blocks
    intro n b h
    rcases hget n b h with h | ⟨h1, h2⟩
    · exact hp.blk n b h
    · refine (hs.heap.rel n b h2).mono hp.ext himm ?_
      intro bb oo rr hr
      obtain ⟨h3, h4⟩ := hfar n b h1 h2 bb oo rr hr
      exact ⟨hp.ext.keep bb h4 h3, fun hI => hnotI bb hI n b h1 h2 oo rr hr⟩
  · -- apart
    intro n m x y hnm h1 h2 b o r b' o' r' hr hr'
    rcases hget n x h1 with g1 | ⟨g1, g1'⟩ <;> rcases hget m y h2 with g2 | ⟨g2, g2'⟩
    · exact hp.inj n m x y hnm g1 g2 b o r b' o' r' hr hr'
    · obtain ⟨k1, k2⟩ := hfar m y g2 g2' b' o' r' (hback m y g2 g2' _ hr')
      intro he
      subst he
      exact (hp.own n x g1 b o r hr).elim k1 (fun h => by omega)
    · obtain ⟨k1, k2⟩ := hfar n x g1 g1' b o r (hback n x g1 g1' _ hr)
      intro he
      subst he
      exact (hp.own m y g2 b o' r' hr').elim k1 (fun h => by omega)
    · exact hs.heap.inj n m x y hnm g1' g2' b o r b' o' r' (hback n x g1 g1' _ hr) (hback m y g2 g2' _ hr')
  · -- the immutable
    intro b hb
    refine ⟨hp.lt b hb, ?_⟩
    rintro ⟨n, blk, o, r, h1, h2⟩
    rcases hget n blk h1 with g | ⟨g1, g2⟩
    · obtain ⟨b1, o1, r1, h3, h4⟩ := (hp.blk n blk g).dom
      rw [h2] at h3; cases h3; exact h4 hb
    · exact hnotI b hb n blk g1 g2 o r (hback n blk g1 g2 _ h2)
  · -- new names
    intro n hn
    have hf := hs.fresh n (hok.sub n hn).1
    refine hp.fresh n hf ?_
    cases hg : Heap.get e.put n with
    | none => rfl
    | some x =>
      obtain ⟨b, hb⟩ := hok.wr n ((hok.sub n hn).2 x hg)
      obtain ⟨b1, o1, r1, h1⟩ := hdefined n b hb
      rw [hf] at h1; cases h1
  · rintro b ⟨n, blk, o, r, h1, h2⟩
    rcases hget n blk h1 with g | ⟨g1, g2⟩
    · rcases hp.own n blk g b o r h2 with h | h
      · exact ho b (hsub b h)
      · exact .inr (Nat.le_trans hx.size h)
    · exact ho b ⟨n, blk, o, r, g2, hback n blk g1 g2 _ h2⟩

theorem St.app_fs (s : St) (dst : Option Tmp) (e : Eff) (nx : Nat) : (s.app dst e nx).fs = s.fs.app dst e (fun n => nx ≤ n) := by
  simp only [St.fs, St.app, FS.app, FS.mk.injEq, true_and, and_true]
  constructor
  · funext d
    cases dst with
    | none => simp [Env.put]
    | some t =>
      simp only [Env.put, look, Option.some.injEq]
      by_cases h : d = t
      · simp [h]
      · simp [h, Ne.symm h]
  · funext n
    rw [get_append, get_dels]

theorem At.step {C : Ctx} {s : St} {a : Act} {w : World} {o : Oper} {e : Eff} {nx : Nat} (ha : At C s a w) (hl : LS P o s.ev (Heap.get s.H) e) (hok : EffOk s e nx)
    (hd : ∀ d, o.dst = some d → d < s.n) {K : Act → World → Prop} {Q : Exit → Act → World → Prop}
    (hK : ∀ a' w', At C (s.app o.dst e nx) a' w' → K a' w') : o.wp P a w K Q :=
  FAt.step ha hl (fun _ _ => rfl) (fun _ _ => rfl) hok.fits hd fun a' w' h => hK a' w' (by rw [At, St.app_fs]; exact h)

theorem FAt.skip {C : Ctx} {s : FS} {a : Act} {w : World} (ha : FAt C s a w) (dst : Option Tmp) (hd : ∀ d, dst = some d → d < s.n) :
    FAt C { s with t := fun d => if dst = some d then some (.tuple []) else s.t d } (a.put dst Go.undef) w := by
  obtain ⟨I, ρ, hx, hs, ho⟩ := ha.ex
  refine ⟨I, ρ, hx, ⟨(Act.put_size _ _ _).trans hs.sz, ?_, ?_, hs.heap, hs.imm, hs.fresh⟩, ho⟩
  · intro d v hv
    by_cases hdd : dst = some d
    · simp only [hdd, if_true, Option.some.injEq] at hv
      subst hv
      have ht : d < a.tmps.size := hs.sz ▸ hd d hdd
      refine ⟨by rw [Act.put_size]; exact ht, ?_⟩
      rw [hdd, Act.put_getD, if_pos ⟨rfl, ht⟩]; exact ⟨#[], rfl, rfl, fun k hk => absurd hk (Nat.not_lt_zero k)⟩
    · simp only [hdd, if_false] at hv
      obtain ⟨h1, h2⟩ := hs.tmps d v hv
      refine ⟨by rw [Act.put_size]; exact h1, ?_⟩
      cases hdst : dst with
      | none => simpa [Act.put] using h2
      | some t =>
        rw [Act.put_getD, if_neg (fun h => hdd (by rw [hdst, h.1]))]
        exact h2
  · cases dst <;> exact hs.defers

theorem look_put (t : Env) (dst : Option Tmp) (v : AV) : look (Env.put t dst v) = fun d => if dst = some d then some v else look t d := by
  funext d
  cases dst with
  | none => simp [Env.put]
  | some x =>
    simp only [Env.put, look, Option.some.injEq]
    by_cases h : d = x
    · simp [h]
    · simp [h, Ne.symm h]

theorem At.skip {C : Ctx} {s : St} {a : Act} {w : World} (ha : At C s a w) (dst : Option Tmp) (hd : ∀ d, dst = some d → d < s.n) :
    At C { s with t := Env.put s.t dst (.tuple []) } (a.put dst Go.undef) w := by
  have := FAt.skip ha dst hd
  simpa only [At, St.fs, look_put] using this

/-- One operation that is done. -/
def AStep (P : Program) (o : Oper) (s : St) (K : St → Prop) : Prop :=
  ∃ e nx, LS P o s.ev (Heap.get s.H) e ∧ EffOk s e nx ∧ K (s.app o.dst e nx)

def dstOk (n : Nat) (o : Oper) : Bool := match o.dst with | some d => d < n | none => true
theorem dstOk_spec {n : Nat} {o : Oper} (h : dstOk n o = true) : ∀ d, o.dst = some d → d < n := by
  intro d hd
  simpa [dstOk, hd] using h

/-- What a guard's slot says: the empty tuple stands where an operation was skipped. -/
def gdBool : Option AV → Option (Option Bool)
  | some (.bool b) => some (some b)
  | some (.tuple []) => some none
  | _ => none
theorem gdBool_rel {w : World} {I : Nat → Prop} {ρ : Rho} {v : AV} {c : Value} {r : Option Bool} (h : gdBool (some v) = some r) (hc : VRel w I ρ v c) : (match some c with | some (.bool b) => some b | _ => none) = r := by
  cases v <;> simp only [gdBool, Option.some.injEq, reduceCtorEq] at h
  · subst h; rw [hc.bool_inv]
  · rename_i vs
    cases vs with
    | nil =>
      simp only [gdBool, Option.some.injEq] at h
      subst h
      obtain ⟨cs, rfl, _⟩ := hc
      rfl
    | cons _ _ => simp [gdBool] at h

/-- Operations in the text's order. -/
def AOps (P : Program) (all : List Oper) : List Oper → St → (St → Prop) → Prop
  | [], s, K => K s
  | o :: os, s, K => match o.guard with
    | none => AStep P o s fun s' => AOps P all os s' K
    | some (j, want) => match gdBool (((all[j]?).bind (·.dst)).bind (look s.t)) with
      | some b => if b = some want then AStep P o s fun s' => AOps P all os s' K else AOps P all os { s with t := Env.put s.t o.dst (.tuple []) } K
      | _ => False

theorem wanted_none {all : Array Oper} {o : Oper} {t : Array Value} (h : o.guard = none) : Region.wanted o (yielded all t) = true := by
  simp [Region.wanted, h]

theorem yielded_of {C : Ctx} {s : St} {a : Act} {w : World} (ha : At C s a w) {all : List Oper} {j : Nat} {b : Option Bool}
    (h : gdBool (((all[j]?).bind (·.dst)).bind (look s.t)) = some b) : yielded all.toArray a.tmps j = b := by
  obtain ⟨I, ρ, hx, hs, ho⟩ := ha.ex
  cases hd : (all[j]?).bind (·.dst) with
  | none => simp [hd, gdBool] at h
  | some d =>
    simp only [hd, Option.bind_some] at h
    cases hv : look s.t d with
    | none => simp [hv, gdBool] at h
    | some v =>
      rw [hv] at h
      obtain ⟨h1, h2⟩ := hs.tmps d v hv
      have h3 := gdBool_rel h h2
      have h4 : a.tmps[d]? = some (a.tmps.getD d Go.undef) := by
        simp [Array.getD_eq_getD_getElem?, Array.getElem?_eq_getElem h1]
      unfold yielded
      simp only [List.getElem?_toArray, hd, Option.bind_some, h4]
      exact h3

theorem AOps.sound {C : Ctx} {all : List Oper} {K : St → Prop} {Q : Exit → Act → World → Prop} (hQ : ∀ s a w, K s → At C s a w → Q .normal a w) :
    ∀ (l : List Oper) (k : Nat), (∀ i, l[i]? = all[k + i]?) → ∀ (n : Nat), (l.all (dstOk n)) = true → ∀ (s : St) (a : Act) (w : World), s.n = n → At C s a w → AOps P all l s K →
      wpOps P all.toArray Q (List.range' k l.length) a w
  | [], k, hl, n, hd, s, a, w, hn, ha, h => by simpa [wpOps] using hQ s a w h ha
  | o :: os, k, hl, n, hd, s, a, w, hn, ha, h => by
    have hk : all[k]? = some o := by simpa using (hl 0).symm
    have hl' : ∀ i, os[i]? = all[k + 1 + i]? := fun i => by
      have := hl (i + 1)
      simp only [List.getElem?_cons_succ] at this
      rw [this]; congr 1; omega
    simp only [List.all_cons, Bool.and_eq_true] at hd
    have hdo := dstOk_spec hd.1
    have go : AStep P o s (fun s' => AOps P all os s' K) → o.wp P a w (wpOps P all.toArray Q (List.range' (k + 1) os.length)) Q := by
      rintro ⟨e, nx, h1, h2, h3⟩
      refine ha.step h1 h2 (hn ▸ hdo) fun a' w' ha' => ?_
      exact AOps.sound hQ os (k + 1) hl' n hd.2 (s.app o.dst e nx) a' w' hn ha' h3
    rw [List.length_cons, List.range'_succ]
    simp only [wpOps, List.getElem?_toArray, hk]
    simp only [AOps] at h
    cases hg : o.guard with
    | none =>
      simp only [hg] at h
      rw [wanted_none hg, if_pos rfl]
      exact .inl (go h)
    | some jw =>
      obtain ⟨j, want⟩ := jw
      simp only [hg] at h
      split at h
      · rename_i b hb
        have hy := yielded_of ha hb
        have hw : Region.wanted o (yielded all.toArray a.tmps) = (b == some want) := by
          simp [Region.wanted, hg, hy]
        rw [hw]
        by_cases hbw : b = some want
        · subst hbw
          simp only [if_true] at h
          simp only [beq_self_eq_true, if_true]
          exact .inl (go h)
        · simp only [hbw, if_false] at h
          have : (b == some want) = false := by simpa using hbw
          rw [this]
          simp only [Bool.false_eq_true, if_false]
          exact AOps.sound hQ os (k + 1) hl' n hd.2 { s with t := Env.put s.t o.dst (.tuple []) } _ w hn (ha.skip o.dst (hn ▸ hdo)) h
      · exact h.elim

/-- A region in the text's order. -/
theorem AWp.region {id : Nat} {ops : List Oper} {s : St} {Q : Exit → St → Prop} (hd : (ops.all (dstOk s.n)) = true) (h : AOps P ops ops s (Q .normal)) :
    AWp P (.region id ops.toArray false) s Q := by
  intro C a w ha
  refine wp_region ?_
  have := AOps.sound (P := P) (C := C) (all := ops) (K := Q .normal) (Q := fun e a' w' => ∃ s', Q e s' ∧ At C s' a' w') (fun s' a' w' h1 h2 => ⟨s', h1, h2⟩) ops 0 (by simp) s.n hd s a w rfl ha h
  simpa [List.range_eq_range'] using this

end
end Go.Proofs.Ytbhhbadeabhfcaa
