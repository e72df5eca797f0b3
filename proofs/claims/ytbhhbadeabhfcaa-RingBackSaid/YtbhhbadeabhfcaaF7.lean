/- A region that draws its order: the rule. -/
import Derived.Test.YtbhhbadeabhfcaaF6
set_option linter.unusedVariables false
set_option linter.unusedSimpArgs false
namespace Go.Proofs.Ytbhhbadeabhfcaa
open Go Go.RowKit

theorem FAt.draws {C : Ctx} {s : FS} {a : Act} {w w' : World} (ha : FAt C s a w) (h1 : w'.heap = w.heap) (h2 : w'.os = w.os) (h3 : w'.tape = w.tape) (h4 : w'.output = w.output) : FAt C s a w' := by
  obtain ⟨I, ρ, hx, hs, ho⟩ := ha.ex
  have hy : Ext (fun _ => False) w w' I I ρ ρ := ⟨h2, h3, h4, by rw [h1]; exact Nat.le_refl _, fun b _ _ => by rw [h1], fun _ h => h, fun _ h => .inl h, fun _ _ h => h⟩
  have hi : Imm (fun _ => False) w I := fun b hb => ⟨(hs.imm b hb).1, fun h => h⟩
  refine ⟨I, ρ, hx.trans hy (fun _ h => h.elim), ⟨hs.sz, fun d v h => ⟨(hs.tmps d v h).1, (hs.tmps d v h).2.mono hy hi⟩, hs.defers, ⟨fun n b h => (hs.heap.rel n b h).mono hy hi fun b' o r hr => ?_, hs.heap.inj⟩, fun b hb => ⟨by rw [h1]; exact (hs.imm b hb).1, (hs.imm b hb).2⟩, hs.fresh⟩, ho⟩
  obtain ⟨b1, o1, r1, g1, g2⟩ := (hs.heap.rel n b h).dom
  rw [hr] at g1; cases g1
  exact ⟨by rw [h1], g2⟩

/-- The state when some of the operations are done. -/
def fsL (s : St) (ops : List Oper) (rs : List (Option Eff)) (last : Nat) (L : Nat → Bool) : FS :=
  { n := s.n, t := tF L 0 ops rs (look s.t), H := hF L 0 rs (Heap.get s.H), fr := fun m => last ≤ m ∨ (s.nx ≤ m ∧ ∀ j e, L j = true → rs[j]? = some (some e) → Heap.get e.put m = none) }

theorem get_map {H : Heap} {n : Nat} {b : ABlk} (h : Heap.get H n = some b) : n ∈ H.map (·.1) := by
  induction H with
  | nil => simp [Heap.get] at h
  | cons x r ih =>
    obtain ⟨m, c⟩ := x
    simp only [Heap.get] at h
    by_cases hm : n = m
    · simp [hm]
    · simp only [hm, if_false] at h
      simp only [List.map_cons, List.mem_cons]
      exact .inr (ih h)

theorem touches_foot {r : Option Eff} {n : Nat} (h : Touches r n) : n ∈ (footOf r).2 := by
  obtain ⟨e, rfl, h⟩ := h
  simp only [footOf, Eff.foot, List.mem_append]
  rcases h with h | h
  · exact .inl h
  · cases hg : Heap.get e.put n with
    | none => exact absurd hg h
    | some b => exact .inr (get_map hg)

section
variable {P : Program} {ops : List Oper} {s s' : St} {rs : List (Option Eff)}

/-- For an operation that is ready: whoever meets it is done just if it stands ahead. -/
theorem meets_side (hlen : rs.length = ops.length) (hc : confOk ops (rs.map footOf) = true) {L : Nat → Bool}
    (hcl : ∀ (j : Nat) (o : Oper), ops[j]? = some o → L j = true → ∀ e, e ∈ o.after.toList → Region.binds .any e = true → L e.on = true)
    {i : Nat} {oi : Oper} {ri : Option Eff} (hi : ops[i]? = some oi) (gi : rs[i]? = some ri) (hn : L i = false) (hr : ∀ e, e ∈ oi.after.toList → Region.binds .any e = true → L e.on = true)
    {j : Nat} {oj : Oper} {rj : Option Eff} (hj : ops[j]? = some oj) (gj : rs[j]? = some rj) (hji : j ≠ i)
    (hm : ∀ x y : Oper, ∀ f g : Foot, (x = oi ∧ y = oj ∧ f = footOf ri ∧ g = footOf rj ∨ x = oj ∧ y = oi ∧ f = footOf rj ∧ g = footOf ri) → ¬ (Oper.apart ops.toArray x y = true ∧ heapApart f g = true)) :
    L j = decide (j < i) := by
  have gi' : (rs.map footOf)[i]? = some (footOf ri) := by simp [gi]
  have gj' : (rs.map footOf)[j]? = some (footOf rj) := by simp [gj]
  rcases Nat.lt_or_ge j i with h | h
  · rcases confOk_spec (by simp [hlen]) hc h hj hi gj' gi' with h1 | h1
    · rw [anc_done hcl i oi hi (.inr hr) h1]; simp [h]
    · exact absurd h1 (hm oj oi _ _ (.inr ⟨rfl, rfl, rfl, rfl⟩))
  · have hlt : i < j := by omega
    have : ¬ j < i := by omega
    simp only [this, decide_false]
    rcases confOk_spec (by simp [hlen]) hc hlt hi hj gi' gj' with h1 | h1
    · cases hL : L j with
      | false => rfl
      | true => rw [anc_done hcl j oj hj (.inl hL) h1] at hn; cases hn
    · exact absurd h1 (hm oi oj _ _ (.inl ⟨rfl, rfl, rfl, rfl⟩))

theorem get_some {α β : Type} {l : List α} {m : List β} (h : m.length = l.length) {j : Nat} {x : α} (hj : l[j]? = some x) : ∃ y, m[j]? = some y := by
  have : j < l.length := by
    rcases Nat.lt_or_ge j l.length with h | h
    · exact h
    · simp [List.getElem?_eq_none h] at hj
  exact ⟨m[j]'(by omega), by simp [h, this]⟩

theorem setL (listed : Array Bool) (i : Nat) (hi : i < listed.size) (j : Nat) : (listed.setIfInBounds i true).getD j false = if j = i then true else listed.getD j false := by
  by_cases h : j = i
  · subst h; simp [hi]
  · rw [getD_set_ne false (Ne.symm h)]; simp [h]

theorem count_set {n : Nat} {L L' : Nat → Bool} {i : Nat} (hi : i < n) (h0 : L i = false) (h1 : L' i = true) (h : ∀ j, j ≠ i → L' j = L j) :
    ((List.range n).filter fun j => !L' j).length + 1 = ((List.range n).filter fun j => !L j).length := by
  induction n with
  | zero => omega
  | succ n ih =>
    rw [List.range_succ, List.filter_append, List.filter_append, List.length_append, List.length_append]
    by_cases hin : i = n
    · subst hin
      have : (List.range i).filter (fun j => !L' j) = (List.range i).filter fun j => !L j := by
        refine List.filter_congr fun j hj => ?_
        rw [List.mem_range] at hj
        rw [h j (by omega)]
      rw [this]
      simp [h0, h1]
    · have := ih (by omega)
      have hn : L' n = L n := h n (fun h => hin h.symm)
      simp only [List.filter_cons, List.filter_nil, hn]
      split <;> simp <;> omega

theorem CRun.final {all : List Oper} : ∀ {l : List Oper} {s : St} {rs : List (Option Eff)} {s' : St}, CRun P all l s rs s' → ∀ k,
    look s'.t = tF (fun _ => true) k l rs (look s.t) ∧ Heap.get s'.H = hF (fun _ => true) k rs (Heap.get s.H)
  | [], s, rs, s', h, k => by obtain ⟨rfl, rfl⟩ := h; exact ⟨rfl, rfl⟩
  | o :: os, s, [], s', h, _ => h.elim
  | o :: os, s, some e :: rs, s', h, k => by
    obtain ⟨_, nx, _, h2, h⟩ := h
    obtain ⟨g1, g2⟩ := CRun.final h (k + 1)
    refine ⟨?_, ?_⟩
    · rw [g1]; simp only [tF, if_true, St.app, look_put, valOf]
    · rw [g2]; simp only [hF, if_true, St.app, get_app]
  | o :: os, s, none :: rs, s', h, k => by
    obtain ⟨_, h⟩ := h
    obtain ⟨g1, g2⟩ := CRun.final (all := all) (l := os) (s := { s with t := Env.put s.t o.dst (.tuple []) }) (rs := rs) (s' := s') h (k + 1)
    refine ⟨?_, ?_⟩
    · rw [g1]; simp only [tF, if_true, look_put, valOf]
    · rw [g2]; simp only [hF, if_true]; rfl

theorem AWp.regionD {id : Nat} {Q : Exit → St → Prop} (hm : P.follows .mixedOrders = true) (hd : (ops.all (dstOk s.n)) = true)
    (h : AOpsD P ops ops s [] (fun L s' => confOk ops L = true ∧ Q .normal s')) : AWp P (.region id ops.toArray true) s Q := by
  intro C a w ha
  obtain ⟨rs, s', hrun, hc, hQ⟩ := AOpsD.run ops s [] h
  simp only [List.nil_append] at hc
  have hlen := hrun.length
  have hfin := hrun.final 0
  have hnm0 : ∀ m x, Heap.get s.H m = some x → m < s.nx := by
    intro m x hx
    obtain ⟨I, ρ, _, hs, _⟩ := ha.ex
    obtain ⟨b, o, r, h1, _⟩ := (hs.heap.rel m x hx).dom
    rcases Nat.lt_or_ge m s.nx with h | h
    · exact h
    · rw [hs.fresh m h] at h1; cases h1
  have hst := fun i o hi => CRun.stands (P := P) (all := ops) (s0 := s) (s' := s') ops s rs [] [] rfl rfl (by simp [tF]) (by simp [hF]) (Nat.le_refl _) rfl (by simp) hnm0 hrun i o hi
  simp only [List.length_nil, Nat.zero_add, List.nil_append] at hst
  refine wp_region_any hm ?_
  have ha' : FAt C s.fs a { w with drawn := w.drawn + 1 } := ha.draws rfl rfl rfl rfl
  generalize hw' : ({ w with drawn := w.drawn + 1 } : World) = w' at ha'
  clear ha hw' w
  have hall : ∀ (listed : Array Bool), listed.size = ops.length → Region.ready .any ops.toArray listed = [] → ∀ j, j < ops.length → listed.getD j false = true := by
    intro listed hsz hr j
    induction j using Nat.strongRecOn with
    | _ j ih =>
      intro hj
      cases hL : listed.getD j false with
      | true => rfl
      | false =>
        exfalso
        have : j ∈ Region.ready .any ops.toArray listed := by
          rw [mem_ready]
          refine ⟨?_, ops[j], by simp [hj], fun e he hb => ?_⟩
          · have hj' : j < listed.size := by omega
            simpa [Array.getD_eq_getD_getElem?, hj'] using hL
          · have hlt := confOk_edges (by simp [hlen]) hc (j := j) (oj := ops[j]) (by simp [hj]) e (Array.mem_toList_iff.2 he) hb
            exact ih e.on hlt (by omega)
        rw [hr] at this; cases this
  have hend : ∀ (listed : Array Bool) (a : Act) (w : World), (∀ j, j < ops.length → listed.getD j false = true) →
      FAt C (fsL s ops rs s'.nx fun j => listed.getD j false) a w → ∃ s', Q .normal s' ∧ At C s' a w := by
    intro listed a w hj hA
    refine ⟨s', hQ, hA.weaken ?_ ?_ (fun n hn => .inl hn) hrun.nx.2⟩
    · intro d v hv
      refine Eq.trans ?_ hv
      show tF (fun j => listed.getD j false) 0 ops rs (look s.t) d = look s'.t d
      rw [hfin.1]
      refine tF_congr ops rs 0 _ _ rfl fun j o' h1 h2 _ => ?_
      simpa using hj j (by omega)
    · intro d v hv
      refine Eq.trans ?_ hv
      show hF (fun j => listed.getD j false) 0 rs (Heap.get s.H) d = Heap.get s'.H d
      rw [hfin.2]
      refine hF_congr rs 0 _ _ rfl fun j r h1 _ => ?_
      have h2 : j < rs.length := by
        rcases Nat.lt_or_ge j rs.length with h | h
        · exact h
        · simp [List.getElem?_eq_none h] at h1
      simpa using hj j (by omega)
  have key : ∀ (fuel : Nat) (listed : Array Bool) (a : Act) (w : World), listed.size = ops.length →
      (∀ (j : Nat) (o : Oper), ops[j]? = some o → listed.getD j false = true → ∀ e, e ∈ o.after.toList → Region.binds .any e = true → listed.getD e.on false = true) →
      ((List.range ops.length).filter fun j => !listed.getD j false).length ≤ fuel →
      FAt C (fsL s ops rs s'.nx fun j => listed.getD j false) a w →
      wpAny P .any ops.toArray (fun e a' w' => ∃ s', Q e s' ∧ At C s' a' w') fuel listed a w := by
    intro fuel
    induction fuel with
    | zero =>
      intro listed a w hsz hcl hcnt hA
      have hj : ∀ j, j < ops.length → listed.getD j false = true := by
        intro j hj
        cases hL : listed.getD j false with
        | true => rfl
        | false =>
          have : j ∈ (List.range ops.length).filter fun j => !listed.getD j false := by simp [hj]; simpa using hL
          have := List.length_pos_of_mem this
          omega
      refine ⟨?_, hend listed a w hj hA⟩
      rw [List.eq_nil_iff_forall_not_mem]
      intro j hjr
      rw [mem_ready] at hjr
      obtain ⟨h0, o, ho, _⟩ := hjr
      have hlt : j < ops.length := by
        rcases Nat.lt_or_ge j ops.length with h | h
        · exact h
        · simp [List.getElem?_eq_none h] at ho
      have h1 := hj j hlt
      simp [Array.getD_eq_getD_getElem?, hsz, hlt] at h0 h1
      rw [h0] at h1; cases h1
    | succ fuel ih =>
      intro listed a w hsz hcl hcnt hA
      refine ⟨fun hr => hend listed a w (hall listed hsz hr) hA, fun i hi => ?_⟩
      rw [mem_ready] at hi
      obtain ⟨h0, o, ho, hafter⟩ := hi
      have ho' : ops[i]? = some o := by simpa using ho
      have hlt : i < ops.length := by
        rcases Nat.lt_or_ge i ops.length with h | h
        · exact h
        · simp [List.getElem?_eq_none h] at ho'
      have hL : listed.getD i false = false := by
        simpa [Array.getD_eq_getD_getElem?, hsz, hlt] using h0
      have hr : ∀ e, e ∈ o.after.toList → Region.binds .any e = true → listed.getD e.on false = true := fun e he hb => hafter e (Array.mem_toList_iff.1 he) hb
      obtain ⟨r, s1, s2, hri, hS⟩ := hst i o ho'
      -- who meets this operation
      have side : ∀ (j : Nat) (oj : Oper) (rj : Option Eff), ops[j]? = some oj → rs[j]? = some rj → j ≠ i →
          (∀ x y : Oper, ∀ f g : Foot, (x = o ∧ y = oj ∧ f = footOf r ∧ g = footOf rj ∨ x = oj ∧ y = o ∧ f = footOf rj ∧ g = footOf r) → ¬ (Oper.apart ops.toArray x y = true ∧ heapApart f g = true)) →
          listed.getD j false = decide (j < i) :=
        fun j oj rj g1 g2 g3 g4 => meets_side hlen hc (L := fun j => listed.getD j false) hcl ho' hri hL hr g1 g2 g3 g4
      have sideDst : ∀ (j : Nat) (oj : Oper) (d : Nat), ops[j]? = some oj → oj.dst = some d → (d ∈ o.looksAt ops.toArray ∨ o.dst = some d) → j ≠ i → listed.getD j false = decide (j < i) := by
        intro j oj d g1 g2 g3 g4
        obtain ⟨rj, grj⟩ := get_some hlen g1
        refine side j oj rj g1 grj g4 ?_
        rintro x y f g (⟨rfl, rfl, _, _⟩ | ⟨rfl, rfl, _, _⟩) ⟨hap, _⟩
        · obtain ⟨k1, k2, k3⟩ := Oper.apart_spec hap
          rcases g3 with g3 | g3
          · exact k3 d g2 g3
          · exact k2 d g3 g2
        · obtain ⟨k1, k2, k3⟩ := Oper.apart_spec hap
          rcases g3 with g3 | g3
          · exact k1 d g2 g3
          · exact k2 d g2 g3
      have sideH : ∀ (j : Nat) (rj : Option Eff) (n : Nat), rs[j]? = some rj → Touches rj n → (n ∈ (footOf r).1 ∨ n ∈ (footOf r).2) → j ≠ i → listed.getD j false = decide (j < i) := by
        intro j rj n g1 g2 g3 g4
        obtain ⟨oj, goj⟩ := get_some (l := rs) (m := ops) hlen.symm g1
        refine side j oj rj goj g1 g4 ?_
        have g2' := touches_foot g2
        rintro x y f g (⟨rfl, rfl, rfl, rfl⟩ | ⟨rfl, rfl, rfl, rfl⟩) ⟨_, hap⟩ <;>
          (simp only [heapApart, Bool.and_eq_true, Bool.not_eq_true'] at hap
           rcases g3 with g3 | g3
           · first | exact meets_false hap.2 g3 g2' | exact meets_false hap.1.2 g2' g3
           · first | exact meets_false hap.1.1 g3 g2' | exact meets_false hap.1.1 g2' g3)
      -- what it reads stands as in the text's order
      have hslot : ∀ d, (d ∈ o.looksAt ops.toArray ∨ o.dst = some d) → (tF (fun j => listed.getD j false) 0 ops rs (look s.t)) d = look s1.t d := by
        intro d hd
        rw [hS.t]
        refine tF_congr ops rs 0 _ _ rfl fun j oj g1 g2 g3 => ?_
        simp only [Nat.zero_add]
        by_cases hji : j = i
        · subst hji; rw [hL]; simp
        · exact sideDst j oj d g1 g3 hd hji
      have hname : ∀ n, (n ∈ (footOf r).1 ∨ n ∈ (footOf r).2) → (hF (fun j => listed.getD j false) 0 rs (Heap.get s.H)) n = Heap.get s1.H n := by
        intro n hn
        rw [hS.h]
        refine hF_congr rs 0 _ _ rfl fun j rj g1 g2 => ?_
        simp only [Nat.zero_add]
        by_cases hji : j = i
        · subst hji; rw [hL]; simp
        · exact sideH j rj n g1 g2 hn hji
      -- the state behind
      have hT' : tF (fun j => (listed.setIfInBounds i true).getD j false) 0 ops rs (look s.t) = fun d => if o.dst = some d then some (valOf r) else tF (fun j => listed.getD j false) 0 ops rs (look s.t) d := by
        funext d
        by_cases hd : o.dst = some d
        · simp only [hd, if_true]
          have : look s2.t d = some (valOf r) := by rw [hS.app]; simp [hd]
          rw [← this, hS.t1]
          refine tF_congr ops rs 0 _ _ rfl fun j oj g1 g2 g3 => ?_
          simp only [Nat.zero_add]
          rw [setL _ _ (by omega)]
          by_cases hji : j = i
          · subst hji; simp
          · simp only [hji, if_false]
            rw [sideDst j oj d g1 g3 (.inr hd) hji]
            simp only [decide_eq_decide]; omega
        · simp only [hd, if_false]
          refine tF_congr ops rs 0 _ _ rfl fun j oj g1 g2 g3 => ?_
          simp only [Nat.zero_add]
          rw [setL _ _ (by omega)]
          by_cases hji : j = i
          · subst hji; rw [ho'] at g1; cases g1; exact absurd g3 hd
          · simp [hji]
      have hH' : hF (fun j => (listed.setIfInBounds i true).getD j false) 0 rs (Heap.get s.H) = hApp r (hF (fun j => listed.getD j false) 0 rs (Heap.get s.H)) := by
        funext n
        by_cases hn : Touches r n
        · rw [hApp_near hn (b' := Heap.get s1.H), ← hS.apph, hS.h1]
          refine hF_congr rs 0 _ _ rfl fun j rj g1 g2 => ?_
          simp only [Nat.zero_add]
          rw [setL _ _ (by omega)]
          by_cases hji : j = i
          · subst hji; simp
          · simp only [hji, if_false]
            rw [sideH j rj n g1 g2 (.inr (touches_foot hn)) hji]
            simp only [decide_eq_decide]; omega
        · rw [hApp_far hn]
          refine hF_congr rs 0 _ _ rfl fun j rj g1 g2 => ?_
          simp only [Nat.zero_add]
          rw [setL _ _ (by omega)]
          by_cases hji : j = i
          · subst hji; rw [hri] at g1; cases g1; exact absurd g2 hn
          · simp [hji]
      have hdst : ∀ d, o.dst = some d → d < s.n := by
        rw [List.all_eq_true] at hd
        exact dstOk_spec (hd o (List.mem_of_getElem? ho'))
      have next : ∀ a' w', FAt C (fsL s ops rs s'.nx fun j => (listed.setIfInBounds i true).getD j false) a' w' →
          wpAny P .any ops.toArray (fun e a' w' => ∃ s', Q e s' ∧ At C s' a' w') fuel (listed.setIfInBounds i true) a' w' := by
        intro a' w' hA'
        refine ih _ a' w' (by simp [hsz]) ?_ ?_ hA'
        · intro j oj g1 g2 e ge hb
          rw [setL _ _ (by omega)] at g2 ⊢
          by_cases hji : j = i
          · subst hji
            rw [ho'] at g1; cases g1
            have := hr e ge hb
            by_cases he : e.on = j
            · rw [if_pos he]
            · rw [if_neg he]; exact this
          · simp only [hji, if_false] at g2
            have := hcl j oj g1 g2 e ge hb
            by_cases he : e.on = i
            · rw [if_pos he]
            · rw [if_neg he]; exact this
        · have := count_set (n := ops.length) (L := fun j => listed.getD j false) (L' := fun j => (listed.setIfInBounds i true).getD j false) hlt hL (by simp [hsz, hlt]) (fun j hj => by
            show (listed.setIfInBounds i true).getD j false = _
            rw [setL _ _ (by omega)]; simp [hj])
          omega
      -- its guard
      have hguard : Region.wanted o (yielded ops.toArray a.tmps) = (match r with | some _ => true | none => false) := by
        have hg := hS.guard
        cases hgo : o.guard with
        | none =>
          simp only [hgo] at hg
          cases r with
          | none => exact absurd rfl hg
          | some e => simp [Region.wanted, hgo]
        | some jw =>
          obtain ⟨g, want⟩ := jw
          simp only [hgo] at hg
          obtain ⟨b, hb, hbw⟩ := hg
          have hy : yielded ops.toArray a.tmps g = b := by
            cases hgd : (ops[g]?).bind (·.dst) with
            | none => simp [hgd, gdBool] at hb
            | some d =>
              simp only [hgd, Option.bind_some] at hb
              have hlook : d ∈ o.looksAt ops.toArray := by
                simp [Oper.looksAt, hgo, hgd]
              obtain ⟨I, ρ, hx, hs, hoo⟩ := hA.ex
              have hbv : gdBool ((fsL s ops rs s'.nx fun j => listed.getD j false).t d) = some b := by
                have e := hslot d (.inl hlook)
                exact (congrArg gdBool e).trans hb
              cases hv : (fsL s ops rs s'.nx fun j => listed.getD j false).t d with
              | none => rw [hv] at hbv; simp [gdBool] at hbv
              | some v =>
                rw [hv] at hbv
                obtain ⟨k1, k2⟩ := hs.tmps d v hv
                have k3 := gdBool_rel hbv k2
                have k4 : a.tmps[d]? = some (a.tmps.getD d Go.undef) := by
                  simp [Array.getD_eq_getD_getElem?, Array.getElem?_eq_getElem k1]
                unfold yielded
                simp only [List.getElem?_toArray, hgd, Option.bind_some, k4]
                exact k3
          have : Region.wanted o (yielded ops.toArray a.tmps) = (b == some want) := by simp [Region.wanted, hgo, hy]
          rw [this]
          cases r with
          | none => simpa using hbw
          | some e => simpa using hbw
      unfold wpOp
      simp only [List.getElem?_toArray, ho', hguard]
      cases r with
      | none =>
        simp only [Bool.false_eq_true, if_false]
        refine next _ _ ?_
        have := hA.skip o.dst hdst
        have e1 : (fsL s ops rs s'.nx fun j => (listed.setIfInBounds i true).getD j false).t = fun d => if o.dst = some d then some (AV.tuple []) else (fsL s ops rs s'.nx fun j => listed.getD j false).t d := hT'
        refine this.weaken (fun d v hv => by rw [e1] at hv; exact hv) (fun n b hb => ?_) (fun n hn => ?_) rfl
        · have : (fsL s ops rs s'.nx fun j => (listed.setIfInBounds i true).getD j false).H = hF (fun j => listed.getD j false) 0 rs (Heap.get s.H) := hH'
          rw [this] at hb; exact hb
        · rcases hn with hn | ⟨hn1, hn2⟩
          · exact .inl hn
          · refine .inr ⟨hn1, fun j e hj => hn2 j e ?_⟩
            show (listed.setIfInBounds i true).getD j false = true
            exact getD_set_true hj
      | some e =>
        simp only [if_true]
        refine .inl ?_
        obtain ⟨hls, hok⟩ := hS.ls e rfl
        refine FAt.step (fr := (fsL s ops rs s'.nx fun j => (listed.setIfInBounds i true).getD j false).fr) hA hls ?_ ?_ ⟨?_, ?_, ?_⟩ hdst fun a' w' hA' => next a' w' ?_
        · intro x hx
          cases x with
          | tmp d =>
            have : d ∈ o.looksAt ops.toArray := by
              unfold Oper.looksAt
              exact List.mem_append_left _ (List.mem_filterMap.2 ⟨.tmp d, by simpa using hx, rfl⟩)
            exact (hslot d (.inl this)).symm
          | _ => rfl
        · intro n hn
          refine (hname n ?_).symm
          simp only [footOf, Eff.foot, List.mem_append]
          rcases hn with hn | hn
          · exact .inl hn
          · exact .inr (.inl hn)
        · rintro n (hn | ⟨hn1, hn2⟩)
          · refine ⟨.inl hn, fun x hg => ?_⟩
            by_cases hw : n ∈ e.wr
            · exact hw
            · have := (hok.2.1 n x hg hw).2; have := hS.nx.2.2; omega
          · refine ⟨.inr ⟨hn1, fun j e hj => hn2 j e ?_⟩, fun x hg => absurd (hn2 i e ?_ hri) (by rw [hg]; simp)⟩
            · show (listed.setIfInBounds i true).getD j false = true
              exact getD_set_true hj
            · show (listed.setIfInBounds i true).getD i false = true
              simp [hsz, hlt]
        · intro n x hg hw
          obtain ⟨k1, k2⟩ := hok.2.1 n x hg hw
          refine .inr ⟨Nat.le_trans hS.nx.1 k1, fun j e' hj gj => ?_⟩
          have hj : listed.getD j false = true := hj
          cases hg' : Heap.get e'.put n with
          | none => rfl
          | some x' =>
            exfalso
            have hji : j ≠ i := by intro h; subst h; rw [hL] at hj; cases hj
            have ht : Touches (some e') n := ⟨e', rfl, .inr (by simp [hg'])⟩
            have := sideH j (some e') n gj ht (.inr (touches_foot ⟨e, rfl, .inr (by simp [hg])⟩)) hji
            rw [hj] at this
            have hlt' : j < i := by simpa using this.symm
            have := hS.prev j e' n x' hlt' gj hg'
            omega
        · intro n hn
          obtain ⟨b, hb⟩ := hok.2.2 n hn
          exact ⟨b, (hname n (.inr (by simp only [footOf, Eff.foot, List.mem_append]; exact .inl hn))).trans hb⟩
        · have e1 : (fsL s ops rs s'.nx fun j => listed.getD j false).app o.dst e (fsL s ops rs s'.nx fun j => (listed.setIfInBounds i true).getD j false).fr = fsL s ops rs s'.nx fun j => (listed.setIfInBounds i true).getD j false := by
            show FS.mk _ _ _ _ = FS.mk _ _ _ _
            congr 1
            · exact hT'.symm
            · exact hH'.symm
          rw [← e1]; exact hA'
  have hnone : ∀ j, (Array.replicate ops.length false).getD j false = false := by
    intro j
    by_cases hj : j < ops.length <;> simp [Array.getD_eq_getD_getElem?, Array.getElem?_replicate, hj]
  have := key ops.length (Array.replicate ops.length false) a w' (by simp) (fun j o _ h => by rw [hnone] at h; cases h) (by
    refine Nat.le_trans (List.length_filter_le _ _) (by simp)) ?_
  · simpa using this
  · refine ha'.weaken (fun d v hv => ?_) (fun d v hv => ?_) (fun n hn => ?_) rfl
    · have : (fsL s ops rs s'.nx fun j => (Array.replicate ops.length false).getD j false).t = look s.t := tF_none _ _ _ _ _ fun j _ => hnone j
      rw [this] at hv; exact hv
    · have : (fsL s ops rs s'.nx fun j => (Array.replicate ops.length false).getD j false).H = Heap.get s.H := hF_none _ _ _ _ fun j _ => hnone j
      rw [this] at hv; exact hv
    · rcases hn with hn | hn
      · exact Nat.le_trans hrun.nx.1 hn
      · exact hn.1
end
end Go.Proofs.Ytbhhbadeabhfcaa
