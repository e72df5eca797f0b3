/- Contracts from walks, and calls by contracts. -/
import Derived.Test.YtbhhbadeabhfcaaF17
set_option linter.unusedVariables false
set_option linter.unusedSimpArgs false
namespace Go.Proofs.Ytbhhbadeabhfcaa
open Go Go.RowKit

def argEnv : List AV → Nat → Env
  | [], _ => []
  | a :: as, k => (k, a) :: argEnv as (k + 1)

theorem look_argEnv : ∀ (as : List AV) (k d : Nat) (v : AV), look (argEnv as k) d = some v → k ≤ d ∧ as[d - k]? = some v
  | [], k, d, v, h => by simp [argEnv, look] at h
  | a :: as, k, d, v, h => by
    simp only [argEnv, look] at h
    by_cases hd : d = k
    · subst hd; simp at h; subst h; simp
    · simp only [hd, if_false] at h
      obtain ⟨h1, h2⟩ := look_argEnv as (k + 1) d v h
      refine ⟨by omega, ?_⟩
      have : d - k = (d - (k + 1)) + 1 := by omega
      rw [this]; simpa using h2

/-- A result of a function. -/
def ResOk (P : Program) (s : St) (r : ResultVar) (u : AV) : Prop := match r with
  | .tmp t => look s.t t = some u ∧ ∀ vs, u ≠ .tuple vs
  | .cell a T => ∃ n off p root, look s.t a = some (.ptr n off p) ∧ Heap.get s.H n = some (.cells root) ∧ root.proj p = some u ∧ root.offOf p = off ∧ LoadOk P T u

def packRes : List AV → AV
  | [u] => u
  | us => .tuple us

def BFrz (K : Nat → Prop) (H : Heap) : ABlk → ABlk → Prop
  | .cells x, .cells y => Frz K H x y
  | .map es, .map ds => es = ds ∧ (ABlk.map es).on K
  | _, _ => False

/-- Where a walk of a body must end. -/
def Final (P : Program) (fn : Func) (v : AV) (put : Heap) (e : Exit) (s : St) : Prop :=
  (e = .normal ∨ e = .ret) ∧ ∃ us, All2 (ResOk P s) fn.results.toList us ∧ FrzV (fun n => Heap.get put n ≠ none) s.H (packRes us) v ∧
    ∀ n b, Heap.get put n = some b → ∃ b0, Heap.get s.H n = some b0 ∧ BFrz (fun n => Heap.get put n ≠ none) s.H b0 b

def resSem (tmps : Array Value) : ResultVar → Sem Value
  | .tmp t => pure (tmps.getD t Go.undef)
  | .cell b t => do loadVar t (← asAddr (tmps.getD b Go.undef))

theorem results_eq (fn : Func) (tmps : Array Value) : results fn tmps = (do let vs ← fn.results.mapM (resSem tmps); pure (if h : vs.size = 1 then vs[0] else .tuple vs)) := by
  unfold results
  congr 1

theorem run_result {P : Program} {w : World} {I : Nat → Prop} {ρ : Rho} {s : St} {a : Act} (hs : SRel w I ρ s.fs a) {r : ResultVar} {u : AV} (h : ResOk P s r u) :
    ∃ c, XRel w I ρ u c ∧ (resSem a.tmps r).run P w = .ok c w := by
  cases r with
  | tmp t =>
    obtain ⟨h1, h2⟩ := h
    exact ⟨_, XRel.of_V (hs.tmps t u h1).2 h2, rfl⟩
  | cell b T =>
    obtain ⟨n, off, p, root, h1, h2, h3, h4, h5⟩ := h
    obtain ⟨bb, base, r, hr, hc⟩ := inv_ptr (hs.tmps b _ h1).2
    obtain ⟨b', o', r', hr', hI, hlies⟩ := hs.heap.rel n _ h2
    rw [hr] at hr'; cases hr'
    obtain ⟨arr, E, fz, k1, k2, k3, k4, k5⟩ := hlies.ex
    obtain ⟨pre, post, g1, g2, _⟩ := AV.flat_at p root u h3
    have hlen : root.flat.length = pre.length + u.size + post.length := by rw [g2]; simp [AV.flat_length]; omega
    obtain ⟨c, q1, q2⟩ := run_loadVar' (P := P) (w := w) (I := I) (ρ := ρ) (T := T) (u := u) (b := bb) (off := base + off) (f := fun k => arr.getD (base + off + k) Go.undef) h5
      (fun k hk => by
        have hlt : base + off + k < arr.size := by omega
        simp [World.cell?, k1, Array.getD_eq_getD_getElem?, Array.getElem?_eq_getElem hlt])
      (fun k hk => by
        have := k5 (pre.length + k) (by omega)
        rw [g2, getD_mid _ _ _ _ _ (by rw [AV.flat_length]; exact hk), g1, h4] at this
        rwa [Nat.add_assoc])
    have ht : ∀ vs, u ≠ .tuple vs := fun vs h => by subst h; exact h5
    refine ⟨c, XRel.of_V q1 ht, ?_⟩
    simp only [resSem, hc, Sem.run_bind, asAddr, Sem.run_pure, Result.andThen_ok, q2]

theorem run_results {P : Program} {w : World} {I : Nat → Prop} {ρ : Rho} {s : St} {a : Act} (hs : SRel w I ρ s.fs a) {fn : Func} {us : List AV} (h : All2 (ResOk P s) fn.results.toList us) :
    ∃ c, VRel w I ρ (packRes us) c ∧ (results fn a.tmps).run P w = .ok c w := by
  have key : ∀ (rs : List ResultVar) (us : List AV), All2 (ResOk P s) rs us → ∃ cs : List Value, (rs.mapM (resSem a.tmps)).run P w = .ok cs w ∧ All2 (XRel w I ρ) us cs := by
    intro rs
    induction rs with
    | nil => intro us h; cases us with
      | nil => exact ⟨[], rfl, trivial⟩
      | cons u us => exact h.elim
    | cons r rs ih => intro us h; cases us with
      | nil => exact h.elim
      | cons u us =>
        obtain ⟨c, h1, h2⟩ := run_result hs h.1
        obtain ⟨cs, h3, h4⟩ := ih us h.2
        exact ⟨c :: cs, by simp only [List.mapM_cons, Sem.run_bind, h2, Result.andThen_ok, h3, Sem.run_pure], h1, h4⟩
  obtain ⟨cs, h1, h2⟩ := key _ _ h
  have hrun : (results fn a.tmps).run P w = .ok (if h : cs.toArray.size = 1 then cs.toArray[0] else .tuple cs.toArray) w := by
    rw [results_eq]
    have e0 : fn.results.mapM (resSem a.tmps) = List.toArray <$> fn.results.toList.mapM (resSem a.tmps) := by
      rw [← List.mapM_toArray]
    rw [e0, Sem.run_bind, Sem.run_map, h1]
    rfl
  refine ⟨_, ?_, hrun⟩
  cases us with
  | nil =>
    cases cs with
    | nil => exact ⟨#[], rfl, rfl, fun k hk => by simp at hk⟩
    | cons c cs => exact h2.elim
  | cons u us =>
    cases cs with
    | nil => exact h2.elim
    | cons c cs =>
      cases us with
      | nil =>
        cases cs with
        | nil =>
          have h3 := h2.1
          have ht : ∀ vs, u ≠ .tuple vs := fun vs h => by subst h; exact h3.elim
          show VRel w I ρ u c
          rw [VRel_eq _ ht]; exact h3
        | cons _ _ => exact h2.2.elim
      | cons u2 us =>
        cases cs with
        | nil => exact h2.2.elim
        | cons c2 cs =>
          have hn : ¬ ((c :: c2 :: cs).toArray.size = 1) := by simp
          rw [dif_neg hn]
          refine ⟨_, rfl, ?_, fun k hk => ?_⟩
          · have := All2.length h2; simp at this ⊢; omega
          · have := All2.get .undef Go.undef h2 k hk
            simpa [Array.getD_eq_getD_getElem?, List.getD_eq_getElem?_getD] using this

end Go.Proofs.Ytbhhbadeabhfcaa
