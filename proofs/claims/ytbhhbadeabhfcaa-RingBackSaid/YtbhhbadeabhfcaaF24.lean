/- Zero values; ends of walks; loops. -/
import Derived.Test.YtbhhbadeabhfcaaF23
set_option linter.unusedVariables false
set_option linter.unusedSimpArgs false
namespace Go.Proofs.Ytbhhbadeabhfcaa
open Go Go.RowKit

/-- A zero cell: a nil slice is told as a slice without elements. -/
def zeroAV : Value → Option AV
  | .slice none 0 0 => some (.vsl [] 0)
  | c => constAV c

theorem zeroAV_rel {w : World} {I : Nat → Prop} {ρ : Rho} {x : AV} {c : Value} (h : zeroAV c = some x) : CRel w I ρ x c ∧ x.layable = true := by
  have key : ∀ c x, constAV c = some x → CRel w I ρ x c ∧ x.layable = true := by
    intro c x h
    have h2 := constAV_rel (w := w) (I := I) (ρ := ρ) h
    unfold constAV at h
    split at h <;> simp only [Option.some.injEq, reduceCtorEq] at h <;> subst h <;> exact ⟨h2, rfl⟩
  unfold zeroAV at h
  split at h
  · simp only [Option.some.injEq] at h; subst h; exact ⟨.vsl0 _ _, rfl⟩
  · exact key _ _ h

theorem ZeroIs.agg' {P : Program} {T : TypeId} {vs : List AV} {cs : Array Value} (h : (P.info? T).bind (·.zero) = some (.agg cs)) (hv : (AV.flatL vs).map some = cs.toList.map zeroAV) : ZeroIs P T (.agg vs) := by
  refine ⟨rfl, .agg cs, fun w => ?_, fun w I ρ => ⟨cs, rfl, ?_, fun k hk => ?_⟩⟩
  · cases hi : P.info? T with
    | none => simp [hi] at h
    | some i => simp [hi] at h; simp [zeroValue, typeInfo, hi, h]
  · have := congrArg List.length hv
    simpa using this.symm
  · have hl := congrArg List.length hv
    simp only [List.length_map] at hl
    have h1 : ((AV.flatL vs).map some)[k]? = (cs.toList.map zeroAV)[k]? := by rw [hv]
    have hk' : k < cs.toList.length := by omega
    simp only [List.getElem?_map, List.getElem?_eq_getElem hk, List.getElem?_eq_getElem hk', Option.map_some, Option.some.injEq] at h1
    rw [List.getD_eq_getElem?_getD, List.getD_eq_getElem?_getD, List.getElem?_eq_getElem hk, List.getElem?_eq_getElem hk', Option.getD_some, Option.getD_some]
    exact (zeroAV_rel h1.symm).1

theorem ZeroIs.one' {P : Program} {T : TypeId} {z : AV} {c : Value} (h : (P.info? T).bind (·.zero) = some c) (hz : zeroAV c = some z) : ZeroIs P T z := by
  refine ⟨(zeroAV_rel (w := default) (I := fun _ => False) (ρ := fun _ => none) hz).2, c, fun w => ?_, fun w I ρ => ?_⟩
  · cases hi : P.info? T with
    | none => simp [hi] at h
    | some i => simp [hi] at h; simp [zeroValue, typeInfo, hi, h]
  · have h1 := (zeroAV_rel (w := w) (I := I) (ρ := ρ) hz).1
    cases z <;> first | exact h1 | trivial | (exact absurd (zeroAV_rel (w := w) (I := I) (ρ := ρ) hz).2 (by simp [AV.layable])) | cases h1

/-- A value that names no memory. -/
theorem on_mono {S S' : Nat → Prop} (h : ∀ n, S n → S' n) {x : AV} (hx : AV.on S x) : AV.on S' x := by
  have key : AV.on S x → AV.on S' x := by
    refine AV.rec (motive_1 := fun x => AV.on S x → AV.on S' x) (motive_2 := fun xs => AV.onL S xs → AV.onL S' xs) ?_ ?_ ?_ ?_ ?_ ?_ ?_ ?_ ?_ ?_ ?_ ?_ ?_ ?_ ?_ ?_ ?_ ?_ ?_ ?_ x
    all_goals intros
    all_goals first
      | trivial
      | (apply h; assumption)
      | (rename_i ih hx; exact ih hx)
      | (rename_i ih1 ih2 hx; exact ⟨ih1 hx.1, ih2 hx.2⟩)
  exact key hx

/-- An end of a walk that returns one value and leaves no memory. -/
theorem Final.one {P : Program} {fn : Func} {r : ResultVar} {u v : AV} {e : Exit} {s : St} (he : e = .normal ∨ e = .ret) (hr : fn.results = #[r]) (h : ResOk P s r u) (hu : ∀ vs, u ≠ .tuple vs) (hv : ∀ vs, v ≠ .tuple vs) (hf : Frz (fun _ => False) s.H u v) : Final P fn v [] e s := by
  refine ⟨he, [u], ?_, ?_, fun n b h => by simp [Heap.get] at h⟩
  · rw [hr]; exact ⟨h, trivial⟩
  · have : (fun n => Heap.get [] n ≠ none) = fun _ => False := by funext n; simp [Heap.get]
    rw [this]
    show FrzV _ _ u v
    cases u <;> first | exact absurd rfl (hu _) | (cases v <;> first | exact absurd rfl (hv _) | exact hf)

theorem Final.many {P : Program} {fn : Func} {rs : List ResultVar} {us vs : List AV} {e : Exit} {s : St} (he : e = .normal ∨ e = .ret) (hr : fn.results.toList = rs) (h : All2 (ResOk P s) rs us) (hl : us.length ≠ 1) (hf : All2 (Frz (fun _ => False) s.H) us vs) : Final P fn (.tuple vs) [] e s := by
  refine ⟨he, us, hr ▸ h, ?_, fun n b h => by simp [Heap.get] at h⟩
  have : (fun n => Heap.get [] n ≠ none) = fun _ => False := by funext n; simp [Heap.get]
  rw [this]
  cases us with
  | nil => exact hf
  | cons u us =>
    cases us with
    | nil => simp at hl
    | cons u2 us => exact hf

/-- A contract from a run of the body. -/
theorem ACall.run {P : Program} {Z : TypeId → Option AV} {f : FuncId} {fn : Func} {c : Code} {args : List AV} {v : AV} {put : Heap} (hm : P.follows .mixedOrders = true) (hZ : ∀ T z, Z T = some z → ZeroIs P T z) (hf : P.funcs[f]? = some fn) (hb : fn.body = some c) {N : Nat} (hN : fn.ntmps = N) (hc : codeOk N c = true) (ht : args.length ≤ N)
    (hargs : ∀ x, x ∈ args → AV.on (fun _ => False) x ∧ ∀ vs, x ≠ .tuple vs) (nx : Nat)
    (h : Run P Z c ⟨N, argEnv args 0, [], nx⟩ (Final P fn v put)) : ACall P f args [] v put := by
  subst hN
  exact ACall.intro hf hb ht (fun x hx => ⟨on_mono (fun _ h => h.elim) (hargs x hx).1, (hargs x hx).2⟩) (fun n b h => by simp [Heap.get] at h) nx (fun n h => by simp at h)
    (AWp.mono (Run.sound hm hZ c _ _ hc rfl h) fun e s h => h.1)

/-- A loop. -/
theorem AWp.loopR {P : Program} {Z : TypeId → Option AV} {c : Code} {N : Nat} {s s0 : St} {Q : Exit → St → Prop} (hm : P.follows .mixedOrders = true) (hZ : ∀ T z, Z T = some z → ZeroIs P T z) (hc : codeOk N c = true) (Inv : Nat → St → Prop) {n0 : Nat} (hw : Wk s s0) (h0 : Inv n0 s0)
    (round : ∀ n s, Inv n s → s.n = N ∧ Run P Z c s (fun e s' => match e with
      | .normal => ∃ m s'', m < n ∧ Inv m s'' ∧ Wk s' s''
      | e => Q e s')) (hN : s.n = N) : AWp P (.loop c) s fun e s' => Q e s' ∧ s'.n = N := by
  refine AWp.loop Inv hw h0 fun n s hI => ?_
  obtain ⟨h1, h2⟩ := round n s hI
  refine AWp.mono (Run.sound hm hZ c s _ hc h1 h2) fun e s' h => ?_
  obtain ⟨h3, h4⟩ := h
  cases e with
  | normal => exact h3
  | _ => exact ⟨h3, h4⟩
end Go.Proofs.Ytbhhbadeabhfcaa
