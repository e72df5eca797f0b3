/- Contracts from walks, and calls by contracts. -/
import Derived.Test.YtbhhbadeabhfcaaF18
set_option linter.unusedVariables false
set_option linter.unusedSimpArgs false
namespace Go.Proofs.Ytbhhbadeabhfcaa
open Go Go.RowKit

theorem ne_none {α : Type} {o : Option α} {x : α} (h : o = some x) : o ≠ none := by rw [h]; simp

theorem get_mem {H : Heap} {n : Nat} (h : n ∈ H.map (·.1)) : ∃ b, Heap.get H n = some b := by
  induction H with
  | nil => simp at h
  | cons x r ih =>
    obtain ⟨m, b⟩ := x
    simp only [Heap.get]
    by_cases hn : n = m
    · exact ⟨b, by simp [hn]⟩
    · simp only [List.map_cons, List.mem_cons, hn, false_or] at h
      obtain ⟨b', hb'⟩ := ih h
      exact ⟨b', by simp [hn, hb']⟩

/-- A contract from a walk of the body. -/
theorem ACall.intro {P : Program} {f : FuncId} {fn : Func} {c : Code} {args : List AV} {H : Heap} {v : AV} {put : Heap} (hf : P.funcs[f]? = some fn) (hb : fn.body = some c) (ht : args.length ≤ fn.ntmps)
    (hargs : ∀ x, x ∈ args → AV.on (fun n => n ∈ H.map (·.1)) x ∧ ∀ vs, x ≠ .tuple vs) (hH : ∀ n b, Heap.get H n = some b → b.on fun n => n ∈ H.map (·.1)) (nx : Nat) (hnx : ∀ n, n ∈ H.map (·.1) → n < nx)
    (h : AWp P c { n := fn.ntmps, t := argEnv args 0, H := H, nx := nx } (Final P fn v put)) : ACall P f args H v put := by
  intro w I ρ cargs hsz hrel hbl hinj himm hfr
  refine calls_of_wp hf hb ?_
  let S : Nat → Prop := fun n => n ∈ H.map (·.1)
  let ρ0 : Rho := fun n => if n ∈ H.map (·.1) then ρ n else none
  have hρ0 : ∀ n x, S n → ρ n = some x → ρ0 n = some x := fun n x hn hx => by simp only [ρ0]; rw [if_pos hn]; exact hx
  have hρ0' : ∀ n x, ρ0 n = some x → S n ∧ ρ n = some x := fun n x hx => by
    simp only [ρ0] at hx
    by_cases hn : n ∈ H.map (·.1)
    · rw [if_pos hn] at hx; exact ⟨hn, hx⟩
    · rw [if_neg hn] at hx; cases hx
  have hown : ∀ b, Owns ρ0 (Heap.get H) b → OwnW ρ (H.map (·.1)) b := by
    rintro b ⟨n, blk, o, r, h1, h2⟩
    exact ⟨n, (hρ0' n _ h2).1, o, r, (hρ0' n _ h2).2⟩
  have hown' : ∀ b, OwnW ρ (H.map (·.1)) b → OwnW ρ0 (H.map (·.1)) b := by
    rintro b ⟨n, hn, o, r, hr⟩
    exact ⟨n, hn, o, r, hρ0 n _ hn hr⟩
  have hat : At ⟨w, I, ρ0, OwnW ρ (H.map (·.1))⟩ { n := fn.ntmps, t := argEnv args 0, H := H, nx := nx } { tmps := cargs ++ Array.replicate (fn.ntmps - cargs.size) Go.undef, defers := [] } w := by
    refine ⟨I, ρ0, Ext.refl _ _ _ _, ⟨by simp [St.fs]; omega, fun d v hv => ?_, rfl, ⟨fun n b hb => ?_, fun n m x y hnm h1 h2 b o r b' o' r' hr hr' => ?_⟩, fun b hb => ⟨(himm b hb).1, fun ho => (himm b hb).2 (hown b ho)⟩, fun n hn => ?_⟩, fun b hb => .inl (hown b hb)⟩
    · have := look_argEnv args 0 d v hv
      simp only [Nat.sub_zero, Nat.zero_le, true_and] at this
      have hd : d < args.length := by
        rcases Nat.lt_or_ge d args.length with h | h
        · exact h
        · simp [List.getElem?_eq_none h] at this
      refine ⟨by simp; omega, ?_⟩
      have hmem : v ∈ args := List.mem_of_getElem? this
      have h1 := hrel d hd
      rw [List.getD_eq_getElem?_getD, this, Option.getD_some] at h1
      rw [VRel_eq _ (hargs v hmem).2]
      have e1 : (cargs ++ Array.replicate (fn.ntmps - cargs.size) Go.undef).getD d Go.undef = cargs.getD d Go.undef := by
        have hdc : d < cargs.size := by omega
        simp [Array.getD_eq_getD_getElem?, Array.getElem?_append, hdc]
      rw [e1]
      exact h1.on (fun _ h => h) hρ0 (hargs v hmem).1
    · exact (hbl n b hb).on' (fun _ h => h) hρ0 (get_map hb) (hH n b hb) fun b' o r hr hI => by
        obtain ⟨b1, o1, r1, g1, g2⟩ := (hbl n b hb).dom
        rw [hr] at g1; cases g1; exact g2 hI
    · exact hinj n m x y hnm h1 h2 b o r b' o' r' (hρ0' n _ hr).2 (hρ0' m _ hr').2
    · simp only [St.fs] at hn
      simp only [ρ0]
      rw [if_neg]
      intro hm
      have := hnx n hm
      omega
  refine wp_mono (h _ _ _ hat) ?_
  rintro e a' w' ⟨s', ⟨he, us, hres, hfz, hput⟩, hA⟩
  obtain ⟨I', ρ', hx, hs, ho⟩ := hA.ex
  obtain ⟨cv, hcv, hrun⟩ := run_results hs hres
  -- what is frozen
  let K : Nat → Prop := fun n => Heap.get put n ≠ none
  let I2 : Nat → Prop := fun b => I' b ∨ ∃ n blk o r, Heap.get s'.H n = some blk ∧ ¬ K n ∧ ρ' n = some (b, o, r)
  let ρ2 : Rho := fun n => if (Heap.get put n).isSome then ρ' n else ρ n
  have hKsome : ∀ n, K n → (Heap.get put n).isSome = true := fun n hn => by
    cases hg : Heap.get put n with
    | none => exact absurd hg hn
    | some _ => rfl
  have hII : ∀ b, I' b → I2 b := fun b hb => .inl hb
  have hSS : ∀ n x, K n → ρ' n = some x → ρ2 n = some x := fun n x hn hx => by simp only [ρ2]; rw [if_pos (hKsome n hn)]; exact hx
  have hfzI : ∀ n blk b o r, Heap.get s'.H n = some blk → ¬ K n → ρ' n = some (b, o, r) → I2 b := fun n blk b o r h1 h2 h3 => .inr ⟨n, blk, o, r, h1, h2, h3⟩
  have hval : VRel w' I2 ρ2 v cv := hfz.rel hII hSS hs.heap.rel hfzI hcv
  have hkept : ∀ n blk b o r, Heap.get put n = some blk → ρ' n = some (b, o, r) → ¬ I2 b := by
    intro n blk b o r hn hr hI
    obtain ⟨b0, hb0, _⟩ := hput n blk hn
    rcases hI with hI | ⟨m, blk', o', r', h1, h2, h3⟩
    · exact (hs.imm b hI).2 ⟨n, b0, o, r, hb0, hr⟩
    · have hnm : n ≠ m := by intro h; subst h; exact h2 (ne_none hn)
      exact hs.heap.inj n m b0 blk' hnm hb0 h1 _ _ _ _ _ _ hr h3 rfl
  have hpost : LSPost w I ρ ⟨v, [], H.map (·.1), put⟩ cv w' I2 ρ2 := by
    refine ⟨hval, fun n b hn => ?_, fun n m x y hnm h1 h2 b o r b' o' r' hr hr' => ?_, fun n x hn b o r hr => ?_, ⟨hx.os, hx.tape, hx.output, hx.size, hx.keep, fun b hb => .inl (hx.imm b hb), fun b hb => ?_, fun n x hx' => ?_⟩, fun b hb => ?_, fun n h1 h2 => ?_⟩
    · obtain ⟨b0, hb0, hfb⟩ := hput n b hn
      have hKn : K n := ne_none hn
      have hrel0 := hs.heap.rel n b0 hb0
      cases b0 with
      | cells x0 =>
        cases b with
        | cells y0 =>
          obtain ⟨bb, o, r, h1, h2, h3⟩ := hrel0
          obtain ⟨arr, T, fz, g1, g2, g3, g4, g5⟩ := h3.ex
          have hfl := Frz.flat hII hSS hs.heap.rel hfzI hfb
          have hr4 : x0.flat.length ≤ arr.size - o := by omega
          have hcs := hfl ((arr.toList.drop o).take x0.flat.length) ⟨by simp; omega, fun k hk => by
            have := g5 k hk
            have e1 : ((arr.toList.drop o).take x0.flat.length).getD k Go.undef = arr.getD (o + k) Go.undef := by
              rw [← getD_toList]
              simp only [List.getD_eq_getElem?_getD, List.getElem?_take, hk, if_true, List.getElem?_drop]
            rw [e1]; exact this⟩
          obtain ⟨q1, q2⟩ := hcs
          have q1' : y0.flat.length = x0.flat.length := by rw [← q1]; simp; omega
          refine ⟨bb, o, r, hSS n _ hKn h1, hkept n _ bb o r hn h1, arr, T, fz, g1, g2, g3, by omega, fun k hk => ?_⟩
          have := q2 k hk
          have e1 : ((arr.toList.drop o).take x0.flat.length).getD k Go.undef = arr.getD (o + k) Go.undef := by
            rw [← getD_toList]
            have : k < x0.flat.length := by omega
            simp only [List.getD_eq_getElem?_getD, List.getElem?_take, this, if_true, List.getElem?_drop]
          rwa [e1] at this
        | map es => exact hfb.elim
      | map es =>
        cases b with
        | cells y0 => exact hfb.elim
        | map ds =>
          obtain ⟨rfl, hon⟩ := hfb
          exact hrel0.on' hII hSS hKn hon fun bb o r hr => hkept n _ bb o r hn hr
    · have k1 : K n := ne_none h1
      have k2 : K m := ne_none h2
      obtain ⟨x0, hx0, _⟩ := hput n x h1
      obtain ⟨y0, hy0, _⟩ := hput m y h2
      simp only [ρ2] at hr hr'
      rw [if_pos (hKsome n k1)] at hr
      rw [if_pos (hKsome m k2)] at hr'
      exact hs.heap.inj n m x0 y0 hnm hx0 hy0 b o r b' o' r' hr hr'
    · have k1 : K n := ne_none hn
      obtain ⟨x0, hx0, _⟩ := hput n x hn
      simp only [ρ2] at hr
      rw [if_pos (hKsome n k1)] at hr
      exact ho b ⟨n, x0, o, r, hx0, hr⟩
    · rcases hb with hb | ⟨n, blk, o, r, h1, h2, h3⟩
      · exact hx.new b hb
      · exact .inr (ho b ⟨n, blk, o, r, h1, h3⟩)
    · simp only [ρ2]
      by_cases hk : (Heap.get put n).isSome = true
      · rw [if_pos hk]
        by_cases hm : n ∈ H.map (·.1)
        · exact hx.rho n x (hρ0 n x hm hx')
        · cases hg : Heap.get put n with
          | none => rw [hg] at hk; cases hk
          | some blk => rw [hfr n blk hg hm] at hx'; cases hx'
      · rw [if_neg hk]; exact hx'
    · rcases hb with hb | ⟨n, blk, o, r, h1, h2, h3⟩
      · exact (hs.imm b hb).1
      · exact (hs.heap.rel n blk h1).lt h3
    · have h2' : Heap.get put n = none := h2
      simp only [ρ2, h2', Option.isSome_none, Bool.false_eq_true, if_false]
      exact h1
  rcases he with rfl | rfl
  · exact ⟨hs.defers, cv, hrun, cv, I2, ρ2, rfl, hpost⟩
  · exact ⟨hs.defers, cv, hrun, cv, I2, ρ2, rfl, hpost⟩

/-- May a function be entered? -/
def fnOk (P : Program) (f : FuncId) : Bool := match P.funcs[f]? with
  | some fn => fn.body.isSome && !(fn.name == "runtime.NumGoroutine")
  | none => false

theorem run_callFunc {P : Program} {f : FuncId} (h : fnOk P f = true) (args : Array Value) (w : World) : (callFunc f args).run P w = .ok (.enter f args) w := by
  unfold fnOk at h
  cases hf : P.funcs[f]? with
  | none => simp [hf] at h
  | some fn =>
    simp only [hf, Bool.and_eq_true, Bool.not_eq_true'] at h
    have h2 : fn.body.isNone = false := by cases hb : fn.body <;> simp [hb] at h ⊢
    simp only [callFunc, Sem.run_bind, run_program, Result.andThen_ok, hf, h.2, Bool.false_eq_true, if_false, h2, Sem.run_ite, Sem.run_pure]

theorem ls_call {P : Program} {o : Oper} {ev : Operand → Option AV} {H : Nat → Option ABlk} {f : FuncId} {fo : Operand} {as : Array Operand} {ts : Array TypeId} {caps args : List AV} {HH : Heap} {v : AV} {put : Heap}
    (ho : o.op = .call { callee := .value fo, args := as, argTypes := ts }) (hfo : ev fo = some (.func f caps)) (hok : fnOk P f = true) (hargs : as.toList.map ev = args.map some) (hta : ∀ x, x ∈ args → ∀ vs, x ≠ .tuple vs) (hcaps : ∀ x, x ∈ caps → (∀ vs, x ≠ .tuple vs) ∧ ∀ vs, x ≠ .agg vs)
    (hc : ACall P f (args ++ caps) HH v put) (hHH : ∀ n b, Heap.get HH n = some b → H n = some b) : LS P o ev H ⟨v, [], HH.map (·.1), put⟩ := by
  intro a w I ρ hd hev hrd hinj himm hfr K Q hK
  have hf := hev fo (by simp [ho, Op.operands, Call.operands]) _ hfo
  obtain ⟨cs, hfc, hcs1, hcs2⟩ := inv_func hf
  have hlen : as.size = args.length := by have := congrArg List.length hargs; simpa using this
  have hrel : ∀ k, k < args.length → XRel w I ρ (args.getD k .undef) ((as.map a.eval).getD k Go.undef) := by
    intro k hk
    have hk' : k < as.size := by omega
    have h1 : (as.toList.map ev)[k]? = (args.map some)[k]? := by rw [hargs]
    simp only [List.getElem?_map, Array.getElem?_toList, Array.getElem?_eq_getElem hk', List.getElem?_eq_getElem hk, Option.map_some, Option.some.injEq] at h1
    have hm : args[k] ∈ args := List.getElem_mem hk
    have h2 := hev as[k] (by simp [ho, Op.operands, Call.operands]) _ h1
    rw [VRel_eq _ (hta _ hm)] at h2
    rw [List.getD_eq_getElem?_getD, List.getElem?_eq_getElem hk, Array.getD_eq_getD_getElem?, Array.getElem?_map, Array.getElem?_eq_getElem hk']
    exact h2
  have hcall := hc w I ρ (as.map a.eval ++ cs) (by simp [hlen, hcs1]) (fun k hk => by
    simp only [List.length_append] at hk
    by_cases hka : k < args.length
    · have h1 := hrel k hka
      have e1 : (args ++ caps).getD k .undef = args.getD k .undef := by simp [List.getD_eq_getElem?_getD, List.getElem?_append_left hka]
      have e2 : (as.map a.eval ++ cs).getD k Go.undef = (as.map a.eval).getD k Go.undef := by
        have : k < (as.map a.eval).size := by simp; omega
        rw [Array.getD_eq_getD_getElem?, Array.getElem?_append_left this, ← Array.getD_eq_getD_getElem?]
      rw [e1, e2]; exact h1
    · have h1 := hcs2 (k - args.length) (by omega)
      have e1 : (args ++ caps).getD k .undef = caps.getD (k - args.length) .undef := by
        rw [List.getD_eq_getElem?_getD, List.getElem?_append_right (by omega), ← List.getD_eq_getElem?_getD]
      have e2 : (as.map a.eval ++ cs).getD k Go.undef = cs.getD (k - args.length) Go.undef := by
        rw [Array.getD_eq_getD_getElem?, Array.getElem?_append_right (by simp; omega), ← Array.getD_eq_getD_getElem?]
        simp [hlen]
      rw [e1, e2]
      have hm : caps.getD (k - args.length) .undef ∈ caps := by
        rw [List.getD_eq_getElem?_getD, List.getElem?_eq_getElem (by omega)]; exact List.getElem_mem _
      have := VRel.cell h1 (hcaps _ hm).1 (hcaps _ hm).2
      exact XRel.of_V this (hcaps _ hm).1)
    (fun n b hn => hrd n (.inr (get_map hn)) b (hHH n b hn)) (fun n m x y hnm h1 h2 => hinj n m x y (get_map h1) (.inr (get_map h2)) hnm (hHH n x h1) (hHH m y h2)) himm hfr
  unfold Oper.wp
  have hrun : (execOp a.eval o).run P w = .ok (.enter f (as.map a.eval ++ cs)) w := by
    simp only [execOp, ho, resolve, hfc, Deferred.ofValue, Sem.run_bind, Sem.run_pure, Result.andThen_ok, invoke, run_callFunc hok]
    simp
  rw [hrun]
  refine Calls.mono hcall ?_
  rintro e w' ⟨c, I', ρ', rfl, hp⟩
  exact hK _ _ _ _ hp

end Go.Proofs.Ytbhhbadeabhfcaa
