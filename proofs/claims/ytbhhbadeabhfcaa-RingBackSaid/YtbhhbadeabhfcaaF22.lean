/- The evaluator in pieces that are simplified one by one. -/
import Derived.Test.YtbhhbadeabhfcaaF21
set_option linter.unusedVariables false
set_option linter.unusedSimpArgs false
namespace Go.Proofs.Ytbhhbadeabhfcaa
open Go Go.RowKit

/-- A mark beside a proposition: what is marked is not simplified. -/
structure Inert {α : Type} (A : α) : Type where
  mk :: (u : Unit)

def Got {α : Type} (o : Option α) (K : α → Prop) (_ : Inert K := ⟨()⟩) : Prop := match o with
  | some v => K v
  | none => False
theorem Got_some {α : Type} {v : α} {K : α → Prop} {h : Inert K} : Got (some v) K h = K v := rfl

def Need (φ K : Prop) (_ : Inert K := ⟨()⟩) : Prop := φ ∧ K
theorem Need_true {K : Prop} {h : Inert K} : Need True K h = K := by simp [Need]

def Branch (b : Bool) (A B : Prop) (_ : Inert A := ⟨()⟩) (_ : Inert B := ⟨()⟩) : Prop := (b = true → A) ∧ (b = false → B)
theorem Branch_true {A B : Prop} {h : Inert A} {h' : Inert B} : Branch true A B h h' = A := by simp [Branch]
theorem Branch_false {A B : Prop} {h : Inert A} {h' : Inert B} : Branch false A B h h' = B := by simp [Branch]

/-- A choice by a value. -/
def BranchV (v : AV) (A B : Prop) (_ : Inert A := ⟨()⟩) (_ : Inert B := ⟨()⟩) : Prop := match v with
  | .bool b => Branch b A B
  | _ => False
theorem BranchV_bool {b : Bool} {A B : Prop} {h : Inert A} {h' : Inert B} : BranchV (.bool b) A B h h' = Branch b A B := rfl

/-- A guard: wanted or not. -/
def Gd (want : Bool) (v : AV) (A B : Prop) (_ : Inert A := ⟨()⟩) (_ : Inert B := ⟨()⟩) : Prop := match v with
  | .bool b => match want with
    | true => Branch b A B
    | false => Branch b B A
  | .tuple [] => B
  | _ => False
theorem Gd_true {b : Bool} {A B : Prop} {h : Inert A} {h' : Inert B} : Gd true (.bool b) A B h h' = Branch b A B := rfl
theorem Gd_false {b : Bool} {A B : Prop} {h : Inert A} {h' : Inert B} : Gd false (.bool b) A B h h' = Branch b B A := rfl
theorem Gd_skip {want : Bool} {A B : Prop} {h : Inert A} {h' : Inert B} : Gd want (.tuple []) A B h h' = B := rfl

/-- Cells or nothing. -/
def GotC (o : Option ABlk) (K : AV → Prop) (_ : Inert K := ⟨()⟩) : Prop := match o with
  | some (.cells r) => K r
  | _ => False
theorem GotC_cells {r : AV} {K : AV → Prop} {h : Inert K} : GotC (some (.cells r)) K h = K r := rfl

section
variable (P : Program) (Z : TypeId → Option AV)

def BO (all : List Oper) : List Oper → St → (St → Prop) → Prop
  | [], s, K => K s
  | o :: os, s, K => match o.guard with
    | none => Do P Z o s fun e nx => BO all os (s.app o.dst e nx) K
    | some (j, want) => Got (((all[j]?).bind (·.dst)).bind (look s.t)) fun v =>
        Gd want v (Do P Z o s fun e nx => BO all os (s.app o.dst e nx) K) (BO all os { s with t := Env.put s.t o.dst (.tuple []) } K)

def BOD (all : List Oper) : List Oper → St → List Foot → (List Foot → St → Prop) → Prop
  | [], s, L, K => K L s
  | o :: os, s, L, K => match o.guard with
    | none => Do P Z o s fun e nx => BOD all os (s.app o.dst e nx) (L ++ [e.foot]) K
    | some (j, want) => Got (((all[j]?).bind (·.dst)).bind (look s.t)) fun v =>
        Gd want v (Do P Z o s fun e nx => BOD all os (s.app o.dst e nx) (L ++ [e.foot]) K) (BOD all os { s with t := Env.put s.t o.dst (.tuple []) } (L ++ [([], [])]) K)

def RunR (ops : List Oper) (draw : Bool) (s : St) (K : St → Prop) : Prop := match draw with
  | false => BO P Z ops ops s K
  | true => BOD P Z ops ops s [] fun L s' => Need (confOk ops L = true) (K s')

def Run : Code → St → (Exit → St → Prop) → Prop
  | .skip, s, Q => Q .normal s
  | .ret, s, Q => Q .ret s
  | .exit id, s, Q => Q (.exit id) s
  | .seq x y, s, Q => Run x s fun e s' => match e with
    | .normal => Run y s' Q
    | e => Q e s'
  | .cond c x y, s, Q => Got (s.ev c) fun v => BranchV v (Run x s Q) (Run y s Q)
  | .block id c, s, Q => Run c s fun e s' => match e with
    | .exit i => if i = id then Q .normal s' else Q (.exit i) s'
    | e => Q e s'
  | .region _ ops draw, s, Q => RunR P Z ops.toList draw s (Q .normal)
  | .loop c, s, Q => AWp P (.loop c) s fun e s' => Q e s' ∧ s'.n = s.n
  | _, _, _ => False
end

section
variable {P : Program} {Z : TypeId → Option AV}

@[congr] theorem BO_congr {all os : List Oper} {s s' : St} {K : St → Prop} (h : s = s') : BO P Z all os s K = BO P Z all os s' K := by rw [h]
@[congr] theorem BOD_congr {all os : List Oper} {s s' : St} {L L' : List Foot} {K : List Foot → St → Prop} (h : s = s') (h' : L = L') : BOD P Z all os s L K = BOD P Z all os s' L' K := by rw [h, h']
@[congr] theorem RunR_congr {ops ops' : List Oper} {d : Bool} {s s' : St} {K : St → Prop} (h : ops = ops') (h' : s = s') : RunR P Z ops d s K = RunR P Z ops' d s' K := by rw [h, h']
@[congr] theorem Run_congr {c : Code} {s s' : St} {Q : Exit → St → Prop} (h : s = s') : Run P Z c s Q = Run P Z c s' Q := by rw [h]
@[congr] theorem Do_congr {o : Oper} {s s' : St} {K : Eff → Nat → Prop} (h : s = s') : Do P Z o s K = Do P Z o s' K := by rw [h]
@[congr] theorem CallTo_congr {o : Oper} {s s' : St} {K : Eff → Nat → Prop} (h : s = s') : CallTo P o s K = CallTo P o s' K := by rw [h]
@[congr] theorem AWp_congr {c : Code} {s s' : St} {Q : Exit → St → Prop} (h : s = s') : AWp P c s Q = AWp P c s' Q := by rw [h]

theorem BO.sound (hZ : ∀ T z, Z T = some z → ZeroIs P T z) {all : List Oper} {K : St → Prop} : ∀ {l : List Oper} {s : St}, BO P Z all l s K → AOps P all l s K
  | [], s, h => h
  | o :: os, s, h => by
    simp only [BO] at h
    simp only [AOps]
    cases hg : o.guard with
    | none =>
      simp only [hg] at h ⊢
      obtain ⟨e, nx, h1, h2, h3⟩ := Do.sound hZ h
      exact ⟨e, nx, h1, h2, BO.sound hZ h3⟩
    | some jw =>
      obtain ⟨j, want⟩ := jw
      simp only [hg] at h ⊢
      cases hb : ((all[j]?).bind (·.dst)).bind (look s.t) with
      | none => rw [hb] at h; exact h.elim
      | some v =>
        rw [hb, Got_some] at h
        cases v with
        | bool b =>
          cases want <;> cases b <;> simp only [Gd, Branch_true, Branch_false] at h <;> simp only [gdBool, Option.some.injEq, if_true, if_false, Bool.false_eq_true, Bool.true_eq_false, reduceCtorEq] <;>
            first
            | exact BO.sound hZ h
            | (obtain ⟨e, nx, h1, h2, h3⟩ := Do.sound hZ h
               exact ⟨e, nx, h1, h2, BO.sound hZ h3⟩)
        | tuple vs =>
          cases vs with
          | nil =>
            simp only [gdBool, reduceCtorEq, if_false]
            exact BO.sound hZ h
          | cons _ _ => exact h.elim
        | _ => exact h.elim

theorem BOD.sound (hZ : ∀ T z, Z T = some z → ZeroIs P T z) {all : List Oper} {K : List Foot → St → Prop} : ∀ {l : List Oper} {s : St} {L : List Foot}, BOD P Z all l s L K → AOpsD P all l s L K
  | [], s, L, h => h
  | o :: os, s, L, h => by
    simp only [BOD] at h
    simp only [AOpsD]
    cases hg : o.guard with
    | none =>
      simp only [hg] at h ⊢
      obtain ⟨e, nx, h1, h2, h3⟩ := Do.sound hZ h
      exact ⟨e, nx, h1, h2, BOD.sound hZ h3⟩
    | some jw =>
      obtain ⟨j, want⟩ := jw
      simp only [hg] at h ⊢
      cases hb : ((all[j]?).bind (·.dst)).bind (look s.t) with
      | none => rw [hb] at h; exact h.elim
      | some v =>
        rw [hb, Got_some] at h
        cases v with
        | bool b =>
          cases want <;> cases b <;> simp only [Gd, Branch_true, Branch_false] at h <;> simp only [gdBool, Option.some.injEq, if_true, if_false, Bool.false_eq_true, Bool.true_eq_false, reduceCtorEq] <;>
            first
            | exact BOD.sound hZ h
            | (obtain ⟨e, nx, h1, h2, h3⟩ := Do.sound hZ h
               exact ⟨e, nx, h1, h2, BOD.sound hZ h3⟩)
        | tuple vs =>
          cases vs with
          | nil =>
            simp only [gdBool, reduceCtorEq, if_false]
            exact BOD.sound hZ h
          | cons _ _ => exact h.elim
        | _ => exact h.elim

def codeOk (n : Nat) : Code → Bool
  | .seq x y => codeOk n x && codeOk n y
  | .cond _ x y => codeOk n x && codeOk n y
  | .block _ c => codeOk n c
  | .loop c => codeOk n c
  | .region _ ops _ => ops.toList.all (dstOk n)
  | _ => true

theorem AOps.n {all : List Oper} {K : St → Prop} {N : Nat} : ∀ {l : List Oper} {s : St}, s.n = N → AOps P all l s K → AOps P all l s fun s' => K s' ∧ s'.n = N
  | [], s, hn, h => ⟨h, hn⟩
  | o :: os, s, hn, h => by
    simp only [AOps] at h ⊢
    cases hg : o.guard with
    | none =>
      simp only [hg] at h ⊢
      obtain ⟨e, nx, h1, h2, h3⟩ := h
      exact ⟨e, nx, h1, h2, AOps.n (s := s.app o.dst e nx) hn h3⟩
    | some jw =>
      obtain ⟨j, want⟩ := jw
      simp only [hg] at h ⊢
      split at h
      · rename_i b hb
        by_cases hbw : b = some want
        · simp only [hbw, if_true] at h ⊢
          obtain ⟨e, nx, h1, h2, h3⟩ := h
          exact ⟨e, nx, h1, h2, AOps.n (s := s.app o.dst e nx) hn h3⟩
        · simp only [hbw, if_false] at h ⊢
          exact AOps.n (s := { s with t := Env.put s.t o.dst (.tuple []) }) hn h
      · exact h.elim

theorem AOpsD.n {all : List Oper} {K : List Foot → St → Prop} {N : Nat} : ∀ {l : List Oper} {s : St} {L : List Foot}, s.n = N → AOpsD P all l s L K → AOpsD P all l s L fun L s' => K L s' ∧ s'.n = N
  | [], s, L, hn, h => ⟨h, hn⟩
  | o :: os, s, L, hn, h => by
    simp only [AOpsD] at h ⊢
    cases hg : o.guard with
    | none =>
      simp only [hg] at h ⊢
      obtain ⟨e, nx, h1, h2, h3⟩ := h
      exact ⟨e, nx, h1, h2, AOpsD.n (s := s.app o.dst e nx) hn h3⟩
    | some jw =>
      obtain ⟨j, want⟩ := jw
      simp only [hg] at h ⊢
      split at h
      · rename_i b hb
        by_cases hbw : b = some want
        · simp only [hbw, if_true] at h ⊢
          obtain ⟨e, nx, h1, h2, h3⟩ := h
          exact ⟨e, nx, h1, h2, AOpsD.n (s := s.app o.dst e nx) hn h3⟩
        · simp only [hbw, if_false] at h ⊢
          exact AOpsD.n (s := { s with t := Env.put s.t o.dst (.tuple []) }) hn h
      · exact h.elim

theorem AOpsD.mono {all : List Oper} {K K' : List Foot → St → Prop} (hK : ∀ L s, K L s → K' L s) : ∀ {l : List Oper} {s : St} {L : List Foot}, AOpsD P all l s L K → AOpsD P all l s L K'
  | [], s, L, h => hK _ _ h
  | o :: os, s, L, h => by
    simp only [AOpsD] at h ⊢
    cases hg : o.guard with
    | none =>
      simp only [hg] at h ⊢
      obtain ⟨e, nx, h1, h2, h3⟩ := h
      exact ⟨e, nx, h1, h2, AOpsD.mono hK h3⟩
    | some jw =>
      obtain ⟨j, want⟩ := jw
      simp only [hg] at h ⊢
      split at h
      · rename_i b hb
        by_cases hbw : b = some want
        · simp only [hbw, if_true] at h ⊢
          obtain ⟨e, nx, h1, h2, h3⟩ := h
          exact ⟨e, nx, h1, h2, AOpsD.mono hK h3⟩
        · simp only [hbw, if_false] at h ⊢
          exact AOpsD.mono hK h
      · exact h.elim

theorem Run.sound (hm : P.follows .mixedOrders = true) (hZ : ∀ T z, Z T = some z → ZeroIs P T z) {N : Nat} : ∀ (c : Code) (s : St) (Q : Exit → St → Prop), codeOk N c = true → s.n = N → Run P Z c s Q → AWp P c s fun e s' => Q e s' ∧ s'.n = N
  | .skip, s, Q, hc, hn, h => AWp.skip ⟨h, hn⟩
  | .ret, s, Q, hc, hn, h => AWp.ret ⟨h, hn⟩
  | .exit id, s, Q, hc, hn, h => AWp.exit ⟨h, hn⟩
  | .seq x y, s, Q, hc, hn, h => by
    simp only [codeOk, Bool.and_eq_true] at hc
    refine AWp.seq (AWp.mono (Run.sound hm hZ x s _ hc.1 hn h) fun e s' h' => ?_)
    obtain ⟨h1, h2⟩ := h'
    cases e with
    | normal => exact Run.sound hm hZ y s' Q hc.2 h2 h1
    | _ => exact ⟨h1, h2⟩
  | .cond c x y, s, Q, hc, hn, h => by
    simp only [codeOk, Bool.and_eq_true] at hc
    simp only [Run] at h
    cases hv : s.ev c with
    | none => rw [hv] at h; exact h.elim
    | some v =>
      rw [hv, Got_some] at h
      cases v <;> first
        | exact h.elim
        | (rename_i b
           exact AWp.cond hv (fun ht => Run.sound hm hZ x s Q hc.1 hn (h.1 ht)) (fun hf => Run.sound hm hZ y s Q hc.2 hn (h.2 hf)))
  | .block id c, s, Q, hc, hn, h => by
    simp only [codeOk] at hc
    refine AWp.block (AWp.mono (Run.sound hm hZ c s _ hc hn h) fun e s' h' => ?_)
    obtain ⟨h1, h2⟩ := h'
    cases e with
    | exit i =>
      simp only [InBlock] at h1 ⊢
      split <;> rename_i hi <;> simp only [hi, if_true, if_false] at h1 <;> exact ⟨h1, h2⟩
    | _ => exact ⟨h1, h2⟩
  | .region id ops draw, s, Q, hc, hn, h => by
    simp only [codeOk] at hc
    simp only [Run, RunR] at h
    subst hn
    cases draw with
    | false => exact AWp.region (ops := ops.toList) hc (AOps.n rfl (BO.sound hZ h))
    | true => exact AWp.regionD (ops := ops.toList) hm hc (AOpsD.mono (fun L s' h => ⟨h.1.1, h.1.2, h.2⟩) (AOpsD.n rfl (BOD.sound hZ h)))
  | .loop c, s, Q, hc, hn, h => by
    subst hn
    exact h
  | .rangeFunc .., s, Q, hc, hn, h => h.elim
  | .scope .., s, Q, hc, hn, h => h.elim
  | .label .., s, Q, hc, hn, h => h.elim
  | .goto .., s, Q, hc, hn, h => h.elim
  | .refuse .., s, Q, hc, hn, h => h.elim

end
end Go.Proofs.Ytbhhbadeabhfcaa
