/- Contracts over memory of the caller's; pointers compared; fields of values. -/
import Derived.Test.YtbhhbadeabhfcaaF28
set_option linter.unusedVariables false
set_option linter.unusedSimpArgs false
namespace Go.Proofs.Ytbhhbadeabhfcaa
open Go Go.RowKit

/-- A contract from a run of the body, over memory that the caller hands on. -/
theorem ACall.runH {P : Program} {Z : TypeId → Option AV} {f : FuncId} {fn : Func} {c : Code} {args : List AV} {v : AV} {H put : Heap} (hm : P.follows .mixedOrders = true) (hZ : ∀ T z, Z T = some z → ZeroIs P T z) (hf : P.funcs[f]? = some fn) (hb : fn.body = some c) {N : Nat} (hN : fn.ntmps = N) (hc : codeOk N c = true) (ht : args.length ≤ N)
    (hargs : ∀ x, x ∈ args → AV.on (fun n => n ∈ H.map (·.1)) x ∧ ∀ vs, x ≠ .tuple vs) (hH : ∀ n b, Heap.get H n = some b → b.on fun n => n ∈ H.map (·.1)) (nx : Nat) (hnx : ∀ n, n ∈ H.map (·.1) → n < nx)
    (h : Run P Z c ⟨N, argEnv args 0, H, nx⟩ (Final P fn v put)) : ACall P f args H v put := by
  subst hN
  exact ACall.intro hf hb ht hargs hH nx hnx (AWp.mono (Run.sound hm hZ c _ _ hc rfl h) fun e s h => h.1)

/-- A call by a contract, whatever memory it takes and gives. -/
theorem CallTo.gen {P : Program} {o : Oper} {s : St} {K : Eff → Nat → Prop} {f : FuncId} {as : Array Operand} {ts : Array TypeId} {args : List AV} {v : AV} (HH put : Heap) (nx : Nat)
    (ho : o.op = .call { callee := .value (.func f), args := as, argTypes := ts }) (hok : fnOk P f = true) (hargs : as.toList.map s.ev = args.map some) (hta : ∀ x, x ∈ args → ∀ vs, x ≠ .tuple vs)
    (hc : ACall P f args HH v put) (hH : ∀ n b, Heap.get HH n = some b → Heap.get s.H n = some b)
    (hnx : s.nx ≤ nx ∧ ∀ n x, Heap.get put n = some x → n ∉ HH.map (·.1) → s.nx ≤ n ∧ n < nx)
    (hK : K ⟨v, [], HH.map (·.1), put⟩ nx) : CallTo P o s K := by
  refine ⟨_, nx, ls_call (caps := []) ho rfl hok hargs hta (fun x hx => by simp at hx) (by simpa using hc) hH, ⟨hnx.1, fun n x hn hw => hnx.2 n x hn hw, fun n hn => ?_⟩, hK⟩
  obtain ⟨b, hb⟩ := get_mem hn
  exact ⟨b, hH n b hb⟩

/-- What lies in one heap lies in another one. -/
theorem SubH.of {H0 H : Heap} (h : SubH H0 H) : ∀ n b, Heap.get H0 n = some b → Heap.get H n = some b := h.spec

def isPtrT (P : Program) (T : TypeId) : Bool := match P.underlying T with
  | some (.pointer _) => true
  | _ => false
section
variable {P : Program} {Z : TypeId → Option AV} {T : TypeId} {op : BinOp} {K : AV → Prop}
theorem DoBin_ptr {u u' : AV} {p q : Bool} (hp : isNilPtr u = some p) (hq : isNilPtr u' = some q) (hpq : (p || q) = true) : DoBin P op T (some u) (some u') K = Got (isEq op) fun ng => Need (isPtrT P T = true) (K (.bool (if ng then !(p && q) else (p && q)))) := by
  have key : (match isEq op, isNilPtr u, isNilPtr u', P.underlying T with
    | some ng, some p, some q, some (.pointer _) => (p = true ∨ q = true) ∧ K (.bool (if ng then !(p && q) else (p && q)))
    | _, _, _, _ => False) = Got (isEq op) fun ng => Need (isPtrT P T = true) (K (.bool (if ng then !(p && q) else (p && q)))) := by
    rw [hp, hq]
    have hpq' : p = true ∨ q = true := by simpa using hpq
    simp only [Got, Need, isPtrT]
    cases isEq op with
    | none => rfl
    | some ng =>
      cases P.underlying T with
      | none => simp
      | some d => cases d <;> simp [hpq']
  rw [← key]
  cases u <;> simp only [isNilPtr, reduceCtorEq] at hp <;> cases u' <;> simp only [isNilPtr, reduceCtorEq] at hq <;> rfl
theorem DoBin_ptr_nil {n off : Nat} {p : List Nat} : DoBin P op T (some (.ptr n off p)) (some .nilptr) K = Got (isEq op) fun ng => Need (isPtrT P T = true) (K (.bool ng)) := by
  rw [DoBin_ptr rfl rfl rfl]
  simp only [Got]
  cases isEq op with
  | none => rfl
  | some ng => cases ng <;> rfl
theorem DoBin_nil_nil : DoBin P op T (some .nilptr) (some .nilptr) K = Got (isEq op) fun ng => Need (isPtrT P T = true) (K (.bool (!ng))) := by
  rw [DoBin_ptr rfl rfl rfl]
  simp only [Got]
  cases isEq op with
  | none => rfl
  | some ng => cases ng <;> rfl
variable {d : Option Tmp} {ty : TypeId} {pos : String} {af : Array Edge} {g : Option (Nat × Bool)} {n : Nat} {t : Env} {H : Heap} {m : Nat} {K : Eff → Nat → Prop}
/-- Of a struct type: where its fields lie, and of which type they are. -/
def fldT (P : Program) (S : TypeId) (j : Nat) : Option (Nat × TypeId) := match P.underlying S with
  | some (.struct fs) => (fs[j]?).map fun f => (f.offset, f.type)
  | _ => none
theorem Do_field {S : TypeId} {x : Operand} {j : Nat} : Do P Z ⟨d, .field S x j, ty, pos, af, g⟩ ⟨n, t, H, m⟩ K = Got (St.ev ⟨n, t, H, m⟩ x) fun u => Got (aggAt u) fun vs => Got (fldT P S j) fun e => Got vs[j]? fun y => Need (e.1 = AV.sizeL (vs.take j) ∧ LoadOk P e.2 y) (K ⟨y, [], [], []⟩ m) := by
  simp only [Do, Got, Need, fldT, aggAt]
  cases h : St.ev ⟨n, t, H, m⟩ x with
  | none =>
    cases P.underlying S with
    | none => rfl
    | some D => cases D <;> rfl
  | some u =>
    cases P.underlying S with
    | none => cases u <;> rfl
    | some D =>
      cases D with
      | struct fs =>
        cases u with
        | agg vs =>
          simp only
          cases fs[j]? with
          | none => rfl
          | some f =>
            simp only [Option.map_some]
            cases vs[j]? <;> rfl
        | _ => rfl
      | _ => cases u <;> rfl
end
end Go.Proofs.Ytbhhbadeabhfcaa
