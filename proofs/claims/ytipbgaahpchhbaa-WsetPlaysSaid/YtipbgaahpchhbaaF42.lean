/- Values put into interfaces. -/
import Derived.Test.YtipbgaahpchhbaaF41
import Derived.Laws.Build
set_option linter.unusedVariables false
set_option linter.unusedSimpArgs false
namespace Go.Proofs.Ytipbgaahpchhbaa
open Go Go.RowKit

section
variable {P : Program} {Z : TypeId → Option AV} {d : Option Tmp} {ty : TypeId} {pos : String} {af : Array Edge} {g : Option (Nat × Bool)} {n : Nat} {t : Env} {H : Heap} {m : Nat} {K : Eff → Nat → Prop}

theorem ls_makeInterface {o : Oper} {ev : Operand → Option AV} {h : Nat → Option ABlk} {T : TypeId} {x : Operand} {v : AV} (ho : o.op = .makeInterface T x) (hx : ev x = some v) (hT : P.concrete T = true) (hv : ∀ vs, v ≠ .tuple vs) (hv2 : ∀ vs, v ≠ .agg vs) (hv3 : v ≠ .undef) : LS P o ev h ⟨.iface T v, [], [], []⟩ :=
  LS.value fun a w I ρ hev hrd => by
    have h1 := hev x (by simp [ho, Op.operands]) v hx
    rw [VRel_eq _ hv, XRel_eq _ hv hv2 hv3] at h1
    exact ⟨.iface T (a.eval x), CRel.iface T v _ h1, by
      have := run_makeInterface (P := P) w T (a.eval x) hT
      simp [execOp, ho, this, Result.andThen]⟩
theorem Do_makeInterface {T : TypeId} {x : Operand} : Do P Z ⟨d, .makeInterface T x, ty, pos, af, g⟩ ⟨n, t, H, m⟩ K = CallI P ⟨d, .makeInterface T x, ty, pos, af, g⟩ ⟨n, t, H, m⟩ K := rfl
theorem CallTo.makeInterface {o : Oper} {s : St} {T : TypeId} {x : Operand} (v : AV) (ho : o.op = .makeInterface T x) (hT : P.concrete T = true) (hx : s.ev x = some v) (hv : ∀ vs, v ≠ .tuple vs) (hv2 : ∀ vs, v ≠ .agg vs) (hv3 : v ≠ .undef)
    (h : K ⟨.iface T v, [], [], []⟩ s.nx) : CallTo P o s K := ⟨_, _, ls_makeInterface ho hx hT hv hv2 hv3, effOk_val _ _, h⟩
end
end Go.Proofs.Ytipbgaahpchhbaa
