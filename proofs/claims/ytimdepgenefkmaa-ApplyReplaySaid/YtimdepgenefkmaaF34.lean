import Derived.Test.YtimdepgenefkmaaF27
set_option linter.unusedVariables false
set_option linter.unusedSimpArgs false
namespace Go.Proofs.Ytimdepgenefkmaa
open Go Go.RowKit

inductive DRel {H : Type} : DataW H → AV → Prop
  | bool (b : Bool) : DRel (.lit (.bool b)) (.bool b)
  | int (k : IntKind) (n : Int) : DRel (.lit (.int k n)) (.int k n)
  | str (s : ByteArray) : DRel (.lit (.string s.data.toList)) (.str s)
  | nil : DRel .nil (.vsl [] 0)
  | slice (ds sp : List (DataW H)) (es : List AV) : ds.length = es.length → (∀ (i : Nat) (d : DataW H) (u : AV), ds[i]? = some d → es[i]? = some u → DRel d u) → DRel (.slice ds sp) (.vsl es es.length)
  | agg (ds : List (DataW H)) (us : List AV) : ds.length = us.length → (∀ (i : Nat) (d : DataW H) (u : AV), ds[i]? = some d → us[i]? = some u → DRel d u) → DRel (.agg ds) (.agg us)

section
variable {P : Program} {w : World} {ρ : Rho}

end
end Go.Proofs.Ytimdepgenefkmaa
