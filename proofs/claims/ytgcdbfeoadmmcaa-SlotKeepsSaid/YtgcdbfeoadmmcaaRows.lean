/-
  No cell of these rows narrows 'for every input' (looked for: loops, veiled, ifaces, maps, wideKeys, modest, calm, conditions, laid).
  DERIVED. THE GIVEN ROWS OF THIS SEAT. 4 by the template 'for every input the law returns true; each argument reads behind the call as it read before'; 0 by the template 'total and deterministic' (their statements: YtgcdbfeoadmmcaaTotals.lean).
  GIVEN WITH THE SEED: the statements are not yours to turn. If you find one false, say at which input.
  Laid BY PROGRAM, IN A SANDBOX (cutbox-rows.mjs): the forced cells as the released guide's own fill.sh prints them over the translation 01f68462a0b7a611… (all of the seat's roots in one cut). By AI agents, Wed Nov 11 2026. No macro, syntax, notation, axiom, sorry.
-/
import Derived.Test.YtgcdbfeoadmmcaaChecked
import GoSem.Claim
import GoSem.ClaimJoined
import GoSem.ClaimMapViews
import Derived.JoinedTies
import Derived.KernelRfl
namespace Go.Proofs.Ytgcdbfeoadmmcaa
/- THE CELL 'sum', in the pinned program and in every row, IS THE sha256 OF THE DUMP (.gsa) THAT YtgcdbfeoadmmcaaProg.lean LOADS. Nothing in Lean hashes anything: it is a label: what it is worth is what the hold of that sum in a sandbox is worth. -/
noncomputable def Try.pinned : Pinned := { name := "ytgcdbfeoadmmcaa", sum := "01f68462a0b7a61199591555ead15426efe7054feac83cc751725a881647d259", checked := Try.checked }
namespace Rows
def none {H : Type} : Left H := { results := [], args := [] }

/-- 'varvelaw07.SlotFits': WHATEVER THE INPUT: true; the input reads as it did. -/
def slotFitsSpec : ChangeSpec := { name := "slotFits", fn := fun _ => fun
  | [d1, d2, d3] => { results := [.lit (.bool true)], args := [d1, d2, d3] }
  | _ => none }
def slotFitsRow : OpenClaim := { program := "ytgcdbfeoadmmcaa", sum := "01f68462a0b7a61199591555ead15426efe7054feac83cc751725a881647d259", func := "varve/varvelaw07.SlotFits", spec := "slotFits", apart := false }
def SlotFitsSaid : Prop := slotFitsRow.holds Try.pinned (OpenSpec.ofChange slotFitsSpec)

/-- ITS FALSE NEIGHBOUR: 'it returns false'. Refute it at one input. -/
def slotFitsWrong : ChangeSpec := { name := "slotFits", fn := fun _ => fun
  | [d1, d2, d3] => { results := [.lit (.bool false)], args := [d1, d2, d3] }
  | _ => none }
def SlotFitsWrongFalsely : Prop := slotFitsRow.holds Try.pinned (OpenSpec.ofChange slotFitsWrong)

/-- 'varvelaw07.SlotBack': WHATEVER THE INPUT: true; the input reads as it did. -/
def slotBackSpec : ChangeSpec := { name := "slotBack", fn := fun _ => fun
  | [d1, d2] => { results := [.lit (.bool true)], args := [d1, d2] }
  | _ => none }
def slotBackRow : OpenClaim := { program := "ytgcdbfeoadmmcaa", sum := "01f68462a0b7a61199591555ead15426efe7054feac83cc751725a881647d259", func := "varve/varvelaw07.SlotBack", spec := "slotBack", apart := false }
def SlotBackSaid : Prop := slotBackRow.holds Try.pinned (OpenSpec.ofChange slotBackSpec)

/-- ITS FALSE NEIGHBOUR: 'it returns false'. Refute it at one input. -/
def slotBackWrong : ChangeSpec := { name := "slotBack", fn := fun _ => fun
  | [d1, d2] => { results := [.lit (.bool false)], args := [d1, d2] }
  | _ => none }
def SlotBackWrongFalsely : Prop := slotBackRow.holds Try.pinned (OpenSpec.ofChange slotBackWrong)

/-- 'varvelaw07.SlotFull': WHATEVER THE INPUT: true; the input reads as it did. -/
def slotFullSpec : ChangeSpec := { name := "slotFull", fn := fun _ => fun
  | [d1, d2] => { results := [.lit (.bool true)], args := [d1, d2] }
  | _ => none }
def slotFullRow : OpenClaim := { program := "ytgcdbfeoadmmcaa", sum := "01f68462a0b7a61199591555ead15426efe7054feac83cc751725a881647d259", func := "varve/varvelaw07.SlotFull", spec := "slotFull", apart := false }
def SlotFullSaid : Prop := slotFullRow.holds Try.pinned (OpenSpec.ofChange slotFullSpec)

/-- ITS FALSE NEIGHBOUR: 'it returns false'. Refute it at one input. -/
def slotFullWrong : ChangeSpec := { name := "slotFull", fn := fun _ => fun
  | [d1, d2] => { results := [.lit (.bool false)], args := [d1, d2] }
  | _ => none }
def SlotFullWrongFalsely : Prop := slotFullRow.holds Try.pinned (OpenSpec.ofChange slotFullWrong)

/-- 'varvelaw07.SlotKeeps': WHATEVER THE INPUT: true; the input reads as it did. -/
def slotKeepsSpec : ChangeSpec := { name := "slotKeeps", fn := fun _ => fun
  | [d1, d2] => { results := [.lit (.bool true)], args := [d1, d2] }
  | _ => none }
def slotKeepsRow : OpenClaim := { program := "ytgcdbfeoadmmcaa", sum := "01f68462a0b7a61199591555ead15426efe7054feac83cc751725a881647d259", func := "varve/varvelaw07.SlotKeeps", spec := "slotKeeps", apart := false }
def SlotKeepsSaid : Prop := slotKeepsRow.holds Try.pinned (OpenSpec.ofChange slotKeepsSpec)

/-- ITS FALSE NEIGHBOUR: 'it returns false'. Refute it at one input. -/
def slotKeepsWrong : ChangeSpec := { name := "slotKeeps", fn := fun _ => fun
  | [d1, d2] => { results := [.lit (.bool false)], args := [d1, d2] }
  | _ => none }
def SlotKeepsWrongFalsely : Prop := slotKeepsRow.holds Try.pinned (OpenSpec.ofChange slotKeepsWrong)

/- THE SECOND FORM. 'bulk': how many values and letters a reading holds, each counted each time it is reached (what is shared counts as often as it is met; a slice's spare places count too). A statement '..UptoSaid' is the law's where the arguments, and the package variables that the reading takes, are together of bulk at most 1048576: NARROWER than '..Said'. Prove '..Said' where nothing that the law and all that it calls make is longer than what came in: it says more and counts as full. Else prove '..UptoSaid'. A law counts once. -/
mutual
def uptoBulk {H : Type} : DataW H → Nat
  | .lit (.string bytes) => bytes.length + 1
  | .lit _ => 1
  | .nil => 1
  | .ptr d => uptoBulk d + 1
  | .slice elems spare => uptoBulkAll elems + uptoBulkAll spare + 1
  | .agg parts => uptoBulkAll parts + 1
  | .iface _ d => uptoBulk d + 1
  | .map entries => uptoBulkEntries entries + 1
  | .held _ => 1
def uptoBulkAll {H : Type} : List (DataW H) → Nat
  | [] => 0
  | d :: r => uptoBulk d + uptoBulkAll r
def uptoBulkEntries {H : Type} : List (Lit × DataW H) → Nat
  | [] => 0
  | x :: r => uptoBulkEntry x + uptoBulkEntries r
def uptoBulkEntry {H : Type} : Lit × DataW H → Nat
  | (.string bytes, d) => bytes.length + uptoBulk d + 1
  | (_, d) => uptoBulk d + 1
 end
def uptoSmall : (H : Type) → List (DataW H) → Bool := fun _ ds => decide (uptoBulkAll ds ≤ 1048576)
def OpenSpec.upto (s : _root_.Go.ChangeSpec) : _root_.Go.OpenSpec := { _root_.Go.OpenSpec.ofChange s with cond := some uptoSmall }

/-- 'varvelaw07.SlotFits', WHERE WHAT IT READS IS OF BULK AT MOST 1048576: true; the input reads as it did. -/
def slotFitsUptoRow : OpenClaim := { program := "ytgcdbfeoadmmcaa", sum := "01f68462a0b7a61199591555ead15426efe7054feac83cc751725a881647d259", func := "varve/varvelaw07.SlotFits", spec := "slotFits", apart := false, narrowed := true }
def SlotFitsUptoSaid : Prop := slotFitsUptoRow.holds Try.pinned (OpenSpec.upto slotFitsSpec)

/-- 'varvelaw07.SlotBack', WHERE WHAT IT READS IS OF BULK AT MOST 1048576: true; the input reads as it did. -/
def slotBackUptoRow : OpenClaim := { program := "ytgcdbfeoadmmcaa", sum := "01f68462a0b7a61199591555ead15426efe7054feac83cc751725a881647d259", func := "varve/varvelaw07.SlotBack", spec := "slotBack", apart := false, narrowed := true }
def SlotBackUptoSaid : Prop := slotBackUptoRow.holds Try.pinned (OpenSpec.upto slotBackSpec)

/-- 'varvelaw07.SlotFull', WHERE WHAT IT READS IS OF BULK AT MOST 1048576: true; the input reads as it did. -/
def slotFullUptoRow : OpenClaim := { program := "ytgcdbfeoadmmcaa", sum := "01f68462a0b7a61199591555ead15426efe7054feac83cc751725a881647d259", func := "varve/varvelaw07.SlotFull", spec := "slotFull", apart := false, narrowed := true }
def SlotFullUptoSaid : Prop := slotFullUptoRow.holds Try.pinned (OpenSpec.upto slotFullSpec)

/-- 'varvelaw07.SlotKeeps', WHERE WHAT IT READS IS OF BULK AT MOST 1048576: true; the input reads as it did. -/
def slotKeepsUptoRow : OpenClaim := { program := "ytgcdbfeoadmmcaa", sum := "01f68462a0b7a61199591555ead15426efe7054feac83cc751725a881647d259", func := "varve/varvelaw07.SlotKeeps", spec := "slotKeeps", apart := false, narrowed := true }
def SlotKeepsUptoSaid : Prop := slotKeepsUptoRow.holds Try.pinned (OpenSpec.upto slotKeepsSpec)

end Rows
end Go.Proofs.Ytgcdbfeoadmmcaa
