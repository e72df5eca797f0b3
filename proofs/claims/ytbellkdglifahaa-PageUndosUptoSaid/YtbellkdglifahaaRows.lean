/-
  No cell of these rows narrows 'for every input' (looked for: loops, veiled, ifaces, maps, wideKeys, modest, calm, conditions, laid).
  DERIVED. THE GIVEN ROWS OF THIS SEAT. 6 by the template 'for every input the law returns true; each argument reads behind the call as it read before'; 0 by the template 'total and deterministic' (their statements: YtbellkdglifahaaTotals.lean).
  GIVEN WITH THE SEED: the statements are not yours to turn. If you find one false, say at which input.
  Laid BY PROGRAM, IN A SANDBOX (cutbox-rows.mjs): the forced cells as the released guide's own fill.sh prints them over the translation f96f186a79ac5a2e… (all of the seat's roots in one cut). By AI agents, Wed Nov 11 2026. No macro, syntax, notation, axiom, sorry.
-/
import Derived.Test.YtbellkdglifahaaChecked
import GoSem.Claim
import GoSem.ClaimJoined
import GoSem.ClaimMapViews
import Derived.JoinedTies
import Derived.KernelRfl
namespace Go.Proofs.Ytbellkdglifahaa
/- THE CELL 'sum', in the pinned program and in every row, IS THE sha256 OF THE DUMP (.gsa) THAT YtbellkdglifahaaProg.lean LOADS. Nothing in Lean hashes anything: it is a label: what it is worth is what the hold of that sum in a sandbox is worth. -/
noncomputable def Try.pinned : Pinned := { name := "ytbellkdglifahaa", sum := "f96f186a79ac5a2ee4d0edec176b30e495b72bf4a57a926b0ccead17c6529025", checked := Try.checked }
namespace Rows
def none {H : Type} : Left H := { results := [], args := [] }

/-- 'varvelaw06.PageData': WHATEVER THE INPUT: true; the input reads as it did. -/
def pageDataSpec : ChangeSpec := { name := "pageData", fn := fun _ => fun
  | [d1, d2, d3] => { results := [.lit (.bool true)], args := [d1, d2, d3] }
  | _ => none }
def pageDataRow : OpenClaim := { program := "ytbellkdglifahaa", sum := "f96f186a79ac5a2ee4d0edec176b30e495b72bf4a57a926b0ccead17c6529025", func := "varve/varvelaw06.PageData", spec := "pageData", apart := false }
def PageDataSaid : Prop := pageDataRow.holds Try.pinned (OpenSpec.ofChange pageDataSpec)

/-- ITS FALSE NEIGHBOUR: 'it returns false'. Refute it at one input. -/
def pageDataWrong : ChangeSpec := { name := "pageData", fn := fun _ => fun
  | [d1, d2, d3] => { results := [.lit (.bool false)], args := [d1, d2, d3] }
  | _ => none }
def PageDataWrongFalsely : Prop := pageDataRow.holds Try.pinned (OpenSpec.ofChange pageDataWrong)

/-- 'varvelaw06.PageUndos': WHATEVER THE INPUT: true; the input reads as it did. -/
def pageUndosSpec : ChangeSpec := { name := "pageUndos", fn := fun _ => fun
  | [d1, d2, d3] => { results := [.lit (.bool true)], args := [d1, d2, d3] }
  | _ => none }
def pageUndosRow : OpenClaim := { program := "ytbellkdglifahaa", sum := "f96f186a79ac5a2ee4d0edec176b30e495b72bf4a57a926b0ccead17c6529025", func := "varve/varvelaw06.PageUndos", spec := "pageUndos", apart := false }
def PageUndosSaid : Prop := pageUndosRow.holds Try.pinned (OpenSpec.ofChange pageUndosSpec)

/-- ITS FALSE NEIGHBOUR: 'it returns false'. Refute it at one input. -/
def pageUndosWrong : ChangeSpec := { name := "pageUndos", fn := fun _ => fun
  | [d1, d2, d3] => { results := [.lit (.bool false)], args := [d1, d2, d3] }
  | _ => none }
def PageUndosWrongFalsely : Prop := pageUndosRow.holds Try.pinned (OpenSpec.ofChange pageUndosWrong)

/-- 'varvelaw06.PageKinds': WHATEVER THE INPUT: true; the input reads as it did. -/
def pageKindsSpec : ChangeSpec := { name := "pageKinds", fn := fun _ => fun
  | [d1, d2, d3] => { results := [.lit (.bool true)], args := [d1, d2, d3] }
  | _ => none }
def pageKindsRow : OpenClaim := { program := "ytbellkdglifahaa", sum := "f96f186a79ac5a2ee4d0edec176b30e495b72bf4a57a926b0ccead17c6529025", func := "varve/varvelaw06.PageKinds", spec := "pageKinds", apart := false }
def PageKindsSaid : Prop := pageKindsRow.holds Try.pinned (OpenSpec.ofChange pageKindsSpec)

/-- ITS FALSE NEIGHBOUR: 'it returns false'. Refute it at one input. -/
def pageKindsWrong : ChangeSpec := { name := "pageKinds", fn := fun _ => fun
  | [d1, d2, d3] => { results := [.lit (.bool false)], args := [d1, d2, d3] }
  | _ => none }
def PageKindsWrongFalsely : Prop := pageKindsRow.holds Try.pinned (OpenSpec.ofChange pageKindsWrong)

/-- 'varvelaw06.PageBack': WHATEVER THE INPUT: true; the input reads as it did. -/
def pageBackSpec : ChangeSpec := { name := "pageBack", fn := fun _ => fun
  | [d1, d2, d3] => { results := [.lit (.bool true)], args := [d1, d2, d3] }
  | _ => none }
def pageBackRow : OpenClaim := { program := "ytbellkdglifahaa", sum := "f96f186a79ac5a2ee4d0edec176b30e495b72bf4a57a926b0ccead17c6529025", func := "varve/varvelaw06.PageBack", spec := "pageBack", apart := false }
def PageBackSaid : Prop := pageBackRow.holds Try.pinned (OpenSpec.ofChange pageBackSpec)

/-- ITS FALSE NEIGHBOUR: 'it returns false'. Refute it at one input. -/
def pageBackWrong : ChangeSpec := { name := "pageBack", fn := fun _ => fun
  | [d1, d2, d3] => { results := [.lit (.bool false)], args := [d1, d2, d3] }
  | _ => none }
def PageBackWrongFalsely : Prop := pageBackRow.holds Try.pinned (OpenSpec.ofChange pageBackWrong)

/-- 'varvelaw06.PageTurned': WHATEVER THE INPUT: true; the input reads as it did. -/
def pageTurnedSpec : ChangeSpec := { name := "pageTurned", fn := fun _ => fun
  | [d1, d2, d3, d4, d5] => { results := [.lit (.bool true)], args := [d1, d2, d3, d4, d5] }
  | _ => none }
def pageTurnedRow : OpenClaim := { program := "ytbellkdglifahaa", sum := "f96f186a79ac5a2ee4d0edec176b30e495b72bf4a57a926b0ccead17c6529025", func := "varve/varvelaw06.PageTurned", spec := "pageTurned", apart := false }
def PageTurnedSaid : Prop := pageTurnedRow.holds Try.pinned (OpenSpec.ofChange pageTurnedSpec)

/-- ITS FALSE NEIGHBOUR: 'it returns false'. Refute it at one input. -/
def pageTurnedWrong : ChangeSpec := { name := "pageTurned", fn := fun _ => fun
  | [d1, d2, d3, d4, d5] => { results := [.lit (.bool false)], args := [d1, d2, d3, d4, d5] }
  | _ => none }
def PageTurnedWrongFalsely : Prop := pageTurnedRow.holds Try.pinned (OpenSpec.ofChange pageTurnedWrong)

/-- 'varvelaw06.PageUnlike': WHATEVER THE INPUT: true; the input reads as it did. -/
def pageUnlikeSpec : ChangeSpec := { name := "pageUnlike", fn := fun _ => fun
  | [d1, d2, d3, d4] => { results := [.lit (.bool true)], args := [d1, d2, d3, d4] }
  | _ => none }
def pageUnlikeRow : OpenClaim := { program := "ytbellkdglifahaa", sum := "f96f186a79ac5a2ee4d0edec176b30e495b72bf4a57a926b0ccead17c6529025", func := "varve/varvelaw06.PageUnlike", spec := "pageUnlike", apart := false }
def PageUnlikeSaid : Prop := pageUnlikeRow.holds Try.pinned (OpenSpec.ofChange pageUnlikeSpec)

/-- ITS FALSE NEIGHBOUR: 'it returns false'. Refute it at one input. -/
def pageUnlikeWrong : ChangeSpec := { name := "pageUnlike", fn := fun _ => fun
  | [d1, d2, d3, d4] => { results := [.lit (.bool false)], args := [d1, d2, d3, d4] }
  | _ => none }
def PageUnlikeWrongFalsely : Prop := pageUnlikeRow.holds Try.pinned (OpenSpec.ofChange pageUnlikeWrong)

/- THE SECOND FORM. 'bulk': how many values and letters a reading holds, each counted each time it is reached (what is shared counts as often as it is met; a slice's spare places count too). A statement '..UptoSaid' is the law's where the arguments, and the package variables that the reading takes, are together of bulk at most 1048576: NARROWER than '..Said'. Prove '..Said' where nothing that the law and all that it calls make is longer than what came in: it says more and counts as full. Else prove '..UptoSaid'. A law counts once. -/
mutual
def uptoBulk {H : Type} : DataW H → Nat
  | .lit (.string bytes) => bytes.length + 1
  | .lit _ => 1
  | .nil => 1
  | .ptr d => uptoBulk d + 1
  | .slice elems spare => uptoBulkAll elems + uptoBulkAll spare + 1
  | .agg parts => uptoBulkAll parts + 1
  | .iface _ d => uptoBulk d + 1
  | .map entries => uptoBulkEntries entries + 1
  | .held _ => 1
def uptoBulkAll {H : Type} : List (DataW H) → Nat
  | [] => 0
  | d :: r => uptoBulk d + uptoBulkAll r
def uptoBulkEntries {H : Type} : List (Lit × DataW H) → Nat
  | [] => 0
  | x :: r => uptoBulkEntry x + uptoBulkEntries r
def uptoBulkEntry {H : Type} : Lit × DataW H → Nat
  | (.string bytes, d) => bytes.length + uptoBulk d + 1
  | (_, d) => uptoBulk d + 1
 end
def uptoSmall : (H : Type) → List (DataW H) → Bool := fun _ ds => decide (uptoBulkAll ds ≤ 1048576)
def OpenSpec.upto (s : _root_.Go.ChangeSpec) : _root_.Go.OpenSpec := { _root_.Go.OpenSpec.ofChange s with cond := some uptoSmall }

/-- 'varvelaw06.PageData', WHERE WHAT IT READS IS OF BULK AT MOST 1048576: true; the input reads as it did. -/
def pageDataUptoRow : OpenClaim := { program := "ytbellkdglifahaa", sum := "f96f186a79ac5a2ee4d0edec176b30e495b72bf4a57a926b0ccead17c6529025", func := "varve/varvelaw06.PageData", spec := "pageData", apart := false, narrowed := true }
def PageDataUptoSaid : Prop := pageDataUptoRow.holds Try.pinned (OpenSpec.upto pageDataSpec)

/-- 'varvelaw06.PageUndos', WHERE WHAT IT READS IS OF BULK AT MOST 1048576: true; the input reads as it did. -/
def pageUndosUptoRow : OpenClaim := { program := "ytbellkdglifahaa", sum := "f96f186a79ac5a2ee4d0edec176b30e495b72bf4a57a926b0ccead17c6529025", func := "varve/varvelaw06.PageUndos", spec := "pageUndos", apart := false, narrowed := true }
def PageUndosUptoSaid : Prop := pageUndosUptoRow.holds Try.pinned (OpenSpec.upto pageUndosSpec)

/-- 'varvelaw06.PageKinds', WHERE WHAT IT READS IS OF BULK AT MOST 1048576: true; the input reads as it did. -/
def pageKindsUptoRow : OpenClaim := { program := "ytbellkdglifahaa", sum := "f96f186a79ac5a2ee4d0edec176b30e495b72bf4a57a926b0ccead17c6529025", func := "varve/varvelaw06.PageKinds", spec := "pageKinds", apart := false, narrowed := true }
def PageKindsUptoSaid : Prop := pageKindsUptoRow.holds Try.pinned (OpenSpec.upto pageKindsSpec)

/-- 'varvelaw06.PageBack', WHERE WHAT IT READS IS OF BULK AT MOST 1048576: true; the input reads as it did. -/
def pageBackUptoRow : OpenClaim := { program := "ytbellkdglifahaa", sum := "f96f186a79ac5a2ee4d0edec176b30e495b72bf4a57a926b0ccead17c6529025", func := "varve/varvelaw06.PageBack", spec := "pageBack", apart := false, narrowed := true }
def PageBackUptoSaid : Prop := pageBackUptoRow.holds Try.pinned (OpenSpec.upto pageBackSpec)

/-- 'varvelaw06.PageTurned', WHERE WHAT IT READS IS OF BULK AT MOST 1048576: true; the input reads as it did. -/
def pageTurnedUptoRow : OpenClaim := { program := "ytbellkdglifahaa", sum := "f96f186a79ac5a2ee4d0edec176b30e495b72bf4a57a926b0ccead17c6529025", func := "varve/varvelaw06.PageTurned", spec := "pageTurned", apart := false, narrowed := true }
def PageTurnedUptoSaid : Prop := pageTurnedUptoRow.holds Try.pinned (OpenSpec.upto pageTurnedSpec)

/-- 'varvelaw06.PageUnlike', WHERE WHAT IT READS IS OF BULK AT MOST 1048576: true; the input reads as it did. -/
def pageUnlikeUptoRow : OpenClaim := { program := "ytbellkdglifahaa", sum := "f96f186a79ac5a2ee4d0edec176b30e495b72bf4a57a926b0ccead17c6529025", func := "varve/varvelaw06.PageUnlike", spec := "pageUnlike", apart := false, narrowed := true }
def PageUnlikeUptoSaid : Prop := pageUnlikeUptoRow.holds Try.pinned (OpenSpec.upto pageUnlikeSpec)

end Rows
end Go.Proofs.Ytbellkdglifahaa
