/-
  No cell of these rows narrows 'for every input' (looked for: loops, veiled, ifaces, maps, wideKeys, modest, calm, conditions, laid).
  DERIVED. THE GIVEN ROWS OF THIS SEAT. 7 by the template 'for every input the law returns true; each argument reads behind the call as it read before'; 0 by the template 'total and deterministic' (their statements: YtbhhbadeabhfcaaTotals.lean).
  GIVEN WITH THE SEED: the statements are not yours to turn. If you find one false, say at which input.
  Laid BY PROGRAM, IN A SANDBOX (cutbox-rows.mjs): the forced cells as the released guide's own fill.sh prints them over the translation 3d893c1ac484c73a… (all of the seat's roots in one cut). By AI agents, Wed Nov 11 2026. No macro, syntax, notation, axiom, sorry.
-/
import Derived.Test.YtbhhbadeabhfcaaChecked
import GoSem.Claim
import GoSem.ClaimJoined
import GoSem.ClaimMapViews
import Derived.JoinedTies
import Derived.KernelRfl
namespace Go.Proofs.Ytbhhbadeabhfcaa
/- THE CELL 'sum', in the pinned program and in every row, IS THE sha256 OF THE DUMP (.gsa) THAT YtbhhbadeabhfcaaProg.lean LOADS. Nothing in Lean hashes anything: it is a label: what it is worth is what the hold of that sum in a sandbox is worth. -/
noncomputable def Try.pinned : Pinned := { name := "ytbhhbadeabhfcaa", sum := "3d893c1ac484c73a935e70bc822700d679a14750c1828a5542b5a3df026f38c8", checked := Try.checked }
namespace Rows
def none {H : Type} : Left H := { results := [], args := [] }

/-- 'varvelaw10.RingPacks': WHATEVER THE INPUT: true; the input reads as it did. -/
def ringPacksSpec : ChangeSpec := { name := "ringPacks", fn := fun _ => fun
  | [d1, d2] => { results := [.lit (.bool true)], args := [d1, d2] }
  | _ => none }
def ringPacksRow : OpenClaim := { program := "ytbhhbadeabhfcaa", sum := "3d893c1ac484c73a935e70bc822700d679a14750c1828a5542b5a3df026f38c8", func := "varve/varvelaw10.RingPacks", spec := "ringPacks", apart := false }
def RingPacksSaid : Prop := ringPacksRow.holds Try.pinned (OpenSpec.ofChange ringPacksSpec)

/-- ITS FALSE NEIGHBOUR: 'it returns false'. Refute it at one input. -/
def ringPacksWrong : ChangeSpec := { name := "ringPacks", fn := fun _ => fun
  | [d1, d2] => { results := [.lit (.bool false)], args := [d1, d2] }
  | _ => none }
def RingPacksWrongFalsely : Prop := ringPacksRow.holds Try.pinned (OpenSpec.ofChange ringPacksWrong)

/-- 'varvelaw10.RingKeeps': WHATEVER THE INPUT: true; the input reads as it did. -/
def ringKeepsSpec : ChangeSpec := { name := "ringKeeps", fn := fun _ => fun
  | [d1, d2, d3] => { results := [.lit (.bool true)], args := [d1, d2, d3] }
  | _ => none }
def ringKeepsRow : OpenClaim := { program := "ytbhhbadeabhfcaa", sum := "3d893c1ac484c73a935e70bc822700d679a14750c1828a5542b5a3df026f38c8", func := "varve/varvelaw10.RingKeeps", spec := "ringKeeps", apart := false }
def RingKeepsSaid : Prop := ringKeepsRow.holds Try.pinned (OpenSpec.ofChange ringKeepsSpec)

/-- ITS FALSE NEIGHBOUR: 'it returns false'. Refute it at one input. -/
def ringKeepsWrong : ChangeSpec := { name := "ringKeeps", fn := fun _ => fun
  | [d1, d2, d3] => { results := [.lit (.bool false)], args := [d1, d2, d3] }
  | _ => none }
def RingKeepsWrongFalsely : Prop := ringKeepsRow.holds Try.pinned (OpenSpec.ofChange ringKeepsWrong)

/-- 'varvelaw10.RingBack': WHATEVER THE INPUT: true; the input reads as it did. -/
def ringBackSpec : ChangeSpec := { name := "ringBack", fn := fun _ => fun
  | [d1, d2, d3] => { results := [.lit (.bool true)], args := [d1, d2, d3] }
  | _ => none }
def ringBackRow : OpenClaim := { program := "ytbhhbadeabhfcaa", sum := "3d893c1ac484c73a935e70bc822700d679a14750c1828a5542b5a3df026f38c8", func := "varve/varvelaw10.RingBack", spec := "ringBack", apart := false }
def RingBackSaid : Prop := ringBackRow.holds Try.pinned (OpenSpec.ofChange ringBackSpec)

/-- ITS FALSE NEIGHBOUR: 'it returns false'. Refute it at one input. -/
def ringBackWrong : ChangeSpec := { name := "ringBack", fn := fun _ => fun
  | [d1, d2, d3] => { results := [.lit (.bool false)], args := [d1, d2, d3] }
  | _ => none }
def RingBackWrongFalsely : Prop := ringBackRow.holds Try.pinned (OpenSpec.ofChange ringBackWrong)

/-- 'varvelaw10.RingFrames': WHATEVER THE INPUT: true; the input reads as it did. -/
def ringFramesSpec : ChangeSpec := { name := "ringFrames", fn := fun _ => fun
  | [d] => { results := [.lit (.bool true)], args := [d] }
  | _ => none }
def ringFramesRow : OpenClaim := { program := "ytbhhbadeabhfcaa", sum := "3d893c1ac484c73a935e70bc822700d679a14750c1828a5542b5a3df026f38c8", func := "varve/varvelaw10.RingFrames", spec := "ringFrames", apart := false }
def RingFramesSaid : Prop := ringFramesRow.holds Try.pinned (OpenSpec.ofChange ringFramesSpec)

/-- ITS FALSE NEIGHBOUR: 'it returns false'. Refute it at one input. -/
def ringFramesWrong : ChangeSpec := { name := "ringFrames", fn := fun _ => fun
  | [d] => { results := [.lit (.bool false)], args := [d] }
  | _ => none }
def RingFramesWrongFalsely : Prop := ringFramesRow.holds Try.pinned (OpenSpec.ofChange ringFramesWrong)

/-- 'varvelaw10.RingJoins': WHATEVER THE INPUT: true; the input reads as it did. -/
def ringJoinsSpec : ChangeSpec := { name := "ringJoins", fn := fun _ => fun
  | [d1, d2] => { results := [.lit (.bool true)], args := [d1, d2] }
  | _ => none }
def ringJoinsRow : OpenClaim := { program := "ytbhhbadeabhfcaa", sum := "3d893c1ac484c73a935e70bc822700d679a14750c1828a5542b5a3df026f38c8", func := "varve/varvelaw10.RingJoins", spec := "ringJoins", apart := false }
def RingJoinsSaid : Prop := ringJoinsRow.holds Try.pinned (OpenSpec.ofChange ringJoinsSpec)

/-- ITS FALSE NEIGHBOUR: 'it returns false'. Refute it at one input. -/
def ringJoinsWrong : ChangeSpec := { name := "ringJoins", fn := fun _ => fun
  | [d1, d2] => { results := [.lit (.bool false)], args := [d1, d2] }
  | _ => none }
def RingJoinsWrongFalsely : Prop := ringJoinsRow.holds Try.pinned (OpenSpec.ofChange ringJoinsWrong)

/-- 'varvelaw10.RingItems': WHATEVER THE INPUT: true; the input reads as it did. -/
def ringItemsSpec : ChangeSpec := { name := "ringItems", fn := fun _ => fun
  | [d1, d2, d3] => { results := [.lit (.bool true)], args := [d1, d2, d3] }
  | _ => none }
def ringItemsRow : OpenClaim := { program := "ytbhhbadeabhfcaa", sum := "3d893c1ac484c73a935e70bc822700d679a14750c1828a5542b5a3df026f38c8", func := "varve/varvelaw10.RingItems", spec := "ringItems", unfollowed := true, recurses := true, apart := false }
def RingItemsSaid : Prop := ringItemsRow.holds Try.pinned (OpenSpec.ofChange ringItemsSpec)

/-- ITS FALSE NEIGHBOUR: 'it returns false'. Refute it at one input. -/
def ringItemsWrong : ChangeSpec := { name := "ringItems", fn := fun _ => fun
  | [d1, d2, d3] => { results := [.lit (.bool false)], args := [d1, d2, d3] }
  | _ => none }
def RingItemsWrongFalsely : Prop := ringItemsRow.holds Try.pinned (OpenSpec.ofChange ringItemsWrong)

/-- 'varvelaw10.RingWhole': WHATEVER THE INPUT: true; the input reads as it did. -/
def ringWholeSpec : ChangeSpec := { name := "ringWhole", fn := fun _ => fun
  | [d1, d2, d3] => { results := [.lit (.bool true)], args := [d1, d2, d3] }
  | _ => none }
def ringWholeRow : OpenClaim := { program := "ytbhhbadeabhfcaa", sum := "3d893c1ac484c73a935e70bc822700d679a14750c1828a5542b5a3df026f38c8", func := "varve/varvelaw10.RingWhole", spec := "ringWhole", unfollowed := true, recurses := true, apart := false }
def RingWholeSaid : Prop := ringWholeRow.holds Try.pinned (OpenSpec.ofChange ringWholeSpec)

/-- ITS FALSE NEIGHBOUR: 'it returns false'. Refute it at one input. -/
def ringWholeWrong : ChangeSpec := { name := "ringWhole", fn := fun _ => fun
  | [d1, d2, d3] => { results := [.lit (.bool false)], args := [d1, d2, d3] }
  | _ => none }
def RingWholeWrongFalsely : Prop := ringWholeRow.holds Try.pinned (OpenSpec.ofChange ringWholeWrong)

/- THE SECOND FORM. 'bulk': how many values and letters a reading holds, each counted each time it is reached (what is shared counts as often as it is met; a slice's spare places count too). A statement '..UptoSaid' is the law's where the arguments, and the package variables that the reading takes, are together of bulk at most 1048576: NARROWER than '..Said'. Prove '..Said' where nothing that the law and all that it calls make is longer than what came in: it says more and counts as full. Else prove '..UptoSaid'. A law counts once. -/
mutual
def uptoBulk {H : Type} : DataW H → Nat
  | .lit (.string bytes) => bytes.length + 1
  | .lit _ => 1
  | .nil => 1
  | .ptr d => uptoBulk d + 1
  | .slice elems spare => uptoBulkAll elems + uptoBulkAll spare + 1
  | .agg parts => uptoBulkAll parts + 1
  | .iface _ d => uptoBulk d + 1
  | .map entries => uptoBulkEntries entries + 1
  | .held _ => 1
def uptoBulkAll {H : Type} : List (DataW H) → Nat
  | [] => 0
  | d :: r => uptoBulk d + uptoBulkAll r
def uptoBulkEntries {H : Type} : List (Lit × DataW H) → Nat
  | [] => 0
  | x :: r => uptoBulkEntry x + uptoBulkEntries r
def uptoBulkEntry {H : Type} : Lit × DataW H → Nat
  | (.string bytes, d) => bytes.length + uptoBulk d + 1
  | (_, d) => uptoBulk d + 1
 end
def uptoSmall : (H : Type) → List (DataW H) → Bool := fun _ ds => decide (uptoBulkAll ds ≤ 1048576)
def OpenSpec.upto (s : _root_.Go.ChangeSpec) : _root_.Go.OpenSpec := { _root_.Go.OpenSpec.ofChange s with cond := some uptoSmall }

/-- 'varvelaw10.RingPacks', WHERE WHAT IT READS IS OF BULK AT MOST 1048576: true; the input reads as it did. -/
def ringPacksUptoRow : OpenClaim := { program := "ytbhhbadeabhfcaa", sum := "3d893c1ac484c73a935e70bc822700d679a14750c1828a5542b5a3df026f38c8", func := "varve/varvelaw10.RingPacks", spec := "ringPacks", apart := false, narrowed := true }
def RingPacksUptoSaid : Prop := ringPacksUptoRow.holds Try.pinned (OpenSpec.upto ringPacksSpec)

/-- 'varvelaw10.RingKeeps', WHERE WHAT IT READS IS OF BULK AT MOST 1048576: true; the input reads as it did. -/
def ringKeepsUptoRow : OpenClaim := { program := "ytbhhbadeabhfcaa", sum := "3d893c1ac484c73a935e70bc822700d679a14750c1828a5542b5a3df026f38c8", func := "varve/varvelaw10.RingKeeps", spec := "ringKeeps", apart := false, narrowed := true }
def RingKeepsUptoSaid : Prop := ringKeepsUptoRow.holds Try.pinned (OpenSpec.upto ringKeepsSpec)

/-- 'varvelaw10.RingBack', WHERE WHAT IT READS IS OF BULK AT MOST 1048576: true; the input reads as it did. -/
def ringBackUptoRow : OpenClaim := { program := "ytbhhbadeabhfcaa", sum := "3d893c1ac484c73a935e70bc822700d679a14750c1828a5542b5a3df026f38c8", func := "varve/varvelaw10.RingBack", spec := "ringBack", apart := false, narrowed := true }
def RingBackUptoSaid : Prop := ringBackUptoRow.holds Try.pinned (OpenSpec.upto ringBackSpec)

/-- 'varvelaw10.RingFrames', WHERE WHAT IT READS IS OF BULK AT MOST 1048576: true; the input reads as it did. -/
def ringFramesUptoRow : OpenClaim := { program := "ytbhhbadeabhfcaa", sum := "3d893c1ac484c73a935e70bc822700d679a14750c1828a5542b5a3df026f38c8", func := "varve/varvelaw10.RingFrames", spec := "ringFrames", apart := false, narrowed := true }
def RingFramesUptoSaid : Prop := ringFramesUptoRow.holds Try.pinned (OpenSpec.upto ringFramesSpec)

/-- 'varvelaw10.RingJoins', WHERE WHAT IT READS IS OF BULK AT MOST 1048576: true; the input reads as it did. -/
def ringJoinsUptoRow : OpenClaim := { program := "ytbhhbadeabhfcaa", sum := "3d893c1ac484c73a935e70bc822700d679a14750c1828a5542b5a3df026f38c8", func := "varve/varvelaw10.RingJoins", spec := "ringJoins", apart := false, narrowed := true }
def RingJoinsUptoSaid : Prop := ringJoinsUptoRow.holds Try.pinned (OpenSpec.upto ringJoinsSpec)

/-- 'varvelaw10.RingItems', WHERE WHAT IT READS IS OF BULK AT MOST 1048576: true; the input reads as it did. -/
def ringItemsUptoRow : OpenClaim := { program := "ytbhhbadeabhfcaa", sum := "3d893c1ac484c73a935e70bc822700d679a14750c1828a5542b5a3df026f38c8", func := "varve/varvelaw10.RingItems", spec := "ringItems", unfollowed := true, recurses := true, apart := false, narrowed := true }
def RingItemsUptoSaid : Prop := ringItemsUptoRow.holds Try.pinned (OpenSpec.upto ringItemsSpec)

/-- 'varvelaw10.RingWhole', WHERE WHAT IT READS IS OF BULK AT MOST 1048576: true; the input reads as it did. -/
def ringWholeUptoRow : OpenClaim := { program := "ytbhhbadeabhfcaa", sum := "3d893c1ac484c73a935e70bc822700d679a14750c1828a5542b5a3df026f38c8", func := "varve/varvelaw10.RingWhole", spec := "ringWhole", unfollowed := true, recurses := true, apart := false, narrowed := true }
def RingWholeUptoSaid : Prop := ringWholeUptoRow.holds Try.pinned (OpenSpec.upto ringWholeSpec)

end Rows
end Go.Proofs.Ytbhhbadeabhfcaa
