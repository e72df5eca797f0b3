/-
  No cell of these rows narrows 'for every input' (looked for: loops, veiled, ifaces, maps, wideKeys, modest, calm, conditions, laid).
  DERIVED. THE GIVEN ROWS OF THIS SEAT. 5 by the template 'for every input the law returns true; each argument reads behind the call as it read before'; 0 by the template 'total and deterministic' (their statements: YtimdepgenefkmaaTotals.lean).
  GIVEN WITH THE SEED: the statements are not yours to turn. If you find one false, say at which input.
  Laid BY PROGRAM, IN A SANDBOX (cutbox-rows.mjs): the forced cells as the released guide's own fill.sh prints them over the translation 4cdf383a0458bc85… (all of the seat's roots in one cut). By AI agents, Wed Nov 11 2026. No macro, syntax, notation, axiom, sorry.
-/
import Derived.Test.YtimdepgenefkmaaChecked
import GoSem.Claim
import GoSem.ClaimJoined
import GoSem.ClaimMapViews
import Derived.JoinedTies
import Derived.KernelRfl
namespace Go.Proofs.Ytimdepgenefkmaa
/- THE CELL 'sum', in the pinned program and in every row, IS THE sha256 OF THE DUMP (.gsa) THAT YtimdepgenefkmaaProg.lean LOADS. Nothing in Lean hashes anything: it is a label: what it is worth is what the hold of that sum in a sandbox is worth. -/
noncomputable def Try.pinned : Pinned := { name := "ytimdepgenefkmaa", sum := "4cdf383a0458bc852b67eb12074424f8666e0f3f0ff249aa2d2f92f939c25cb1", checked := Try.checked }
namespace Rows
def none {H : Type} : Left H := { results := [], args := [] }

/-- 'varvelaw09.ApplyRedo': WHATEVER THE INPUT: true; the input reads as it did. -/
def applyRedoSpec : ChangeSpec := { name := "applyRedo", fn := fun _ => fun
  | [d1, d2, d3] => { results := [.lit (.bool true)], args := [d1, d2, d3] }
  | _ => none }
def applyRedoRow : OpenClaim := { program := "ytimdepgenefkmaa", sum := "4cdf383a0458bc852b67eb12074424f8666e0f3f0ff249aa2d2f92f939c25cb1", func := "varve/varvelaw09.ApplyRedo", spec := "applyRedo", unfollowed := true, recurses := true, apart := false }
def ApplyRedoSaid : Prop := applyRedoRow.holds Try.pinned (OpenSpec.ofChange applyRedoSpec)

/-- ITS FALSE NEIGHBOUR: 'it returns false'. Refute it at one input. -/
def applyRedoWrong : ChangeSpec := { name := "applyRedo", fn := fun _ => fun
  | [d1, d2, d3] => { results := [.lit (.bool false)], args := [d1, d2, d3] }
  | _ => none }
def ApplyRedoWrongFalsely : Prop := applyRedoRow.holds Try.pinned (OpenSpec.ofChange applyRedoWrong)

/-- 'varvelaw09.ApplyReplay': WHATEVER THE INPUT: true; the input reads as it did. -/
def applyReplaySpec : ChangeSpec := { name := "applyReplay", fn := fun _ => fun
  | [d1, d2, d3] => { results := [.lit (.bool true)], args := [d1, d2, d3] }
  | _ => none }
def applyReplayRow : OpenClaim := { program := "ytimdepgenefkmaa", sum := "4cdf383a0458bc852b67eb12074424f8666e0f3f0ff249aa2d2f92f939c25cb1", func := "varve/varvelaw09.ApplyReplay", spec := "applyReplay", unfollowed := true, recurses := true, apart := false }
def ApplyReplaySaid : Prop := applyReplayRow.holds Try.pinned (OpenSpec.ofChange applyReplaySpec)

/-- ITS FALSE NEIGHBOUR: 'it returns false'. Refute it at one input. -/
def applyReplayWrong : ChangeSpec := { name := "applyReplay", fn := fun _ => fun
  | [d1, d2, d3] => { results := [.lit (.bool false)], args := [d1, d2, d3] }
  | _ => none }
def ApplyReplayWrongFalsely : Prop := applyReplayRow.holds Try.pinned (OpenSpec.ofChange applyReplayWrong)

/-- 'varvelaw09.ApplyTwice': WHATEVER THE INPUT: true; the input reads as it did. -/
def applyTwiceSpec : ChangeSpec := { name := "applyTwice", fn := fun _ => fun
  | [d1, d2, d3, d4] => { results := [.lit (.bool true)], args := [d1, d2, d3, d4] }
  | _ => none }
def applyTwiceRow : OpenClaim := { program := "ytimdepgenefkmaa", sum := "4cdf383a0458bc852b67eb12074424f8666e0f3f0ff249aa2d2f92f939c25cb1", func := "varve/varvelaw09.ApplyTwice", spec := "applyTwice", unfollowed := true, recurses := true, apart := false }
def ApplyTwiceSaid : Prop := applyTwiceRow.holds Try.pinned (OpenSpec.ofChange applyTwiceSpec)

/-- ITS FALSE NEIGHBOUR: 'it returns false'. Refute it at one input. -/
def applyTwiceWrong : ChangeSpec := { name := "applyTwice", fn := fun _ => fun
  | [d1, d2, d3, d4] => { results := [.lit (.bool false)], args := [d1, d2, d3, d4] }
  | _ => none }
def ApplyTwiceWrongFalsely : Prop := applyTwiceRow.holds Try.pinned (OpenSpec.ofChange applyTwiceWrong)

/-- 'varvelaw09.ApplyTorn': WHATEVER THE INPUT: true; the input reads as it did. -/
def applyTornSpec : ChangeSpec := { name := "applyTorn", fn := fun _ => fun
  | [d1, d2, d3, d4, d5] => { results := [.lit (.bool true)], args := [d1, d2, d3, d4, d5] }
  | _ => none }
def applyTornRow : OpenClaim := { program := "ytimdepgenefkmaa", sum := "4cdf383a0458bc852b67eb12074424f8666e0f3f0ff249aa2d2f92f939c25cb1", func := "varve/varvelaw09.ApplyTorn", spec := "applyTorn", unfollowed := true, recurses := true, apart := false }
def ApplyTornSaid : Prop := applyTornRow.holds Try.pinned (OpenSpec.ofChange applyTornSpec)

/-- ITS FALSE NEIGHBOUR: 'it returns false'. Refute it at one input. -/
def applyTornWrong : ChangeSpec := { name := "applyTorn", fn := fun _ => fun
  | [d1, d2, d3, d4, d5] => { results := [.lit (.bool false)], args := [d1, d2, d3, d4, d5] }
  | _ => none }
def ApplyTornWrongFalsely : Prop := applyTornRow.holds Try.pinned (OpenSpec.ofChange applyTornWrong)

/-- 'varvelaw09.ApplyApart': WHATEVER THE INPUT: true; the input reads as it did. -/
def applyApartSpec : ChangeSpec := { name := "applyApart", fn := fun _ => fun
  | [d1, d2, d3, d4] => { results := [.lit (.bool true)], args := [d1, d2, d3, d4] }
  | _ => none }
def applyApartRow : OpenClaim := { program := "ytimdepgenefkmaa", sum := "4cdf383a0458bc852b67eb12074424f8666e0f3f0ff249aa2d2f92f939c25cb1", func := "varve/varvelaw09.ApplyApart", spec := "applyApart", unfollowed := true, recurses := true, apart := false }
def ApplyApartSaid : Prop := applyApartRow.holds Try.pinned (OpenSpec.ofChange applyApartSpec)

/-- ITS FALSE NEIGHBOUR: 'it returns false'. Refute it at one input. -/
def applyApartWrong : ChangeSpec := { name := "applyApart", fn := fun _ => fun
  | [d1, d2, d3, d4] => { results := [.lit (.bool false)], args := [d1, d2, d3, d4] }
  | _ => none }
def ApplyApartWrongFalsely : Prop := applyApartRow.holds Try.pinned (OpenSpec.ofChange applyApartWrong)

/- THE SECOND FORM. 'bulk': how many values and letters a reading holds, each counted each time it is reached (what is shared counts as often as it is met; a slice's spare places count too). A statement '..UptoSaid' is the law's where the arguments, and the package variables that the reading takes, are together of bulk at most 1048576: NARROWER than '..Said'. Prove '..Said' where nothing that the law and all that it calls make is longer than what came in: it says more and counts as full. Else prove '..UptoSaid'. A law counts once. -/
mutual
def uptoBulk {H : Type} : DataW H → Nat
  | .lit (.string bytes) => bytes.length + 1
  | .lit _ => 1
  | .nil => 1
  | .ptr d => uptoBulk d + 1
  | .slice elems spare => uptoBulkAll elems + uptoBulkAll spare + 1
  | .agg parts => uptoBulkAll parts + 1
  | .iface _ d => uptoBulk d + 1
  | .map entries => uptoBulkEntries entries + 1
  | .held _ => 1
def uptoBulkAll {H : Type} : List (DataW H) → Nat
  | [] => 0
  | d :: r => uptoBulk d + uptoBulkAll r
def uptoBulkEntries {H : Type} : List (Lit × DataW H) → Nat
  | [] => 0
  | x :: r => uptoBulkEntry x + uptoBulkEntries r
def uptoBulkEntry {H : Type} : Lit × DataW H → Nat
  | (.string bytes, d) => bytes.length + uptoBulk d + 1
  | (_, d) => uptoBulk d + 1
 end
def uptoSmall : (H : Type) → List (DataW H) → Bool := fun _ ds => decide (uptoBulkAll ds ≤ 1048576)
def OpenSpec.upto (s : _root_.Go.ChangeSpec) : _root_.Go.OpenSpec := { _root_.Go.OpenSpec.ofChange s with cond := some uptoSmall }

/-- 'varvelaw09.ApplyRedo', WHERE WHAT IT READS IS OF BULK AT MOST 1048576: true; the input reads as it did. -/
def applyRedoUptoRow : OpenClaim := { program := "ytimdepgenefkmaa", sum := "4cdf383a0458bc852b67eb12074424f8666e0f3f0ff249aa2d2f92f939c25cb1", func := "varve/varvelaw09.ApplyRedo", spec := "applyRedo", unfollowed := true, recurses := true, apart := false, narrowed := true }
def ApplyRedoUptoSaid : Prop := applyRedoUptoRow.holds Try.pinned (OpenSpec.upto applyRedoSpec)

/-- 'varvelaw09.ApplyReplay', WHERE WHAT IT READS IS OF BULK AT MOST 1048576: true; the input reads as it did. -/
def applyReplayUptoRow : OpenClaim := { program := "ytimdepgenefkmaa", sum := "4cdf383a0458bc852b67eb12074424f8666e0f3f0ff249aa2d2f92f939c25cb1", func := "varve/varvelaw09.ApplyReplay", spec := "applyReplay", unfollowed := true, recurses := true, apart := false, narrowed := true }
def ApplyReplayUptoSaid : Prop := applyReplayUptoRow.holds Try.pinned (OpenSpec.upto applyReplaySpec)

/-- 'varvelaw09.ApplyTwice', WHERE WHAT IT READS IS OF BULK AT MOST 1048576: true; the input reads as it did. -/
def applyTwiceUptoRow : OpenClaim := { program := "ytimdepgenefkmaa", sum := "4cdf383a0458bc852b67eb12074424f8666e0f3f0ff249aa2d2f92f939c25cb1", func := "varve/varvelaw09.ApplyTwice", spec := "applyTwice", unfollowed := true, recurses := true, apart := false, narrowed := true }
def ApplyTwiceUptoSaid : Prop := applyTwiceUptoRow.holds Try.pinned (OpenSpec.upto applyTwiceSpec)

/-- 'varvelaw09.ApplyTorn', WHERE WHAT IT READS IS OF BULK AT MOST 1048576: true; the input reads as it did. -/
def applyTornUptoRow : OpenClaim := { program := "ytimdepgenefkmaa", sum := "4cdf383a0458bc852b67eb12074424f8666e0f3f0ff249aa2d2f92f939c25cb1", func := "varve/varvelaw09.ApplyTorn", spec := "applyTorn", unfollowed := true, recurses := true, apart := false, narrowed := true }
def ApplyTornUptoSaid : Prop := applyTornUptoRow.holds Try.pinned (OpenSpec.upto applyTornSpec)

/-- 'varvelaw09.ApplyApart', WHERE WHAT IT READS IS OF BULK AT MOST 1048576: true; the input reads as it did. -/
def applyApartUptoRow : OpenClaim := { program := "ytimdepgenefkmaa", sum := "4cdf383a0458bc852b67eb12074424f8666e0f3f0ff249aa2d2f92f939c25cb1", func := "varve/varvelaw09.ApplyApart", spec := "applyApart", unfollowed := true, recurses := true, apart := false, narrowed := true }
def ApplyApartUptoSaid : Prop := applyApartUptoRow.holds Try.pinned (OpenSpec.upto applyApartSpec)

end Rows
end Go.Proofs.Ytimdepgenefkmaa
