/-
  No cell of these rows narrows 'for every input' (looked for: loops, veiled, ifaces, maps, wideKeys, modest, calm, conditions, laid).
  DERIVED. THE GIVEN ROWS OF THIS SEAT. 4 by the template 'for every input the law returns true; each argument reads behind the call as it read before'; 0 by the template 'total and deterministic' (their statements: YtipbgaahpchhbaaTotals.lean).
  GIVEN WITH THE SEED: the statements are not yours to turn. If you find one false, say at which input.
  Laid BY PROGRAM, IN A SANDBOX (cutbox-rows.mjs): the forced cells as the released guide's own fill.sh prints them over the translation 13ad78037ede95c4… (all of the seat's roots in one cut). By AI agents, Wed Nov 11 2026. No macro, syntax, notation, axiom, sorry.
-/
import Derived.Test.YtipbgaahpchhbaaChecked
import GoSem.Claim
import GoSem.ClaimJoined
import GoSem.ClaimMapViews
import Derived.JoinedTies
import Derived.KernelRfl
namespace Go.Proofs.Ytipbgaahpchhbaa
/- THE CELL 'sum', in the pinned program and in every row, IS THE sha256 OF THE DUMP (.gsa) THAT YtipbgaahpchhbaaProg.lean LOADS. Nothing in Lean hashes anything: it is a label: what it is worth is what the hold of that sum in a sandbox is worth. -/
noncomputable def Try.pinned : Pinned := { name := "ytipbgaahpchhbaa", sum := "13ad78037ede95c4b3f8464545bf57e51fa2ea304e68f45f1af821f8419262ad", checked := Try.checked }
namespace Rows
def none {H : Type} : Left H := { results := [], args := [] }

/-- 'varvelaw16.WsetApart': WHATEVER THE INPUT: true; the input reads as it did. -/
def wsetApartSpec : ChangeSpec := { name := "wsetApart", fn := fun _ => fun
  | [d1, d2] => { results := [.lit (.bool true)], args := [d1, d2] }
  | _ => none }
def wsetApartRow : OpenClaim := { program := "ytipbgaahpchhbaa", sum := "13ad78037ede95c4b3f8464545bf57e51fa2ea304e68f45f1af821f8419262ad", func := "varve/varvelaw16.WsetApart", spec := "wsetApart", inPlace := ["internal/reflectlite.ValueOf", "internal/reflectlite.Swapper", "(internal/reflectlite.Value).Len"], unfollowed := true, recurses := true, apart := false }
def WsetApartSaid : Prop := wsetApartRow.holds Try.pinned (OpenSpec.ofChange wsetApartSpec)

/-- ITS FALSE NEIGHBOUR: 'it returns false'. Refute it at one input. -/
def wsetApartWrong : ChangeSpec := { name := "wsetApart", fn := fun _ => fun
  | [d1, d2] => { results := [.lit (.bool false)], args := [d1, d2] }
  | _ => none }
def WsetApartWrongFalsely : Prop := wsetApartRow.holds Try.pinned (OpenSpec.ofChange wsetApartWrong)

/-- 'varvelaw16.WsetPlays': WHATEVER THE INPUT: true; the input reads as it did. -/
def wsetPlaysSpec : ChangeSpec := { name := "wsetPlays", fn := fun _ => fun
  | [d] => { results := [.lit (.bool true)], args := [d] }
  | _ => none }
def wsetPlaysRow : OpenClaim := { program := "ytipbgaahpchhbaa", sum := "13ad78037ede95c4b3f8464545bf57e51fa2ea304e68f45f1af821f8419262ad", func := "varve/varvelaw16.WsetPlays", spec := "wsetPlays", inPlace := ["internal/reflectlite.ValueOf", "internal/reflectlite.Swapper", "(internal/reflectlite.Value).Len"], unfollowed := true, recurses := true, apart := false }
def WsetPlaysSaid : Prop := wsetPlaysRow.holds Try.pinned (OpenSpec.ofChange wsetPlaysSpec)

/-- ITS FALSE NEIGHBOUR: 'it returns false'. Refute it at one input. -/
def wsetPlaysWrong : ChangeSpec := { name := "wsetPlays", fn := fun _ => fun
  | [d] => { results := [.lit (.bool false)], args := [d] }
  | _ => none }
def WsetPlaysWrongFalsely : Prop := wsetPlaysRow.holds Try.pinned (OpenSpec.ofChange wsetPlaysWrong)

/-- 'varvelaw16.WsetNone': WHATEVER THE INPUT: true; the input reads as it did. -/
def wsetNoneSpec : ChangeSpec := { name := "wsetNone", fn := fun _ => fun
  | [d] => { results := [.lit (.bool true)], args := [d] }
  | _ => none }
def wsetNoneRow : OpenClaim := { program := "ytipbgaahpchhbaa", sum := "13ad78037ede95c4b3f8464545bf57e51fa2ea304e68f45f1af821f8419262ad", func := "varve/varvelaw16.WsetNone", spec := "wsetNone", inPlace := ["internal/reflectlite.ValueOf", "internal/reflectlite.Swapper", "(internal/reflectlite.Value).Len"], unfollowed := true, recurses := true, apart := false }
def WsetNoneSaid : Prop := wsetNoneRow.holds Try.pinned (OpenSpec.ofChange wsetNoneSpec)

/-- ITS FALSE NEIGHBOUR: 'it returns false'. Refute it at one input. -/
def wsetNoneWrong : ChangeSpec := { name := "wsetNone", fn := fun _ => fun
  | [d] => { results := [.lit (.bool false)], args := [d] }
  | _ => none }
def WsetNoneWrongFalsely : Prop := wsetNoneRow.holds Try.pinned (OpenSpec.ofChange wsetNoneWrong)

/-- 'varvelaw16.WsetDeltas': WHATEVER THE INPUT: true; the input reads as it did. -/
def wsetDeltasSpec : ChangeSpec := { name := "wsetDeltas", fn := fun _ => fun
  | [d] => { results := [.lit (.bool true)], args := [d] }
  | _ => none }
def wsetDeltasRow : OpenClaim := { program := "ytipbgaahpchhbaa", sum := "13ad78037ede95c4b3f8464545bf57e51fa2ea304e68f45f1af821f8419262ad", func := "varve/varvelaw16.WsetDeltas", spec := "wsetDeltas", inPlace := ["internal/reflectlite.ValueOf", "internal/reflectlite.Swapper", "(internal/reflectlite.Value).Len"], unfollowed := true, recurses := true, apart := false }
def WsetDeltasSaid : Prop := wsetDeltasRow.holds Try.pinned (OpenSpec.ofChange wsetDeltasSpec)

/-- ITS FALSE NEIGHBOUR: 'it returns false'. Refute it at one input. -/
def wsetDeltasWrong : ChangeSpec := { name := "wsetDeltas", fn := fun _ => fun
  | [d] => { results := [.lit (.bool false)], args := [d] }
  | _ => none }
def WsetDeltasWrongFalsely : Prop := wsetDeltasRow.holds Try.pinned (OpenSpec.ofChange wsetDeltasWrong)

/- THE SECOND FORM. 'bulk': how many values and letters a reading holds, each counted each time it is reached (what is shared counts as often as it is met; a slice's spare places count too). A statement '..UptoSaid' is the law's where the arguments, and the package variables that the reading takes, are together of bulk at most 1048576: NARROWER than '..Said'. Prove '..Said' where nothing that the law and all that it calls make is longer than what came in: it says more and counts as full. Else prove '..UptoSaid'. A law counts once. -/
mutual
def uptoBulk {H : Type} : DataW H → Nat
  | .lit (.string bytes) => bytes.length + 1
  | .lit _ => 1
  | .nil => 1
  | .ptr d => uptoBulk d + 1
  | .slice elems spare => uptoBulkAll elems + uptoBulkAll spare + 1
  | .agg parts => uptoBulkAll parts + 1
  | .iface _ d => uptoBulk d + 1
  | .map entries => uptoBulkEntries entries + 1
  | .held _ => 1
def uptoBulkAll {H : Type} : List (DataW H) → Nat
  | [] => 0
  | d :: r => uptoBulk d + uptoBulkAll r
def uptoBulkEntries {H : Type} : List (Lit × DataW H) → Nat
  | [] => 0
  | x :: r => uptoBulkEntry x + uptoBulkEntries r
def uptoBulkEntry {H : Type} : Lit × DataW H → Nat
  | (.string bytes, d) => bytes.length + uptoBulk d + 1
  | (_, d) => uptoBulk d + 1
 end
def uptoSmall : (H : Type) → List (DataW H) → Bool := fun _ ds => decide (uptoBulkAll ds ≤ 1048576)
def OpenSpec.upto (s : _root_.Go.ChangeSpec) : _root_.Go.OpenSpec := { _root_.Go.OpenSpec.ofChange s with cond := some uptoSmall }

/-- 'varvelaw16.WsetApart', WHERE WHAT IT READS IS OF BULK AT MOST 1048576: true; the input reads as it did. -/
def wsetApartUptoRow : OpenClaim := { program := "ytipbgaahpchhbaa", sum := "13ad78037ede95c4b3f8464545bf57e51fa2ea304e68f45f1af821f8419262ad", func := "varve/varvelaw16.WsetApart", spec := "wsetApart", inPlace := ["internal/reflectlite.ValueOf", "internal/reflectlite.Swapper", "(internal/reflectlite.Value).Len"], unfollowed := true, recurses := true, apart := false, narrowed := true }
def WsetApartUptoSaid : Prop := wsetApartUptoRow.holds Try.pinned (OpenSpec.upto wsetApartSpec)

/-- 'varvelaw16.WsetPlays', WHERE WHAT IT READS IS OF BULK AT MOST 1048576: true; the input reads as it did. -/
def wsetPlaysUptoRow : OpenClaim := { program := "ytipbgaahpchhbaa", sum := "13ad78037ede95c4b3f8464545bf57e51fa2ea304e68f45f1af821f8419262ad", func := "varve/varvelaw16.WsetPlays", spec := "wsetPlays", inPlace := ["internal/reflectlite.ValueOf", "internal/reflectlite.Swapper", "(internal/reflectlite.Value).Len"], unfollowed := true, recurses := true, apart := false, narrowed := true }
def WsetPlaysUptoSaid : Prop := wsetPlaysUptoRow.holds Try.pinned (OpenSpec.upto wsetPlaysSpec)

/-- 'varvelaw16.WsetNone', WHERE WHAT IT READS IS OF BULK AT MOST 1048576: true; the input reads as it did. -/
def wsetNoneUptoRow : OpenClaim := { program := "ytipbgaahpchhbaa", sum := "13ad78037ede95c4b3f8464545bf57e51fa2ea304e68f45f1af821f8419262ad", func := "varve/varvelaw16.WsetNone", spec := "wsetNone", inPlace := ["internal/reflectlite.ValueOf", "internal/reflectlite.Swapper", "(internal/reflectlite.Value).Len"], unfollowed := true, recurses := true, apart := false, narrowed := true }
def WsetNoneUptoSaid : Prop := wsetNoneUptoRow.holds Try.pinned (OpenSpec.upto wsetNoneSpec)

/-- 'varvelaw16.WsetDeltas', WHERE WHAT IT READS IS OF BULK AT MOST 1048576: true; the input reads as it did. -/
def wsetDeltasUptoRow : OpenClaim := { program := "ytipbgaahpchhbaa", sum := "13ad78037ede95c4b3f8464545bf57e51fa2ea304e68f45f1af821f8419262ad", func := "varve/varvelaw16.WsetDeltas", spec := "wsetDeltas", inPlace := ["internal/reflectlite.ValueOf", "internal/reflectlite.Swapper", "(internal/reflectlite.Value).Len"], unfollowed := true, recurses := true, apart := false, narrowed := true }
def WsetDeltasUptoSaid : Prop := wsetDeltasUptoRow.holds Try.pinned (OpenSpec.upto wsetDeltasSpec)

end Rows
end Go.Proofs.Ytipbgaahpchhbaa
