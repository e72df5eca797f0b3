/-
  No cell of these rows narrows 'for every input' (looked for: loops, veiled, ifaces, maps, wideKeys, modest, calm, conditions, laid).
  DERIVED. THE GIVEN ROWS OF THIS SEAT. 5 by the template 'for every input the law returns true; each argument reads behind the call as it read before'; 0 by the template 'total and deterministic' (their statements: YthfaldoagmkllaaTotals.lean).
  GIVEN WITH THE SEED: the statements are not yours to turn. If you find one false, say at which input.
  Laid BY PROGRAM, IN A SANDBOX (cutbox-rows.mjs): the forced cells as the released guide's own fill.sh prints them over the translation b6ee65330bb89426… (all of the seat's roots in one cut). By AI agents, Wed Nov 11 2026. No macro, syntax, notation, axiom, sorry.
-/
import Derived.Test.YthfaldoagmkllaaChecked
import GoSem.Claim
import GoSem.ClaimJoined
import GoSem.ClaimMapViews
import Derived.JoinedTies
import Derived.KernelRfl
namespace Go.Proofs.Ythfaldoagmkllaa
/- THE CELL 'sum', in the pinned program and in every row, IS THE sha256 OF THE DUMP (.gsa) THAT YthfaldoagmkllaaProg.lean LOADS. Nothing in Lean hashes anything: it is a label: what it is worth is what the hold of that sum in a sandbox is worth. -/
noncomputable def Try.pinned : Pinned := { name := "ythfaldoagmkllaa", sum := "b6ee65330bb8942641b59ce2149f0723a6e8dd7c43fbe0e443e24248ebf48801", checked := Try.checked }
namespace Rows
def none {H : Type} : Left H := { results := [], args := [] }

/-- 'varvelaw19.MasterPacks': WHATEVER THE INPUT: true; the input reads as it did. -/
def masterPacksSpec : ChangeSpec := { name := "masterPacks", fn := fun _ => fun
  | [d1, d2] => { results := [.lit (.bool true)], args := [d1, d2] }
  | _ => none }
def masterPacksRow : OpenClaim := { program := "ythfaldoagmkllaa", sum := "b6ee65330bb8942641b59ce2149f0723a6e8dd7c43fbe0e443e24248ebf48801", func := "varve/varvelaw19.MasterPacks", spec := "masterPacks", unfollowed := true, recurses := true, plainKeys := false, apart := false }
def MasterPacksSaid : Prop := masterPacksRow.holds Try.pinned (OpenSpec.ofChange masterPacksSpec)

/-- ITS FALSE NEIGHBOUR: 'it returns false'. Refute it at one input. -/
def masterPacksWrong : ChangeSpec := { name := "masterPacks", fn := fun _ => fun
  | [d1, d2] => { results := [.lit (.bool false)], args := [d1, d2] }
  | _ => none }
def MasterPacksWrongFalsely : Prop := masterPacksRow.holds Try.pinned (OpenSpec.ofChange masterPacksWrong)

/-- 'varvelaw19.MasterBack': WHATEVER THE INPUT: true; the input reads as it did. -/
def masterBackSpec : ChangeSpec := { name := "masterBack", fn := fun _ => fun
  | [d1, d2] => { results := [.lit (.bool true)], args := [d1, d2] }
  | _ => none }
def masterBackRow : OpenClaim := { program := "ythfaldoagmkllaa", sum := "b6ee65330bb8942641b59ce2149f0723a6e8dd7c43fbe0e443e24248ebf48801", func := "varve/varvelaw19.MasterBack", spec := "masterBack", unfollowed := true, recurses := true, plainKeys := false, apart := false }
def MasterBackSaid : Prop := masterBackRow.holds Try.pinned (OpenSpec.ofChange masterBackSpec)

/-- ITS FALSE NEIGHBOUR: 'it returns false'. Refute it at one input. -/
def masterBackWrong : ChangeSpec := { name := "masterBack", fn := fun _ => fun
  | [d1, d2] => { results := [.lit (.bool false)], args := [d1, d2] }
  | _ => none }
def MasterBackWrongFalsely : Prop := masterBackRow.holds Try.pinned (OpenSpec.ofChange masterBackWrong)

/-- 'varvelaw19.MasterNone': WHATEVER THE INPUT: true; the input reads as it did. -/
def masterNoneSpec : ChangeSpec := { name := "masterNone", fn := fun _ => fun
  | [d1, d2] => { results := [.lit (.bool true)], args := [d1, d2] }
  | _ => none }
def masterNoneRow : OpenClaim := { program := "ythfaldoagmkllaa", sum := "b6ee65330bb8942641b59ce2149f0723a6e8dd7c43fbe0e443e24248ebf48801", func := "varve/varvelaw19.MasterNone", spec := "masterNone", unfollowed := true, recurses := true, plainKeys := false, apart := false }
def MasterNoneSaid : Prop := masterNoneRow.holds Try.pinned (OpenSpec.ofChange masterNoneSpec)

/-- ITS FALSE NEIGHBOUR: 'it returns false'. Refute it at one input. -/
def masterNoneWrong : ChangeSpec := { name := "masterNone", fn := fun _ => fun
  | [d1, d2] => { results := [.lit (.bool false)], args := [d1, d2] }
  | _ => none }
def MasterNoneWrongFalsely : Prop := masterNoneRow.holds Try.pinned (OpenSpec.ofChange masterNoneWrong)

/-- 'varvelaw19.MasterLoads': WHATEVER THE INPUT: true; the input reads as it did. -/
def masterLoadsSpec : ChangeSpec := { name := "masterLoads", fn := fun _ => fun
  | [d1, d2, d3] => { results := [.lit (.bool true)], args := [d1, d2, d3] }
  | _ => none }
def masterLoadsRow : OpenClaim := { program := "ythfaldoagmkllaa", sum := "b6ee65330bb8942641b59ce2149f0723a6e8dd7c43fbe0e443e24248ebf48801", func := "varve/varvelaw19.MasterLoads", spec := "masterLoads", unfollowed := true, recurses := true, plainKeys := false, apart := false }
def MasterLoadsSaid : Prop := masterLoadsRow.holds Try.pinned (OpenSpec.ofChange masterLoadsSpec)

/-- ITS FALSE NEIGHBOUR: 'it returns false'. Refute it at one input. -/
def masterLoadsWrong : ChangeSpec := { name := "masterLoads", fn := fun _ => fun
  | [d1, d2, d3] => { results := [.lit (.bool false)], args := [d1, d2, d3] }
  | _ => none }
def MasterLoadsWrongFalsely : Prop := masterLoadsRow.holds Try.pinned (OpenSpec.ofChange masterLoadsWrong)

/-- 'varvelaw19.MasterCrash': WHATEVER THE INPUT: true; the input reads as it did. -/
def masterCrashSpec : ChangeSpec := { name := "masterCrash", fn := fun _ => fun
  | [d1, d2, d3, d4, d5] => { results := [.lit (.bool true)], args := [d1, d2, d3, d4, d5] }
  | _ => none }
def masterCrashRow : OpenClaim := { program := "ythfaldoagmkllaa", sum := "b6ee65330bb8942641b59ce2149f0723a6e8dd7c43fbe0e443e24248ebf48801", func := "varve/varvelaw19.MasterCrash", spec := "masterCrash", unfollowed := true, recurses := true, plainKeys := false, apart := false }
def MasterCrashSaid : Prop := masterCrashRow.holds Try.pinned (OpenSpec.ofChange masterCrashSpec)

/-- ITS FALSE NEIGHBOUR: 'it returns false'. Refute it at one input. -/
def masterCrashWrong : ChangeSpec := { name := "masterCrash", fn := fun _ => fun
  | [d1, d2, d3, d4, d5] => { results := [.lit (.bool false)], args := [d1, d2, d3, d4, d5] }
  | _ => none }
def MasterCrashWrongFalsely : Prop := masterCrashRow.holds Try.pinned (OpenSpec.ofChange masterCrashWrong)

/- THE SECOND FORM. 'bulk': how many values and letters a reading holds, each counted each time it is reached (what is shared counts as often as it is met; a slice's spare places count too). A statement '..UptoSaid' is the law's where the arguments, and the package variables that the reading takes, are together of bulk at most 1048576: NARROWER than '..Said'. Prove '..Said' where nothing that the law and all that it calls make is longer than what came in: it says more and counts as full. Else prove '..UptoSaid'. A law counts once. -/
mutual
def uptoBulk {H : Type} : DataW H → Nat
  | .lit (.string bytes) => bytes.length + 1
  | .lit _ => 1
  | .nil => 1
  | .ptr d => uptoBulk d + 1
  | .slice elems spare => uptoBulkAll elems + uptoBulkAll spare + 1
  | .agg parts => uptoBulkAll parts + 1
  | .iface _ d => uptoBulk d + 1
  | .map entries => uptoBulkEntries entries + 1
  | .held _ => 1
def uptoBulkAll {H : Type} : List (DataW H) → Nat
  | [] => 0
  | d :: r => uptoBulk d + uptoBulkAll r
def uptoBulkEntries {H : Type} : List (Lit × DataW H) → Nat
  | [] => 0
  | x :: r => uptoBulkEntry x + uptoBulkEntries r
def uptoBulkEntry {H : Type} : Lit × DataW H → Nat
  | (.string bytes, d) => bytes.length + uptoBulk d + 1
  | (_, d) => uptoBulk d + 1
 end
def uptoSmall : (H : Type) → List (DataW H) → Bool := fun _ ds => decide (uptoBulkAll ds ≤ 1048576)
def OpenSpec.upto (s : _root_.Go.ChangeSpec) : _root_.Go.OpenSpec := { _root_.Go.OpenSpec.ofChange s with cond := some uptoSmall }

/-- 'varvelaw19.MasterPacks', WHERE WHAT IT READS IS OF BULK AT MOST 1048576: true; the input reads as it did. -/
def masterPacksUptoRow : OpenClaim := { program := "ythfaldoagmkllaa", sum := "b6ee65330bb8942641b59ce2149f0723a6e8dd7c43fbe0e443e24248ebf48801", func := "varve/varvelaw19.MasterPacks", spec := "masterPacks", unfollowed := true, recurses := true, plainKeys := false, apart := false, narrowed := true }
def MasterPacksUptoSaid : Prop := masterPacksUptoRow.holds Try.pinned (OpenSpec.upto masterPacksSpec)

/-- 'varvelaw19.MasterBack', WHERE WHAT IT READS IS OF BULK AT MOST 1048576: true; the input reads as it did. -/
def masterBackUptoRow : OpenClaim := { program := "ythfaldoagmkllaa", sum := "b6ee65330bb8942641b59ce2149f0723a6e8dd7c43fbe0e443e24248ebf48801", func := "varve/varvelaw19.MasterBack", spec := "masterBack", unfollowed := true, recurses := true, plainKeys := false, apart := false, narrowed := true }
def MasterBackUptoSaid : Prop := masterBackUptoRow.holds Try.pinned (OpenSpec.upto masterBackSpec)

/-- 'varvelaw19.MasterNone', WHERE WHAT IT READS IS OF BULK AT MOST 1048576: true; the input reads as it did. -/
def masterNoneUptoRow : OpenClaim := { program := "ythfaldoagmkllaa", sum := "b6ee65330bb8942641b59ce2149f0723a6e8dd7c43fbe0e443e24248ebf48801", func := "varve/varvelaw19.MasterNone", spec := "masterNone", unfollowed := true, recurses := true, plainKeys := false, apart := false, narrowed := true }
def MasterNoneUptoSaid : Prop := masterNoneUptoRow.holds Try.pinned (OpenSpec.upto masterNoneSpec)

/-- 'varvelaw19.MasterLoads', WHERE WHAT IT READS IS OF BULK AT MOST 1048576: true; the input reads as it did. -/
def masterLoadsUptoRow : OpenClaim := { program := "ythfaldoagmkllaa", sum := "b6ee65330bb8942641b59ce2149f0723a6e8dd7c43fbe0e443e24248ebf48801", func := "varve/varvelaw19.MasterLoads", spec := "masterLoads", unfollowed := true, recurses := true, plainKeys := false, apart := false, narrowed := true }
def MasterLoadsUptoSaid : Prop := masterLoadsUptoRow.holds Try.pinned (OpenSpec.upto masterLoadsSpec)

/-- 'varvelaw19.MasterCrash', WHERE WHAT IT READS IS OF BULK AT MOST 1048576: true; the input reads as it did. -/
def masterCrashUptoRow : OpenClaim := { program := "ythfaldoagmkllaa", sum := "b6ee65330bb8942641b59ce2149f0723a6e8dd7c43fbe0e443e24248ebf48801", func := "varve/varvelaw19.MasterCrash", spec := "masterCrash", unfollowed := true, recurses := true, plainKeys := false, apart := false, narrowed := true }
def MasterCrashUptoSaid : Prop := masterCrashUptoRow.holds Try.pinned (OpenSpec.upto masterCrashSpec)

end Rows
end Go.Proofs.Ythfaldoagmkllaa
