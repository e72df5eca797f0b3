/-
  No cell of these rows narrows 'for every input' (looked for: loops, veiled, ifaces, maps, wideKeys, modest, calm, conditions, laid).
  DERIVED. THE GIVEN ROWS OF THIS SEAT. 5 by the template 'for every input the law returns true; each argument reads behind the call as it read before'; 0 by the template 'total and deterministic' (their statements: YtiolhncfnoafeaaTotals.lean).
  GIVEN WITH THE SEED: the statements are not yours to turn. If you find one false, say at which input.
  Laid BY PROGRAM, IN A SANDBOX (cutbox-rows.mjs): the forced cells as the released guide's own fill.sh prints them over the translation 48c4c67132bd8605… (all of the seat's roots in one cut). By AI agents, Wed Nov 11 2026. No macro, syntax, notation, axiom, sorry.
-/
import Derived.Test.YtiolhncfnoafeaaChecked
import GoSem.Claim
import GoSem.ClaimJoined
import GoSem.ClaimMapViews
import Derived.JoinedTies
import Derived.KernelRfl
namespace Go.Proofs.Ytiolhncfnoafeaa
/- THE CELL 'sum', in the pinned program and in every row, IS THE sha256 OF THE DUMP (.gsa) THAT YtiolhncfnoafeaaProg.lean LOADS. Nothing in Lean hashes anything: it is a label: what it is worth is what the hold of that sum in a sandbox is worth. -/
noncomputable def Try.pinned : Pinned := { name := "ytiolhncfnoafeaa", sum := "48c4c67132bd8605b957f420a3cf52c0aacd4dfa75a1b2c91010b8334ccd732a", checked := Try.checked }
namespace Rows
def none {H : Type} : Left H := { results := [], args := [] }

/-- 'varvelaw14.OracleEnds': WHATEVER THE INPUT: true; the input reads as it did. -/
def oracleEndsSpec : ChangeSpec := { name := "oracleEnds", fn := fun _ => fun
  | [d1, d2] => { results := [.lit (.bool true)], args := [d1, d2] }
  | _ => none }
def oracleEndsRow : OpenClaim := { program := "ytiolhncfnoafeaa", sum := "48c4c67132bd8605b957f420a3cf52c0aacd4dfa75a1b2c91010b8334ccd732a", func := "varve/varvelaw14.OracleEnds", spec := "oracleEnds", inPlace := ["internal/reflectlite.ValueOf", "internal/reflectlite.Swapper", "(internal/reflectlite.Value).Len"], unfollowed := true, recurses := true, apart := false }
def OracleEndsSaid : Prop := oracleEndsRow.holds Try.pinned (OpenSpec.ofChange oracleEndsSpec)

/-- ITS FALSE NEIGHBOUR: 'it returns false'. Refute it at one input. -/
def oracleEndsWrong : ChangeSpec := { name := "oracleEnds", fn := fun _ => fun
  | [d1, d2] => { results := [.lit (.bool false)], args := [d1, d2] }
  | _ => none }
def OracleEndsWrongFalsely : Prop := oracleEndsRow.holds Try.pinned (OpenSpec.ofChange oracleEndsWrong)

/-- 'varvelaw14.OraclePlays': WHATEVER THE INPUT: true; the input reads as it did. -/
def oraclePlaysSpec : ChangeSpec := { name := "oraclePlays", fn := fun _ => fun
  | [d1, d2, d3] => { results := [.lit (.bool true)], args := [d1, d2, d3] }
  | _ => none }
def oraclePlaysRow : OpenClaim := { program := "ytiolhncfnoafeaa", sum := "48c4c67132bd8605b957f420a3cf52c0aacd4dfa75a1b2c91010b8334ccd732a", func := "varve/varvelaw14.OraclePlays", spec := "oraclePlays", inPlace := ["internal/reflectlite.ValueOf", "internal/reflectlite.Swapper", "(internal/reflectlite.Value).Len"], unfollowed := true, recurses := true, apart := false }
def OraclePlaysSaid : Prop := oraclePlaysRow.holds Try.pinned (OpenSpec.ofChange oraclePlaysSpec)

/-- ITS FALSE NEIGHBOUR: 'it returns false'. Refute it at one input. -/
def oraclePlaysWrong : ChangeSpec := { name := "oraclePlays", fn := fun _ => fun
  | [d1, d2, d3] => { results := [.lit (.bool false)], args := [d1, d2, d3] }
  | _ => none }
def OraclePlaysWrongFalsely : Prop := oraclePlaysRow.holds Try.pinned (OpenSpec.ofChange oraclePlaysWrong)

/-- 'varvelaw14.OracleHorizon': WHATEVER THE INPUT: true; the input reads as it did. -/
def oracleHorizonSpec : ChangeSpec := { name := "oracleHorizon", fn := fun _ => fun
  | [d1, d2, d3] => { results := [.lit (.bool true)], args := [d1, d2, d3] }
  | _ => none }
def oracleHorizonRow : OpenClaim := { program := "ytiolhncfnoafeaa", sum := "48c4c67132bd8605b957f420a3cf52c0aacd4dfa75a1b2c91010b8334ccd732a", func := "varve/varvelaw14.OracleHorizon", spec := "oracleHorizon", inPlace := ["internal/reflectlite.ValueOf", "internal/reflectlite.Swapper", "(internal/reflectlite.Value).Len"], unfollowed := true, recurses := true, apart := false }
def OracleHorizonSaid : Prop := oracleHorizonRow.holds Try.pinned (OpenSpec.ofChange oracleHorizonSpec)

/-- ITS FALSE NEIGHBOUR: 'it returns false'. Refute it at one input. -/
def oracleHorizonWrong : ChangeSpec := { name := "oracleHorizon", fn := fun _ => fun
  | [d1, d2, d3] => { results := [.lit (.bool false)], args := [d1, d2, d3] }
  | _ => none }
def OracleHorizonWrongFalsely : Prop := oracleHorizonRow.holds Try.pinned (OpenSpec.ofChange oracleHorizonWrong)

/-- 'varvelaw14.OracleNumbers': WHATEVER THE INPUT: true; the input reads as it did. -/
def oracleNumbersSpec : ChangeSpec := { name := "oracleNumbers", fn := fun _ => fun
  | [d] => { results := [.lit (.bool true)], args := [d] }
  | _ => none }
def oracleNumbersRow : OpenClaim := { program := "ytiolhncfnoafeaa", sum := "48c4c67132bd8605b957f420a3cf52c0aacd4dfa75a1b2c91010b8334ccd732a", func := "varve/varvelaw14.OracleNumbers", spec := "oracleNumbers", inPlace := ["internal/reflectlite.ValueOf", "internal/reflectlite.Swapper", "(internal/reflectlite.Value).Len"], unfollowed := true, recurses := true, apart := false }
def OracleNumbersSaid : Prop := oracleNumbersRow.holds Try.pinned (OpenSpec.ofChange oracleNumbersSpec)

/-- ITS FALSE NEIGHBOUR: 'it returns false'. Refute it at one input. -/
def oracleNumbersWrong : ChangeSpec := { name := "oracleNumbers", fn := fun _ => fun
  | [d] => { results := [.lit (.bool false)], args := [d] }
  | _ => none }
def OracleNumbersWrongFalsely : Prop := oracleNumbersRow.holds Try.pinned (OpenSpec.ofChange oracleNumbersWrong)

/-- 'varvelaw14.OracleNone': WHATEVER THE INPUT: true; the input reads as it did. -/
def oracleNoneSpec : ChangeSpec := { name := "oracleNone", fn := fun _ => fun
  | [d] => { results := [.lit (.bool true)], args := [d] }
  | _ => none }
def oracleNoneRow : OpenClaim := { program := "ytiolhncfnoafeaa", sum := "48c4c67132bd8605b957f420a3cf52c0aacd4dfa75a1b2c91010b8334ccd732a", func := "varve/varvelaw14.OracleNone", spec := "oracleNone", inPlace := ["internal/reflectlite.ValueOf", "internal/reflectlite.Swapper", "(internal/reflectlite.Value).Len"], unfollowed := true, recurses := true, apart := false }
def OracleNoneSaid : Prop := oracleNoneRow.holds Try.pinned (OpenSpec.ofChange oracleNoneSpec)

/-- ITS FALSE NEIGHBOUR: 'it returns false'. Refute it at one input. -/
def oracleNoneWrong : ChangeSpec := { name := "oracleNone", fn := fun _ => fun
  | [d] => { results := [.lit (.bool false)], args := [d] }
  | _ => none }
def OracleNoneWrongFalsely : Prop := oracleNoneRow.holds Try.pinned (OpenSpec.ofChange oracleNoneWrong)

/- THE SECOND FORM. 'bulk': how many values and letters a reading holds, each counted each time it is reached (what is shared counts as often as it is met; a slice's spare places count too). A statement '..UptoSaid' is the law's where the arguments, and the package variables that the reading takes, are together of bulk at most 1048576: NARROWER than '..Said'. Prove '..Said' where nothing that the law and all that it calls make is longer than what came in: it says more and counts as full. Else prove '..UptoSaid'. A law counts once. -/
mutual
def uptoBulk {H : Type} : DataW H → Nat
  | .lit (.string bytes) => bytes.length + 1
  | .lit _ => 1
  | .nil => 1
  | .ptr d => uptoBulk d + 1
  | .slice elems spare => uptoBulkAll elems + uptoBulkAll spare + 1
  | .agg parts => uptoBulkAll parts + 1
  | .iface _ d => uptoBulk d + 1
  | .map entries => uptoBulkEntries entries + 1
  | .held _ => 1
def uptoBulkAll {H : Type} : List (DataW H) → Nat
  | [] => 0
  | d :: r => uptoBulk d + uptoBulkAll r
def uptoBulkEntries {H : Type} : List (Lit × DataW H) → Nat
  | [] => 0
  | x :: r => uptoBulkEntry x + uptoBulkEntries r
def uptoBulkEntry {H : Type} : Lit × DataW H → Nat
  | (.string bytes, d) => bytes.length + uptoBulk d + 1
  | (_, d) => uptoBulk d + 1
 end
def uptoSmall : (H : Type) → List (DataW H) → Bool := fun _ ds => decide (uptoBulkAll ds ≤ 1048576)
def OpenSpec.upto (s : _root_.Go.ChangeSpec) : _root_.Go.OpenSpec := { _root_.Go.OpenSpec.ofChange s with cond := some uptoSmall }

/-- 'varvelaw14.OracleEnds', WHERE WHAT IT READS IS OF BULK AT MOST 1048576: true; the input reads as it did. -/
def oracleEndsUptoRow : OpenClaim := { program := "ytiolhncfnoafeaa", sum := "48c4c67132bd8605b957f420a3cf52c0aacd4dfa75a1b2c91010b8334ccd732a", func := "varve/varvelaw14.OracleEnds", spec := "oracleEnds", inPlace := ["internal/reflectlite.ValueOf", "internal/reflectlite.Swapper", "(internal/reflectlite.Value).Len"], unfollowed := true, recurses := true, apart := false, narrowed := true }
def OracleEndsUptoSaid : Prop := oracleEndsUptoRow.holds Try.pinned (OpenSpec.upto oracleEndsSpec)

/-- 'varvelaw14.OraclePlays', WHERE WHAT IT READS IS OF BULK AT MOST 1048576: true; the input reads as it did. -/
def oraclePlaysUptoRow : OpenClaim := { program := "ytiolhncfnoafeaa", sum := "48c4c67132bd8605b957f420a3cf52c0aacd4dfa75a1b2c91010b8334ccd732a", func := "varve/varvelaw14.OraclePlays", spec := "oraclePlays", inPlace := ["internal/reflectlite.ValueOf", "internal/reflectlite.Swapper", "(internal/reflectlite.Value).Len"], unfollowed := true, recurses := true, apart := false, narrowed := true }
def OraclePlaysUptoSaid : Prop := oraclePlaysUptoRow.holds Try.pinned (OpenSpec.upto oraclePlaysSpec)

/-- 'varvelaw14.OracleHorizon', WHERE WHAT IT READS IS OF BULK AT MOST 1048576: true; the input reads as it did. -/
def oracleHorizonUptoRow : OpenClaim := { program := "ytiolhncfnoafeaa", sum := "48c4c67132bd8605b957f420a3cf52c0aacd4dfa75a1b2c91010b8334ccd732a", func := "varve/varvelaw14.OracleHorizon", spec := "oracleHorizon", inPlace := ["internal/reflectlite.ValueOf", "internal/reflectlite.Swapper", "(internal/reflectlite.Value).Len"], unfollowed := true, recurses := true, apart := false, narrowed := true }
def OracleHorizonUptoSaid : Prop := oracleHorizonUptoRow.holds Try.pinned (OpenSpec.upto oracleHorizonSpec)

/-- 'varvelaw14.OracleNumbers', WHERE WHAT IT READS IS OF BULK AT MOST 1048576: true; the input reads as it did. -/
def oracleNumbersUptoRow : OpenClaim := { program := "ytiolhncfnoafeaa", sum := "48c4c67132bd8605b957f420a3cf52c0aacd4dfa75a1b2c91010b8334ccd732a", func := "varve/varvelaw14.OracleNumbers", spec := "oracleNumbers", inPlace := ["internal/reflectlite.ValueOf", "internal/reflectlite.Swapper", "(internal/reflectlite.Value).Len"], unfollowed := true, recurses := true, apart := false, narrowed := true }
def OracleNumbersUptoSaid : Prop := oracleNumbersUptoRow.holds Try.pinned (OpenSpec.upto oracleNumbersSpec)

/-- 'varvelaw14.OracleNone', WHERE WHAT IT READS IS OF BULK AT MOST 1048576: true; the input reads as it did. -/
def oracleNoneUptoRow : OpenClaim := { program := "ytiolhncfnoafeaa", sum := "48c4c67132bd8605b957f420a3cf52c0aacd4dfa75a1b2c91010b8334ccd732a", func := "varve/varvelaw14.OracleNone", spec := "oracleNone", inPlace := ["internal/reflectlite.ValueOf", "internal/reflectlite.Swapper", "(internal/reflectlite.Value).Len"], unfollowed := true, recurses := true, apart := false, narrowed := true }
def OracleNoneUptoSaid : Prop := oracleNoneUptoRow.holds Try.pinned (OpenSpec.upto oracleNoneSpec)

end Rows
end Go.Proofs.Ytiolhncfnoafeaa
