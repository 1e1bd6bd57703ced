/-
  No cell of these rows narrows 'for every input' (looked for: loops, veiled, ifaces, maps, wideKeys, modest, calm, conditions, laid).
  DERIVED. THE GIVEN ROWS OF THIS SEAT. 12 by the template 'for every input the law returns true; each argument reads behind the call as it read before'; 0 by the template 'total and deterministic' (their statements: YtmbgnekilgobaaaTotals.lean).
  GIVEN WITH THE SEED: the statements are not yours to turn. If you find one false, say at which input.
  Laid BY PROGRAM, IN A SANDBOX (cutbox-rows.mjs): the forced cells as the released guide's own fill.sh prints them over the translation 1906e3e1ca5cb34e… (all of the seat's roots in one cut). By AI agents, Wed Nov 11 2026. No macro, syntax, notation, axiom, sorry.
-/
import Derived.Test.YtmbgnekilgobaaaChecked
import GoSem.Claim
import GoSem.ClaimJoined
import GoSem.ClaimMapViews
import Derived.JoinedTies
import Derived.KernelRfl
namespace Go.Proofs.Ytmbgnekilgobaaa
/- THE CELL 'sum', in the pinned program and in every row, IS THE sha256 OF THE DUMP (.gsa) THAT YtmbgnekilgobaaaProg.lean LOADS. Nothing in Lean hashes anything: it is a label: what it is worth is what the hold of that sum in a sandbox is worth. -/
noncomputable def Try.pinned : Pinned := { name := "ytmbgnekilgobaaa", sum := "1906e3e1ca5cb34ecf06aedf5e3c59d279d204314c57e9be4122696a64cd0dda", checked := Try.checked }
namespace Rows
def none {H : Type} : Left H := { results := [], args := [] }

/-- 'heavykeyslaw23.TopSelect': WHATEVER THE INPUT: true; the input reads as it did. -/
def topSelectSpec : ChangeSpec := { name := "topSelect", fn := fun _ => fun
  | [d1, d2, d3] => { results := [.lit (.bool true)], args := [d1, d2, d3] }
  | _ => none }
def topSelectRow : OpenClaim := { program := "ytmbgnekilgobaaa", sum := "1906e3e1ca5cb34ecf06aedf5e3c59d279d204314c57e9be4122696a64cd0dda", func := "heavykeys/heavykeyslaw23.TopSelect", spec := "topSelect", inPlace := ["internal/bytealg.abigen_runtime_cmpstring"], unfollowed := true, recurses := true, apart := false }
def TopSelectSaid : Prop := topSelectRow.holds Try.pinned (OpenSpec.ofChange topSelectSpec)

/-- ITS FALSE NEIGHBOUR: 'it returns false'. Refute it at one input. -/
def topSelectWrong : ChangeSpec := { name := "topSelect", fn := fun _ => fun
  | [d1, d2, d3] => { results := [.lit (.bool false)], args := [d1, d2, d3] }
  | _ => none }
def TopSelectWrongFalsely : Prop := topSelectRow.holds Try.pinned (OpenSpec.ofChange topSelectWrong)

/-- 'heavykeyslaw23.TopRest': WHATEVER THE INPUT: true; the input reads as it did. -/
def topRestSpec : ChangeSpec := { name := "topRest", fn := fun _ => fun
  | [d1, d2, d3] => { results := [.lit (.bool true)], args := [d1, d2, d3] }
  | _ => none }
def topRestRow : OpenClaim := { program := "ytmbgnekilgobaaa", sum := "1906e3e1ca5cb34ecf06aedf5e3c59d279d204314c57e9be4122696a64cd0dda", func := "heavykeys/heavykeyslaw23.TopRest", spec := "topRest", inPlace := ["internal/bytealg.abigen_runtime_cmpstring"], unfollowed := true, recurses := true, apart := false }
def TopRestSaid : Prop := topRestRow.holds Try.pinned (OpenSpec.ofChange topRestSpec)

/-- ITS FALSE NEIGHBOUR: 'it returns false'. Refute it at one input. -/
def topRestWrong : ChangeSpec := { name := "topRest", fn := fun _ => fun
  | [d1, d2, d3] => { results := [.lit (.bool false)], args := [d1, d2, d3] }
  | _ => none }
def TopRestWrongFalsely : Prop := topRestRow.holds Try.pinned (OpenSpec.ofChange topRestWrong)

/-- 'heavykeyslaw23.TopOmitted': WHATEVER THE INPUT: true; the input reads as it did. -/
def topOmittedSpec : ChangeSpec := { name := "topOmitted", fn := fun _ => fun
  | [d1, d2, d3, d4] => { results := [.lit (.bool true)], args := [d1, d2, d3, d4] }
  | _ => none }
def topOmittedRow : OpenClaim := { program := "ytmbgnekilgobaaa", sum := "1906e3e1ca5cb34ecf06aedf5e3c59d279d204314c57e9be4122696a64cd0dda", func := "heavykeys/heavykeyslaw23.TopOmitted", spec := "topOmitted", inPlace := ["internal/bytealg.abigen_runtime_cmpstring"], unfollowed := true, recurses := true, apart := false }
def TopOmittedSaid : Prop := topOmittedRow.holds Try.pinned (OpenSpec.ofChange topOmittedSpec)

/-- ITS FALSE NEIGHBOUR: 'it returns false'. Refute it at one input. -/
def topOmittedWrong : ChangeSpec := { name := "topOmitted", fn := fun _ => fun
  | [d1, d2, d3, d4] => { results := [.lit (.bool false)], args := [d1, d2, d3, d4] }
  | _ => none }
def TopOmittedWrongFalsely : Prop := topOmittedRow.holds Try.pinned (OpenSpec.ofChange topOmittedWrong)

/-- 'heavykeyslaw23.TopSplits': WHATEVER THE INPUT: true; the input reads as it did. -/
def topSplitsSpec : ChangeSpec := { name := "topSplits", fn := fun _ => fun
  | [d1, d2] => { results := [.lit (.bool true)], args := [d1, d2] }
  | _ => none }
def topSplitsRow : OpenClaim := { program := "ytmbgnekilgobaaa", sum := "1906e3e1ca5cb34ecf06aedf5e3c59d279d204314c57e9be4122696a64cd0dda", func := "heavykeys/heavykeyslaw23.TopSplits", spec := "topSplits", inPlace := ["internal/bytealg.abigen_runtime_cmpstring"], unfollowed := true, recurses := true, apart := false }
def TopSplitsSaid : Prop := topSplitsRow.holds Try.pinned (OpenSpec.ofChange topSplitsSpec)

/-- ITS FALSE NEIGHBOUR: 'it returns false'. Refute it at one input. -/
def topSplitsWrong : ChangeSpec := { name := "topSplits", fn := fun _ => fun
  | [d1, d2] => { results := [.lit (.bool false)], args := [d1, d2] }
  | _ => none }
def TopSplitsWrongFalsely : Prop := topSplitsRow.holds Try.pinned (OpenSpec.ofChange topSplitsWrong)

/-- 'heavykeyslaw18.BoundsSorted': WHATEVER THE INPUT: true; the input reads as it did. -/
def boundsSortedSpec : ChangeSpec := { name := "boundsSorted", fn := fun _ => fun
  | [d] => { results := [.lit (.bool true)], args := [d] }
  | _ => none }
def boundsSortedRow : OpenClaim := { program := "ytmbgnekilgobaaa", sum := "1906e3e1ca5cb34ecf06aedf5e3c59d279d204314c57e9be4122696a64cd0dda", func := "heavykeys/heavykeyslaw18.BoundsSorted", spec := "boundsSorted", inPlace := ["internal/bytealg.abigen_runtime_cmpstring", "math/bits.Add64"], unfollowed := true, recurses := true, apart := false }
def BoundsSortedSaid : Prop := boundsSortedRow.holds Try.pinned (OpenSpec.ofChange boundsSortedSpec)

/-- ITS FALSE NEIGHBOUR: 'it returns false'. Refute it at one input. -/
def boundsSortedWrong : ChangeSpec := { name := "boundsSorted", fn := fun _ => fun
  | [d] => { results := [.lit (.bool false)], args := [d] }
  | _ => none }
def BoundsSortedWrongFalsely : Prop := boundsSortedRow.holds Try.pinned (OpenSpec.ofChange boundsSortedWrong)

/-- 'heavykeyslaw18.BoundsSort': WHATEVER THE INPUT: true; the input reads as it did. -/
def boundsSortSpec : ChangeSpec := { name := "boundsSort", fn := fun _ => fun
  | [d1, d2] => { results := [.lit (.bool true)], args := [d1, d2] }
  | _ => none }
def boundsSortRow : OpenClaim := { program := "ytmbgnekilgobaaa", sum := "1906e3e1ca5cb34ecf06aedf5e3c59d279d204314c57e9be4122696a64cd0dda", func := "heavykeys/heavykeyslaw18.BoundsSort", spec := "boundsSort", inPlace := ["internal/bytealg.abigen_runtime_cmpstring", "math/bits.Add64"], unfollowed := true, recurses := true, apart := false }
def BoundsSortSaid : Prop := boundsSortRow.holds Try.pinned (OpenSpec.ofChange boundsSortSpec)

/-- ITS FALSE NEIGHBOUR: 'it returns false'. Refute it at one input. -/
def boundsSortWrong : ChangeSpec := { name := "boundsSort", fn := fun _ => fun
  | [d1, d2] => { results := [.lit (.bool false)], args := [d1, d2] }
  | _ => none }
def BoundsSortWrongFalsely : Prop := boundsSortRow.holds Try.pinned (OpenSpec.ofChange boundsSortWrong)

/-- 'heavykeyslaw18.BoundsHold': WHATEVER THE INPUT: true; the input reads as it did. -/
def boundsHoldSpec : ChangeSpec := { name := "boundsHold", fn := fun _ => fun
  | [d1, d2, d3, d4, d5] => { results := [.lit (.bool true)], args := [d1, d2, d3, d4, d5] }
  | _ => none }
def boundsHoldRow : OpenClaim := { program := "ytmbgnekilgobaaa", sum := "1906e3e1ca5cb34ecf06aedf5e3c59d279d204314c57e9be4122696a64cd0dda", func := "heavykeys/heavykeyslaw18.BoundsHold", spec := "boundsHold", inPlace := ["math/bits.Add64", "internal/bytealg.abigen_runtime_cmpstring"], unfollowed := true, recurses := true, apart := false }
def BoundsHoldSaid : Prop := boundsHoldRow.holds Try.pinned (OpenSpec.ofChange boundsHoldSpec)

/-- ITS FALSE NEIGHBOUR: 'it returns false'. Refute it at one input. -/
def boundsHoldWrong : ChangeSpec := { name := "boundsHold", fn := fun _ => fun
  | [d1, d2, d3, d4, d5] => { results := [.lit (.bool false)], args := [d1, d2, d3, d4, d5] }
  | _ => none }
def BoundsHoldWrongFalsely : Prop := boundsHoldRow.holds Try.pinned (OpenSpec.ofChange boundsHoldWrong)

/-- 'heavykeyslaw18.BoundsSums': WHATEVER THE INPUT: true; the input reads as it did. -/
def boundsSumsSpec : ChangeSpec := { name := "boundsSums", fn := fun _ => fun
  | [d1, d2, d3, d4, d5] => { results := [.lit (.bool true)], args := [d1, d2, d3, d4, d5] }
  | _ => none }
def boundsSumsRow : OpenClaim := { program := "ytmbgnekilgobaaa", sum := "1906e3e1ca5cb34ecf06aedf5e3c59d279d204314c57e9be4122696a64cd0dda", func := "heavykeys/heavykeyslaw18.BoundsSums", spec := "boundsSums", inPlace := ["math/bits.Add64", "internal/bytealg.abigen_runtime_cmpstring"], unfollowed := true, recurses := true, apart := false }
def BoundsSumsSaid : Prop := boundsSumsRow.holds Try.pinned (OpenSpec.ofChange boundsSumsSpec)

/-- ITS FALSE NEIGHBOUR: 'it returns false'. Refute it at one input. -/
def boundsSumsWrong : ChangeSpec := { name := "boundsSums", fn := fun _ => fun
  | [d1, d2, d3, d4, d5] => { results := [.lit (.bool false)], args := [d1, d2, d3, d4, d5] }
  | _ => none }
def BoundsSumsWrongFalsely : Prop := boundsSumsRow.holds Try.pinned (OpenSpec.ofChange boundsSumsWrong)

/-- 'heavykeyslaw17.ExactCounts': WHATEVER THE INPUT: true; the input reads as it did. -/
def exactCountsSpec : ChangeSpec := { name := "exactCounts", fn := fun _ => fun
  | [d1, d2] => { results := [.lit (.bool true)], args := [d1, d2] }
  | _ => none }
def exactCountsRow : OpenClaim := { program := "ytmbgnekilgobaaa", sum := "1906e3e1ca5cb34ecf06aedf5e3c59d279d204314c57e9be4122696a64cd0dda", func := "heavykeys/heavykeyslaw17.ExactCounts", spec := "exactCounts", inPlace := ["internal/bytealg.abigen_runtime_cmpstring", "math/bits.Add64", "slices.overlaps[heavykeys/api.Entry]"], unfollowed := true, recurses := true, apart := false }
def ExactCountsSaid : Prop := exactCountsRow.holds Try.pinned (OpenSpec.ofChange exactCountsSpec)

/-- ITS FALSE NEIGHBOUR: 'it returns false'. Refute it at one input. -/
def exactCountsWrong : ChangeSpec := { name := "exactCounts", fn := fun _ => fun
  | [d1, d2] => { results := [.lit (.bool false)], args := [d1, d2] }
  | _ => none }
def ExactCountsWrongFalsely : Prop := exactCountsRow.holds Try.pinned (OpenSpec.ofChange exactCountsWrong)

/-- 'heavykeyslaw17.ExactLeast': WHATEVER THE INPUT: true; the input reads as it did. -/
def exactLeastSpec : ChangeSpec := { name := "exactLeast", fn := fun _ => fun
  | [d] => { results := [.lit (.bool true)], args := [d] }
  | _ => none }
def exactLeastRow : OpenClaim := { program := "ytmbgnekilgobaaa", sum := "1906e3e1ca5cb34ecf06aedf5e3c59d279d204314c57e9be4122696a64cd0dda", func := "heavykeys/heavykeyslaw17.ExactLeast", spec := "exactLeast", inPlace := ["internal/bytealg.abigen_runtime_cmpstring", "math/bits.Add64", "slices.overlaps[heavykeys/api.Entry]"], unfollowed := true, recurses := true, apart := false }
def ExactLeastSaid : Prop := exactLeastRow.holds Try.pinned (OpenSpec.ofChange exactLeastSpec)

/-- ITS FALSE NEIGHBOUR: 'it returns false'. Refute it at one input. -/
def exactLeastWrong : ChangeSpec := { name := "exactLeast", fn := fun _ => fun
  | [d] => { results := [.lit (.bool false)], args := [d] }
  | _ => none }
def ExactLeastWrongFalsely : Prop := exactLeastRow.holds Try.pinned (OpenSpec.ofChange exactLeastWrong)

/-- 'heavykeyslaw17.ExactNew': WHATEVER THE INPUT: true; the input reads as it did. -/
def exactNewSpec : ChangeSpec := { name := "exactNew", fn := fun _ => fun
  | [d] => { results := [.lit (.bool true)], args := [d] }
  | _ => none }
def exactNewRow : OpenClaim := { program := "ytmbgnekilgobaaa", sum := "1906e3e1ca5cb34ecf06aedf5e3c59d279d204314c57e9be4122696a64cd0dda", func := "heavykeys/heavykeyslaw17.ExactNew", spec := "exactNew", inPlace := ["internal/bytealg.abigen_runtime_cmpstring", "math/bits.Add64", "slices.overlaps[heavykeys/api.Entry]"], unfollowed := true, recurses := true, apart := false }
def ExactNewSaid : Prop := exactNewRow.holds Try.pinned (OpenSpec.ofChange exactNewSpec)

/-- ITS FALSE NEIGHBOUR: 'it returns false'. Refute it at one input. -/
def exactNewWrong : ChangeSpec := { name := "exactNew", fn := fun _ => fun
  | [d] => { results := [.lit (.bool false)], args := [d] }
  | _ => none }
def ExactNewWrongFalsely : Prop := exactNewRow.holds Try.pinned (OpenSpec.ofChange exactNewWrong)

/-- 'heavykeyslaw17.ExactSteps': WHATEVER THE INPUT: true; the input reads as it did. -/
def exactStepsSpec : ChangeSpec := { name := "exactSteps", fn := fun _ => fun
  | [d1, d2, d3, d4, d5] => { results := [.lit (.bool true)], args := [d1, d2, d3, d4, d5] }
  | _ => none }
def exactStepsRow : OpenClaim := { program := "ytmbgnekilgobaaa", sum := "1906e3e1ca5cb34ecf06aedf5e3c59d279d204314c57e9be4122696a64cd0dda", func := "heavykeys/heavykeyslaw17.ExactSteps", spec := "exactSteps", inPlace := ["internal/bytealg.abigen_runtime_cmpstring", "math/bits.Add64", "slices.overlaps[heavykeys/api.Entry]"], unfollowed := true, recurses := true, apart := false }
def ExactStepsSaid : Prop := exactStepsRow.holds Try.pinned (OpenSpec.ofChange exactStepsSpec)

/-- ITS FALSE NEIGHBOUR: 'it returns false'. Refute it at one input. -/
def exactStepsWrong : ChangeSpec := { name := "exactSteps", fn := fun _ => fun
  | [d1, d2, d3, d4, d5] => { results := [.lit (.bool false)], args := [d1, d2, d3, d4, d5] }
  | _ => none }
def ExactStepsWrongFalsely : Prop := exactStepsRow.holds Try.pinned (OpenSpec.ofChange exactStepsWrong)

/- THE SECOND FORM. 'bulk': how many values and letters a reading holds, each counted each time it is reached (what is shared counts as often as it is met; a slice's spare places count too). A statement '..UptoSaid' is the law's where the arguments, and the package variables that the reading takes, are together of bulk at most 1048576: NARROWER than '..Said'. Prove '..Said' where nothing that the law and all that it calls make is longer than what came in: it says more and counts as full. Else prove '..UptoSaid'. A law counts once. -/
mutual
def uptoBulk {H : Type} : DataW H → Nat
  | .lit (.string bytes) => bytes.length + 1
  | .lit _ => 1
  | .nil => 1
  | .ptr d => uptoBulk d + 1
  | .slice elems spare => uptoBulkAll elems + uptoBulkAll spare + 1
  | .agg parts => uptoBulkAll parts + 1
  | .iface _ d => uptoBulk d + 1
  | .map entries => uptoBulkEntries entries + 1
  | .held _ => 1
def uptoBulkAll {H : Type} : List (DataW H) → Nat
  | [] => 0
  | d :: r => uptoBulk d + uptoBulkAll r
def uptoBulkEntries {H : Type} : List (Lit × DataW H) → Nat
  | [] => 0
  | x :: r => uptoBulkEntry x + uptoBulkEntries r
def uptoBulkEntry {H : Type} : Lit × DataW H → Nat
  | (.string bytes, d) => bytes.length + uptoBulk d + 1
  | (_, d) => uptoBulk d + 1
 end
def uptoSmall : (H : Type) → List (DataW H) → Bool := fun _ ds => decide (uptoBulkAll ds ≤ 1048576)
def OpenSpec.upto (s : _root_.Go.ChangeSpec) : _root_.Go.OpenSpec := { _root_.Go.OpenSpec.ofChange s with cond := some uptoSmall }

/-- 'heavykeyslaw23.TopSelect', WHERE WHAT IT READS IS OF BULK AT MOST 1048576: true; the input reads as it did. -/
def topSelectUptoRow : OpenClaim := { program := "ytmbgnekilgobaaa", sum := "1906e3e1ca5cb34ecf06aedf5e3c59d279d204314c57e9be4122696a64cd0dda", func := "heavykeys/heavykeyslaw23.TopSelect", spec := "topSelect", inPlace := ["internal/bytealg.abigen_runtime_cmpstring"], unfollowed := true, recurses := true, apart := false, narrowed := true }
def TopSelectUptoSaid : Prop := topSelectUptoRow.holds Try.pinned (OpenSpec.upto topSelectSpec)

/-- 'heavykeyslaw23.TopRest', WHERE WHAT IT READS IS OF BULK AT MOST 1048576: true; the input reads as it did. -/
def topRestUptoRow : OpenClaim := { program := "ytmbgnekilgobaaa", sum := "1906e3e1ca5cb34ecf06aedf5e3c59d279d204314c57e9be4122696a64cd0dda", func := "heavykeys/heavykeyslaw23.TopRest", spec := "topRest", inPlace := ["internal/bytealg.abigen_runtime_cmpstring"], unfollowed := true, recurses := true, apart := false, narrowed := true }
def TopRestUptoSaid : Prop := topRestUptoRow.holds Try.pinned (OpenSpec.upto topRestSpec)

/-- 'heavykeyslaw23.TopOmitted', WHERE WHAT IT READS IS OF BULK AT MOST 1048576: true; the input reads as it did. -/
def topOmittedUptoRow : OpenClaim := { program := "ytmbgnekilgobaaa", sum := "1906e3e1ca5cb34ecf06aedf5e3c59d279d204314c57e9be4122696a64cd0dda", func := "heavykeys/heavykeyslaw23.TopOmitted", spec := "topOmitted", inPlace := ["internal/bytealg.abigen_runtime_cmpstring"], unfollowed := true, recurses := true, apart := false, narrowed := true }
def TopOmittedUptoSaid : Prop := topOmittedUptoRow.holds Try.pinned (OpenSpec.upto topOmittedSpec)

/-- 'heavykeyslaw23.TopSplits', WHERE WHAT IT READS IS OF BULK AT MOST 1048576: true; the input reads as it did. -/
def topSplitsUptoRow : OpenClaim := { program := "ytmbgnekilgobaaa", sum := "1906e3e1ca5cb34ecf06aedf5e3c59d279d204314c57e9be4122696a64cd0dda", func := "heavykeys/heavykeyslaw23.TopSplits", spec := "topSplits", inPlace := ["internal/bytealg.abigen_runtime_cmpstring"], unfollowed := true, recurses := true, apart := false, narrowed := true }
def TopSplitsUptoSaid : Prop := topSplitsUptoRow.holds Try.pinned (OpenSpec.upto topSplitsSpec)

/-- 'heavykeyslaw18.BoundsSorted', WHERE WHAT IT READS IS OF BULK AT MOST 1048576: true; the input reads as it did. -/
def boundsSortedUptoRow : OpenClaim := { program := "ytmbgnekilgobaaa", sum := "1906e3e1ca5cb34ecf06aedf5e3c59d279d204314c57e9be4122696a64cd0dda", func := "heavykeys/heavykeyslaw18.BoundsSorted", spec := "boundsSorted", inPlace := ["internal/bytealg.abigen_runtime_cmpstring", "math/bits.Add64"], unfollowed := true, recurses := true, apart := false, narrowed := true }
def BoundsSortedUptoSaid : Prop := boundsSortedUptoRow.holds Try.pinned (OpenSpec.upto boundsSortedSpec)

/-- 'heavykeyslaw18.BoundsSort', WHERE WHAT IT READS IS OF BULK AT MOST 1048576: true; the input reads as it did. -/
def boundsSortUptoRow : OpenClaim := { program := "ytmbgnekilgobaaa", sum := "1906e3e1ca5cb34ecf06aedf5e3c59d279d204314c57e9be4122696a64cd0dda", func := "heavykeys/heavykeyslaw18.BoundsSort", spec := "boundsSort", inPlace := ["internal/bytealg.abigen_runtime_cmpstring", "math/bits.Add64"], unfollowed := true, recurses := true, apart := false, narrowed := true }
def BoundsSortUptoSaid : Prop := boundsSortUptoRow.holds Try.pinned (OpenSpec.upto boundsSortSpec)

/-- 'heavykeyslaw18.BoundsHold', WHERE WHAT IT READS IS OF BULK AT MOST 1048576: true; the input reads as it did. -/
def boundsHoldUptoRow : OpenClaim := { program := "ytmbgnekilgobaaa", sum := "1906e3e1ca5cb34ecf06aedf5e3c59d279d204314c57e9be4122696a64cd0dda", func := "heavykeys/heavykeyslaw18.BoundsHold", spec := "boundsHold", inPlace := ["math/bits.Add64", "internal/bytealg.abigen_runtime_cmpstring"], unfollowed := true, recurses := true, apart := false, narrowed := true }
def BoundsHoldUptoSaid : Prop := boundsHoldUptoRow.holds Try.pinned (OpenSpec.upto boundsHoldSpec)

/-- 'heavykeyslaw18.BoundsSums', WHERE WHAT IT READS IS OF BULK AT MOST 1048576: true; the input reads as it did. -/
def boundsSumsUptoRow : OpenClaim := { program := "ytmbgnekilgobaaa", sum := "1906e3e1ca5cb34ecf06aedf5e3c59d279d204314c57e9be4122696a64cd0dda", func := "heavykeys/heavykeyslaw18.BoundsSums", spec := "boundsSums", inPlace := ["math/bits.Add64", "internal/bytealg.abigen_runtime_cmpstring"], unfollowed := true, recurses := true, apart := false, narrowed := true }
def BoundsSumsUptoSaid : Prop := boundsSumsUptoRow.holds Try.pinned (OpenSpec.upto boundsSumsSpec)

/-- 'heavykeyslaw17.ExactCounts', WHERE WHAT IT READS IS OF BULK AT MOST 1048576: true; the input reads as it did. -/
def exactCountsUptoRow : OpenClaim := { program := "ytmbgnekilgobaaa", sum := "1906e3e1ca5cb34ecf06aedf5e3c59d279d204314c57e9be4122696a64cd0dda", func := "heavykeys/heavykeyslaw17.ExactCounts", spec := "exactCounts", inPlace := ["internal/bytealg.abigen_runtime_cmpstring", "math/bits.Add64", "slices.overlaps[heavykeys/api.Entry]"], unfollowed := true, recurses := true, apart := false, narrowed := true }
def ExactCountsUptoSaid : Prop := exactCountsUptoRow.holds Try.pinned (OpenSpec.upto exactCountsSpec)

/-- 'heavykeyslaw17.ExactLeast', WHERE WHAT IT READS IS OF BULK AT MOST 1048576: true; the input reads as it did. -/
def exactLeastUptoRow : OpenClaim := { program := "ytmbgnekilgobaaa", sum := "1906e3e1ca5cb34ecf06aedf5e3c59d279d204314c57e9be4122696a64cd0dda", func := "heavykeys/heavykeyslaw17.ExactLeast", spec := "exactLeast", inPlace := ["internal/bytealg.abigen_runtime_cmpstring", "math/bits.Add64", "slices.overlaps[heavykeys/api.Entry]"], unfollowed := true, recurses := true, apart := false, narrowed := true }
def ExactLeastUptoSaid : Prop := exactLeastUptoRow.holds Try.pinned (OpenSpec.upto exactLeastSpec)

/-- 'heavykeyslaw17.ExactNew', WHERE WHAT IT READS IS OF BULK AT MOST 1048576: true; the input reads as it did. -/
def exactNewUptoRow : OpenClaim := { program := "ytmbgnekilgobaaa", sum := "1906e3e1ca5cb34ecf06aedf5e3c59d279d204314c57e9be4122696a64cd0dda", func := "heavykeys/heavykeyslaw17.ExactNew", spec := "exactNew", inPlace := ["internal/bytealg.abigen_runtime_cmpstring", "math/bits.Add64", "slices.overlaps[heavykeys/api.Entry]"], unfollowed := true, recurses := true, apart := false, narrowed := true }
def ExactNewUptoSaid : Prop := exactNewUptoRow.holds Try.pinned (OpenSpec.upto exactNewSpec)

/-- 'heavykeyslaw17.ExactSteps', WHERE WHAT IT READS IS OF BULK AT MOST 1048576: true; the input reads as it did. -/
def exactStepsUptoRow : OpenClaim := { program := "ytmbgnekilgobaaa", sum := "1906e3e1ca5cb34ecf06aedf5e3c59d279d204314c57e9be4122696a64cd0dda", func := "heavykeys/heavykeyslaw17.ExactSteps", spec := "exactSteps", inPlace := ["internal/bytealg.abigen_runtime_cmpstring", "math/bits.Add64", "slices.overlaps[heavykeys/api.Entry]"], unfollowed := true, recurses := true, apart := false, narrowed := true }
def ExactStepsUptoSaid : Prop := exactStepsUptoRow.holds Try.pinned (OpenSpec.upto exactStepsSpec)

end Rows
end Go.Proofs.Ytmbgnekilgobaaa
