/-
  No cell of these rows narrows 'for every input' (looked for: loops, veiled, ifaces, maps, wideKeys, modest, calm, conditions, laid).
  DERIVED. THE GIVEN ROWS OF THIS SEAT. 8 by the template 'for every input the law returns true; each argument reads behind the call as it read before'; 0 by the template 'total and deterministic' (their statements: YtgjlibecgkhocaaTotals.lean).
  GIVEN WITH THE SEED: the statements are not yours to turn. If you find one false, say at which input.
  Laid BY PROGRAM, IN A SANDBOX (cutbox-rows.mjs): the forced cells as the released guide's own fill.sh prints them over the translation 2c734bfc39c36678… (all of the seat's roots in one cut). By AI agents, Wed Nov 11 2026. No macro, syntax, notation, axiom, sorry.
-/
import Derived.Test.YtgjlibecgkhocaaChecked
import GoSem.Claim
import GoSem.ClaimJoined
import GoSem.ClaimMapViews
import Derived.JoinedTies
import Derived.KernelRfl
namespace Go.Proofs.Ytgjlibecgkhocaa
/- THE CELL 'sum', in the pinned program and in every row, IS THE sha256 OF THE DUMP (.gsa) THAT YtgjlibecgkhocaaProg.lean LOADS. Nothing in Lean hashes anything: it is a label: what it is worth is what the hold of that sum in a sandbox is worth. -/
noncomputable def Try.pinned : Pinned := { name := "ytgjlibecgkhocaa", sum := "2c734bfc39c36678b74d545c9838ebc2b5b3d90e6edf075fee80bcef355ecbe4", checked := Try.checked }
namespace Rows
def none {H : Type} : Left H := { results := [], args := [] }

/-- 'heavykeyslaw20.RouterSet': WHATEVER THE INPUT: true; the input reads as it did. -/
def routerSetSpec : ChangeSpec := { name := "routerSet", fn := fun _ => fun
  | [d1, d2, d3, d4, d5] => { results := [.lit (.bool true)], args := [d1, d2, d3, d4, d5] }
  | _ => none }
def routerSetRow : OpenClaim := { program := "ytgjlibecgkhocaa", sum := "2c734bfc39c36678b74d545c9838ebc2b5b3d90e6edf075fee80bcef355ecbe4", func := "heavykeys/heavykeyslaw20.RouterSet", spec := "routerSet", apart := false }
def RouterSetSaid : Prop := routerSetRow.holds Try.pinned (OpenSpec.ofChange routerSetSpec)

/-- ITS FALSE NEIGHBOUR: 'it returns false'. Refute it at one input. -/
def routerSetWrong : ChangeSpec := { name := "routerSet", fn := fun _ => fun
  | [d1, d2, d3, d4, d5] => { results := [.lit (.bool false)], args := [d1, d2, d3, d4, d5] }
  | _ => none }
def RouterSetWrongFalsely : Prop := routerSetRow.holds Try.pinned (OpenSpec.ofChange routerSetWrong)

/-- 'heavykeyslaw20.RouterSpread': WHATEVER THE INPUT: true; the input reads as it did. -/
def routerSpreadSpec : ChangeSpec := { name := "routerSpread", fn := fun _ => fun
  | [d1, d2, d3] => { results := [.lit (.bool true)], args := [d1, d2, d3] }
  | _ => none }
def routerSpreadRow : OpenClaim := { program := "ytgjlibecgkhocaa", sum := "2c734bfc39c36678b74d545c9838ebc2b5b3d90e6edf075fee80bcef355ecbe4", func := "heavykeys/heavykeyslaw20.RouterSpread", spec := "routerSpread", apart := false }
def RouterSpreadSaid : Prop := routerSpreadRow.holds Try.pinned (OpenSpec.ofChange routerSpreadSpec)

/-- ITS FALSE NEIGHBOUR: 'it returns false'. Refute it at one input. -/
def routerSpreadWrong : ChangeSpec := { name := "routerSpread", fn := fun _ => fun
  | [d1, d2, d3] => { results := [.lit (.bool false)], args := [d1, d2, d3] }
  | _ => none }
def RouterSpreadWrongFalsely : Prop := routerSpreadRow.holds Try.pinned (OpenSpec.ofChange routerSpreadWrong)

/-- 'heavykeyslaw20.RouterWhole': WHATEVER THE INPUT: true; the input reads as it did. -/
def routerWholeSpec : ChangeSpec := { name := "routerWhole", fn := fun _ => fun
  | [d1, d2, d3] => { results := [.lit (.bool true)], args := [d1, d2, d3] }
  | _ => none }
def routerWholeRow : OpenClaim := { program := "ytgjlibecgkhocaa", sum := "2c734bfc39c36678b74d545c9838ebc2b5b3d90e6edf075fee80bcef355ecbe4", func := "heavykeys/heavykeyslaw20.RouterWhole", spec := "routerWhole", apart := false }
def RouterWholeSaid : Prop := routerWholeRow.holds Try.pinned (OpenSpec.ofChange routerWholeSpec)

/-- ITS FALSE NEIGHBOUR: 'it returns false'. Refute it at one input. -/
def routerWholeWrong : ChangeSpec := { name := "routerWhole", fn := fun _ => fun
  | [d1, d2, d3] => { results := [.lit (.bool false)], args := [d1, d2, d3] }
  | _ => none }
def RouterWholeWrongFalsely : Prop := routerWholeRow.holds Try.pinned (OpenSpec.ofChange routerWholeWrong)

/-- 'heavykeyslaw28.SizingCheck': WHATEVER THE INPUT: true; the input reads as it did. -/
def sizingCheckSpec : ChangeSpec := { name := "sizingCheck", fn := fun _ => fun
  | [d1, d2, d3, d4, d5, d6] => { results := [.lit (.bool true)], args := [d1, d2, d3, d4, d5, d6] }
  | _ => none }
def sizingCheckRow : OpenClaim := { program := "ytgjlibecgkhocaa", sum := "2c734bfc39c36678b74d545c9838ebc2b5b3d90e6edf075fee80bcef355ecbe4", func := "heavykeys/heavykeyslaw28.SizingCheck", spec := "sizingCheck", unfollowed := true, recurses := true, apart := false }
def SizingCheckSaid : Prop := sizingCheckRow.holds Try.pinned (OpenSpec.ofChange sizingCheckSpec)

/-- ITS FALSE NEIGHBOUR: 'it returns false'. Refute it at one input. -/
def sizingCheckWrong : ChangeSpec := { name := "sizingCheck", fn := fun _ => fun
  | [d1, d2, d3, d4, d5, d6] => { results := [.lit (.bool false)], args := [d1, d2, d3, d4, d5, d6] }
  | _ => none }
def SizingCheckWrongFalsely : Prop := sizingCheckRow.holds Try.pinned (OpenSpec.ofChange sizingCheckWrong)

/-- 'heavykeyslaw28.SizingDemand': WHATEVER THE INPUT: true; the input reads as it did. -/
def sizingDemandSpec : ChangeSpec := { name := "sizingDemand", fn := fun _ => fun
  | [d1, d2, d3, d4] => { results := [.lit (.bool true)], args := [d1, d2, d3, d4] }
  | _ => none }
def sizingDemandRow : OpenClaim := { program := "ytgjlibecgkhocaa", sum := "2c734bfc39c36678b74d545c9838ebc2b5b3d90e6edf075fee80bcef355ecbe4", func := "heavykeys/heavykeyslaw28.SizingDemand", spec := "sizingDemand", unfollowed := true, recurses := true, apart := false }
def SizingDemandSaid : Prop := sizingDemandRow.holds Try.pinned (OpenSpec.ofChange sizingDemandSpec)

/-- ITS FALSE NEIGHBOUR: 'it returns false'. Refute it at one input. -/
def sizingDemandWrong : ChangeSpec := { name := "sizingDemand", fn := fun _ => fun
  | [d1, d2, d3, d4] => { results := [.lit (.bool false)], args := [d1, d2, d3, d4] }
  | _ => none }
def SizingDemandWrongFalsely : Prop := sizingDemandRow.holds Try.pinned (OpenSpec.ofChange sizingDemandWrong)

/-- 'heavykeyslaw28.SizingTight': WHATEVER THE INPUT: true; the input reads as it did. -/
def sizingTightSpec : ChangeSpec := { name := "sizingTight", fn := fun _ => fun
  | [d1, d2] => { results := [.lit (.bool true)], args := [d1, d2] }
  | _ => none }
def sizingTightRow : OpenClaim := { program := "ytgjlibecgkhocaa", sum := "2c734bfc39c36678b74d545c9838ebc2b5b3d90e6edf075fee80bcef355ecbe4", func := "heavykeys/heavykeyslaw28.SizingTight", spec := "sizingTight", unfollowed := true, recurses := true, apart := false }
def SizingTightSaid : Prop := sizingTightRow.holds Try.pinned (OpenSpec.ofChange sizingTightSpec)

/-- ITS FALSE NEIGHBOUR: 'it returns false'. Refute it at one input. -/
def sizingTightWrong : ChangeSpec := { name := "sizingTight", fn := fun _ => fun
  | [d1, d2] => { results := [.lit (.bool false)], args := [d1, d2] }
  | _ => none }
def SizingTightWrongFalsely : Prop := sizingTightRow.holds Try.pinned (OpenSpec.ofChange sizingTightWrong)

/-- 'heavykeyslaw28.SizingGrows': WHATEVER THE INPUT: true; the input reads as it did. -/
def sizingGrowsSpec : ChangeSpec := { name := "sizingGrows", fn := fun _ => fun
  | [d1, d2] => { results := [.lit (.bool true)], args := [d1, d2] }
  | _ => none }
def sizingGrowsRow : OpenClaim := { program := "ytgjlibecgkhocaa", sum := "2c734bfc39c36678b74d545c9838ebc2b5b3d90e6edf075fee80bcef355ecbe4", func := "heavykeys/heavykeyslaw28.SizingGrows", spec := "sizingGrows", unfollowed := true, recurses := true, apart := false }
def SizingGrowsSaid : Prop := sizingGrowsRow.holds Try.pinned (OpenSpec.ofChange sizingGrowsSpec)

/-- ITS FALSE NEIGHBOUR: 'it returns false'. Refute it at one input. -/
def sizingGrowsWrong : ChangeSpec := { name := "sizingGrows", fn := fun _ => fun
  | [d1, d2] => { results := [.lit (.bool false)], args := [d1, d2] }
  | _ => none }
def SizingGrowsWrongFalsely : Prop := sizingGrowsRow.holds Try.pinned (OpenSpec.ofChange sizingGrowsWrong)

/-- 'heavykeyslaw28.SizingFits': WHATEVER THE INPUT: true; the input reads as it did. -/
def sizingFitsSpec : ChangeSpec := { name := "sizingFits", fn := fun _ => fun
  | [d] => { results := [.lit (.bool true)], args := [d] }
  | _ => none }
def sizingFitsRow : OpenClaim := { program := "ytgjlibecgkhocaa", sum := "2c734bfc39c36678b74d545c9838ebc2b5b3d90e6edf075fee80bcef355ecbe4", func := "heavykeys/heavykeyslaw28.SizingFits", spec := "sizingFits", unfollowed := true, recurses := true, apart := false }
def SizingFitsSaid : Prop := sizingFitsRow.holds Try.pinned (OpenSpec.ofChange sizingFitsSpec)

/-- ITS FALSE NEIGHBOUR: 'it returns false'. Refute it at one input. -/
def sizingFitsWrong : ChangeSpec := { name := "sizingFits", fn := fun _ => fun
  | [d] => { results := [.lit (.bool false)], args := [d] }
  | _ => none }
def SizingFitsWrongFalsely : Prop := sizingFitsRow.holds Try.pinned (OpenSpec.ofChange sizingFitsWrong)

/- THE SECOND FORM. 'bulk': how many values and letters a reading holds, each counted each time it is reached (what is shared counts as often as it is met; a slice's spare places count too). A statement '..UptoSaid' is the law's where the arguments, and the package variables that the reading takes, are together of bulk at most 1048576: NARROWER than '..Said'. Prove '..Said' where nothing that the law and all that it calls make is longer than what came in: it says more and counts as full. Else prove '..UptoSaid'. A law counts once. -/
mutual
def uptoBulk {H : Type} : DataW H → Nat
  | .lit (.string bytes) => bytes.length + 1
  | .lit _ => 1
  | .nil => 1
  | .ptr d => uptoBulk d + 1
  | .slice elems spare => uptoBulkAll elems + uptoBulkAll spare + 1
  | .agg parts => uptoBulkAll parts + 1
  | .iface _ d => uptoBulk d + 1
  | .map entries => uptoBulkEntries entries + 1
  | .held _ => 1
def uptoBulkAll {H : Type} : List (DataW H) → Nat
  | [] => 0
  | d :: r => uptoBulk d + uptoBulkAll r
def uptoBulkEntries {H : Type} : List (Lit × DataW H) → Nat
  | [] => 0
  | x :: r => uptoBulkEntry x + uptoBulkEntries r
def uptoBulkEntry {H : Type} : Lit × DataW H → Nat
  | (.string bytes, d) => bytes.length + uptoBulk d + 1
  | (_, d) => uptoBulk d + 1
 end
def uptoSmall : (H : Type) → List (DataW H) → Bool := fun _ ds => decide (uptoBulkAll ds ≤ 1048576)
def OpenSpec.upto (s : _root_.Go.ChangeSpec) : _root_.Go.OpenSpec := { _root_.Go.OpenSpec.ofChange s with cond := some uptoSmall }

/-- 'heavykeyslaw20.RouterSet', WHERE WHAT IT READS IS OF BULK AT MOST 1048576: true; the input reads as it did. -/
def routerSetUptoRow : OpenClaim := { program := "ytgjlibecgkhocaa", sum := "2c734bfc39c36678b74d545c9838ebc2b5b3d90e6edf075fee80bcef355ecbe4", func := "heavykeys/heavykeyslaw20.RouterSet", spec := "routerSet", apart := false, narrowed := true }
def RouterSetUptoSaid : Prop := routerSetUptoRow.holds Try.pinned (OpenSpec.upto routerSetSpec)

/-- 'heavykeyslaw20.RouterSpread', WHERE WHAT IT READS IS OF BULK AT MOST 1048576: true; the input reads as it did. -/
def routerSpreadUptoRow : OpenClaim := { program := "ytgjlibecgkhocaa", sum := "2c734bfc39c36678b74d545c9838ebc2b5b3d90e6edf075fee80bcef355ecbe4", func := "heavykeys/heavykeyslaw20.RouterSpread", spec := "routerSpread", apart := false, narrowed := true }
def RouterSpreadUptoSaid : Prop := routerSpreadUptoRow.holds Try.pinned (OpenSpec.upto routerSpreadSpec)

/-- 'heavykeyslaw20.RouterWhole', WHERE WHAT IT READS IS OF BULK AT MOST 1048576: true; the input reads as it did. -/
def routerWholeUptoRow : OpenClaim := { program := "ytgjlibecgkhocaa", sum := "2c734bfc39c36678b74d545c9838ebc2b5b3d90e6edf075fee80bcef355ecbe4", func := "heavykeys/heavykeyslaw20.RouterWhole", spec := "routerWhole", apart := false, narrowed := true }
def RouterWholeUptoSaid : Prop := routerWholeUptoRow.holds Try.pinned (OpenSpec.upto routerWholeSpec)

/-- 'heavykeyslaw28.SizingCheck', WHERE WHAT IT READS IS OF BULK AT MOST 1048576: true; the input reads as it did. -/
def sizingCheckUptoRow : OpenClaim := { program := "ytgjlibecgkhocaa", sum := "2c734bfc39c36678b74d545c9838ebc2b5b3d90e6edf075fee80bcef355ecbe4", func := "heavykeys/heavykeyslaw28.SizingCheck", spec := "sizingCheck", unfollowed := true, recurses := true, apart := false, narrowed := true }
def SizingCheckUptoSaid : Prop := sizingCheckUptoRow.holds Try.pinned (OpenSpec.upto sizingCheckSpec)

/-- 'heavykeyslaw28.SizingDemand', WHERE WHAT IT READS IS OF BULK AT MOST 1048576: true; the input reads as it did. -/
def sizingDemandUptoRow : OpenClaim := { program := "ytgjlibecgkhocaa", sum := "2c734bfc39c36678b74d545c9838ebc2b5b3d90e6edf075fee80bcef355ecbe4", func := "heavykeys/heavykeyslaw28.SizingDemand", spec := "sizingDemand", unfollowed := true, recurses := true, apart := false, narrowed := true }
def SizingDemandUptoSaid : Prop := sizingDemandUptoRow.holds Try.pinned (OpenSpec.upto sizingDemandSpec)

/-- 'heavykeyslaw28.SizingTight', WHERE WHAT IT READS IS OF BULK AT MOST 1048576: true; the input reads as it did. -/
def sizingTightUptoRow : OpenClaim := { program := "ytgjlibecgkhocaa", sum := "2c734bfc39c36678b74d545c9838ebc2b5b3d90e6edf075fee80bcef355ecbe4", func := "heavykeys/heavykeyslaw28.SizingTight", spec := "sizingTight", unfollowed := true, recurses := true, apart := false, narrowed := true }
def SizingTightUptoSaid : Prop := sizingTightUptoRow.holds Try.pinned (OpenSpec.upto sizingTightSpec)

/-- 'heavykeyslaw28.SizingGrows', WHERE WHAT IT READS IS OF BULK AT MOST 1048576: true; the input reads as it did. -/
def sizingGrowsUptoRow : OpenClaim := { program := "ytgjlibecgkhocaa", sum := "2c734bfc39c36678b74d545c9838ebc2b5b3d90e6edf075fee80bcef355ecbe4", func := "heavykeys/heavykeyslaw28.SizingGrows", spec := "sizingGrows", unfollowed := true, recurses := true, apart := false, narrowed := true }
def SizingGrowsUptoSaid : Prop := sizingGrowsUptoRow.holds Try.pinned (OpenSpec.upto sizingGrowsSpec)

/-- 'heavykeyslaw28.SizingFits', WHERE WHAT IT READS IS OF BULK AT MOST 1048576: true; the input reads as it did. -/
def sizingFitsUptoRow : OpenClaim := { program := "ytgjlibecgkhocaa", sum := "2c734bfc39c36678b74d545c9838ebc2b5b3d90e6edf075fee80bcef355ecbe4", func := "heavykeys/heavykeyslaw28.SizingFits", spec := "sizingFits", unfollowed := true, recurses := true, apart := false, narrowed := true }
def SizingFitsUptoSaid : Prop := sizingFitsUptoRow.holds Try.pinned (OpenSpec.upto sizingFitsSpec)

end Rows
end Go.Proofs.Ytgjlibecgkhocaa
