/-
  No cell of these rows narrows 'for every input' (looked for: loops, veiled, ifaces, maps, wideKeys, modest, calm, conditions, laid).
  DERIVED. THE GIVEN ROWS OF THIS SEAT. 13 by the template 'for every input the law returns true; each argument reads behind the call as it read before'; 0 by the template 'total and deterministic' (their statements: YtidobhflijdccaaTotals.lean).
  GIVEN WITH THE SEED: the statements are not yours to turn. If you find one false, say at which input.
  Laid BY PROGRAM, IN A SANDBOX (cutbox-rows.mjs): the forced cells as the released guide's own fill.sh prints them over the translation 5c8f71f6a919e293… (all of the seat's roots in one cut). By AI agents, Wed Nov 11 2026. No macro, syntax, notation, axiom, sorry.
-/
import Derived.Test.YtidobhflijdccaaChecked
import GoSem.Claim
import GoSem.ClaimJoined
import GoSem.ClaimMapViews
import Derived.JoinedTies
import Derived.KernelRfl
namespace Go.Proofs.Ytidobhflijdccaa
/- THE CELL 'sum', in the pinned program and in every row, IS THE sha256 OF THE DUMP (.gsa) THAT YtidobhflijdccaaProg.lean LOADS. Nothing in Lean hashes anything: it is a label: what it is worth is what the hold of that sum in a sandbox is worth. -/
noncomputable def Try.pinned : Pinned := { name := "ytidobhflijdccaa", sum := "5c8f71f6a919e293aec45e6d24de80eb9539350914ce2e0ab2bc2663db084e2d", checked := Try.checked }
namespace Rows
def none {H : Type} : Left H := { results := [], args := [] }

/-- 'heavykeyslaw08.ArenaCheck': WHATEVER THE INPUT: true; the input reads as it did. -/
def arenaCheckSpec : ChangeSpec := { name := "arenaCheck", fn := fun _ => fun
  | [d1, d2, d3, d4, d5] => { results := [.lit (.bool true)], args := [d1, d2, d3, d4, d5] }
  | _ => none }
def arenaCheckRow : OpenClaim := { program := "ytidobhflijdccaa", sum := "5c8f71f6a919e293aec45e6d24de80eb9539350914ce2e0ab2bc2663db084e2d", func := "heavykeys/heavykeyslaw08.ArenaCheck", spec := "arenaCheck", unfollowed := true, recurses := true, apart := false }
def ArenaCheckSaid : Prop := arenaCheckRow.holds Try.pinned (OpenSpec.ofChange arenaCheckSpec)

/-- ITS FALSE NEIGHBOUR: 'it returns false'. Refute it at one input. -/
def arenaCheckWrong : ChangeSpec := { name := "arenaCheck", fn := fun _ => fun
  | [d1, d2, d3, d4, d5] => { results := [.lit (.bool false)], args := [d1, d2, d3, d4, d5] }
  | _ => none }
def ArenaCheckWrongFalsely : Prop := arenaCheckRow.holds Try.pinned (OpenSpec.ofChange arenaCheckWrong)

/-- 'heavykeyslaw08.ArenaCounts': WHATEVER THE INPUT: true; the input reads as it did. -/
def arenaCountsSpec : ChangeSpec := { name := "arenaCounts", fn := fun _ => fun
  | [d1, d2] => { results := [.lit (.bool true)], args := [d1, d2] }
  | _ => none }
def arenaCountsRow : OpenClaim := { program := "ytidobhflijdccaa", sum := "5c8f71f6a919e293aec45e6d24de80eb9539350914ce2e0ab2bc2663db084e2d", func := "heavykeys/heavykeyslaw08.ArenaCounts", spec := "arenaCounts", unfollowed := true, recurses := true, apart := false }
def ArenaCountsSaid : Prop := arenaCountsRow.holds Try.pinned (OpenSpec.ofChange arenaCountsSpec)

/-- ITS FALSE NEIGHBOUR: 'it returns false'. Refute it at one input. -/
def arenaCountsWrong : ChangeSpec := { name := "arenaCounts", fn := fun _ => fun
  | [d1, d2] => { results := [.lit (.bool false)], args := [d1, d2] }
  | _ => none }
def ArenaCountsWrongFalsely : Prop := arenaCountsRow.holds Try.pinned (OpenSpec.ofChange arenaCountsWrong)

/-- 'heavykeyslaw08.ArenaSteps': WHATEVER THE INPUT: true; the input reads as it did. -/
def arenaStepsSpec : ChangeSpec := { name := "arenaSteps", fn := fun _ => fun
  | [d1, d2, d3] => { results := [.lit (.bool true)], args := [d1, d2, d3] }
  | _ => none }
def arenaStepsRow : OpenClaim := { program := "ytidobhflijdccaa", sum := "5c8f71f6a919e293aec45e6d24de80eb9539350914ce2e0ab2bc2663db084e2d", func := "heavykeys/heavykeyslaw08.ArenaSteps", spec := "arenaSteps", unfollowed := true, recurses := true, apart := false }
def ArenaStepsSaid : Prop := arenaStepsRow.holds Try.pinned (OpenSpec.ofChange arenaStepsSpec)

/-- ITS FALSE NEIGHBOUR: 'it returns false'. Refute it at one input. -/
def arenaStepsWrong : ChangeSpec := { name := "arenaSteps", fn := fun _ => fun
  | [d1, d2, d3] => { results := [.lit (.bool false)], args := [d1, d2, d3] }
  | _ => none }
def ArenaStepsWrongFalsely : Prop := arenaStepsRow.holds Try.pinned (OpenSpec.ofChange arenaStepsWrong)

/-- 'heavykeyslaw08.ArenaDistinct': WHATEVER THE INPUT: true; the input reads as it did. -/
def arenaDistinctSpec : ChangeSpec := { name := "arenaDistinct", fn := fun _ => fun
  | [d1, d2] => { results := [.lit (.bool true)], args := [d1, d2] }
  | _ => none }
def arenaDistinctRow : OpenClaim := { program := "ytidobhflijdccaa", sum := "5c8f71f6a919e293aec45e6d24de80eb9539350914ce2e0ab2bc2663db084e2d", func := "heavykeys/heavykeyslaw08.ArenaDistinct", spec := "arenaDistinct", unfollowed := true, recurses := true, apart := false }
def ArenaDistinctSaid : Prop := arenaDistinctRow.holds Try.pinned (OpenSpec.ofChange arenaDistinctSpec)

/-- ITS FALSE NEIGHBOUR: 'it returns false'. Refute it at one input. -/
def arenaDistinctWrong : ChangeSpec := { name := "arenaDistinct", fn := fun _ => fun
  | [d1, d2] => { results := [.lit (.bool false)], args := [d1, d2] }
  | _ => none }
def ArenaDistinctWrongFalsely : Prop := arenaDistinctRow.holds Try.pinned (OpenSpec.ofChange arenaDistinctWrong)

/-- 'heavykeyslaw08.ArenaStale': WHATEVER THE INPUT: true; the input reads as it did. -/
def arenaStaleSpec : ChangeSpec := { name := "arenaStale", fn := fun _ => fun
  | [d1, d2, d3] => { results := [.lit (.bool true)], args := [d1, d2, d3] }
  | _ => none }
def arenaStaleRow : OpenClaim := { program := "ytidobhflijdccaa", sum := "5c8f71f6a919e293aec45e6d24de80eb9539350914ce2e0ab2bc2663db084e2d", func := "heavykeys/heavykeyslaw08.ArenaStale", spec := "arenaStale", unfollowed := true, recurses := true, apart := false }
def ArenaStaleSaid : Prop := arenaStaleRow.holds Try.pinned (OpenSpec.ofChange arenaStaleSpec)

/-- ITS FALSE NEIGHBOUR: 'it returns false'. Refute it at one input. -/
def arenaStaleWrong : ChangeSpec := { name := "arenaStale", fn := fun _ => fun
  | [d1, d2, d3] => { results := [.lit (.bool false)], args := [d1, d2, d3] }
  | _ => none }
def ArenaStaleWrongFalsely : Prop := arenaStaleRow.holds Try.pinned (OpenSpec.ofChange arenaStaleWrong)

/-- 'heavykeyslaw09.PoolBack': WHATEVER THE INPUT: true; the input reads as it did. -/
def poolBackSpec : ChangeSpec := { name := "poolBack", fn := fun _ => fun
  | [d1, d2] => { results := [.lit (.bool true)], args := [d1, d2] }
  | _ => none }
def poolBackRow : OpenClaim := { program := "ytidobhflijdccaa", sum := "5c8f71f6a919e293aec45e6d24de80eb9539350914ce2e0ab2bc2663db084e2d", func := "heavykeys/heavykeyslaw09.PoolBack", spec := "poolBack", unfollowed := true, recurses := true, apart := false }
def PoolBackSaid : Prop := poolBackRow.holds Try.pinned (OpenSpec.ofChange poolBackSpec)

/-- ITS FALSE NEIGHBOUR: 'it returns false'. Refute it at one input. -/
def poolBackWrong : ChangeSpec := { name := "poolBack", fn := fun _ => fun
  | [d1, d2] => { results := [.lit (.bool false)], args := [d1, d2] }
  | _ => none }
def PoolBackWrongFalsely : Prop := poolBackRow.holds Try.pinned (OpenSpec.ofChange poolBackWrong)

/-- 'heavykeyslaw09.PoolEmpty': WHATEVER THE INPUT: true; the input reads as it did. -/
def poolEmptySpec : ChangeSpec := { name := "poolEmpty", fn := fun _ => fun
  | [d] => { results := [.lit (.bool true)], args := [d] }
  | _ => none }
def poolEmptyRow : OpenClaim := { program := "ytidobhflijdccaa", sum := "5c8f71f6a919e293aec45e6d24de80eb9539350914ce2e0ab2bc2663db084e2d", func := "heavykeys/heavykeyslaw09.PoolEmpty", spec := "poolEmpty", unfollowed := true, recurses := true, apart := false }
def PoolEmptySaid : Prop := poolEmptyRow.holds Try.pinned (OpenSpec.ofChange poolEmptySpec)

/-- ITS FALSE NEIGHBOUR: 'it returns false'. Refute it at one input. -/
def poolEmptyWrong : ChangeSpec := { name := "poolEmpty", fn := fun _ => fun
  | [d] => { results := [.lit (.bool false)], args := [d] }
  | _ => none }
def PoolEmptyWrongFalsely : Prop := poolEmptyRow.holds Try.pinned (OpenSpec.ofChange poolEmptyWrong)

/-- 'heavykeyslaw09.PoolNew': WHATEVER THE INPUT: true; the input reads as it did. -/
def poolNewSpec : ChangeSpec := { name := "poolNew", fn := fun _ => fun
  | [d1, d2] => { results := [.lit (.bool true)], args := [d1, d2] }
  | _ => none }
def poolNewRow : OpenClaim := { program := "ytidobhflijdccaa", sum := "5c8f71f6a919e293aec45e6d24de80eb9539350914ce2e0ab2bc2663db084e2d", func := "heavykeys/heavykeyslaw09.PoolNew", spec := "poolNew", unfollowed := true, recurses := true, apart := false }
def PoolNewSaid : Prop := poolNewRow.holds Try.pinned (OpenSpec.ofChange poolNewSpec)

/-- ITS FALSE NEIGHBOUR: 'it returns false'. Refute it at one input. -/
def poolNewWrong : ChangeSpec := { name := "poolNew", fn := fun _ => fun
  | [d1, d2] => { results := [.lit (.bool false)], args := [d1, d2] }
  | _ => none }
def PoolNewWrongFalsely : Prop := poolNewRow.holds Try.pinned (OpenSpec.ofChange poolNewWrong)

/-- 'heavykeyslaw09.PoolSteps': WHATEVER THE INPUT: true; the input reads as it did. -/
def poolStepsSpec : ChangeSpec := { name := "poolSteps", fn := fun _ => fun
  | [d1, d2, d3, d4] => { results := [.lit (.bool true)], args := [d1, d2, d3, d4] }
  | _ => none }
def poolStepsRow : OpenClaim := { program := "ytidobhflijdccaa", sum := "5c8f71f6a919e293aec45e6d24de80eb9539350914ce2e0ab2bc2663db084e2d", func := "heavykeys/heavykeyslaw09.PoolSteps", spec := "poolSteps", unfollowed := true, recurses := true, apart := false }
def PoolStepsSaid : Prop := poolStepsRow.holds Try.pinned (OpenSpec.ofChange poolStepsSpec)

/-- ITS FALSE NEIGHBOUR: 'it returns false'. Refute it at one input. -/
def poolStepsWrong : ChangeSpec := { name := "poolSteps", fn := fun _ => fun
  | [d1, d2, d3, d4] => { results := [.lit (.bool false)], args := [d1, d2, d3, d4] }
  | _ => none }
def PoolStepsWrongFalsely : Prop := poolStepsRow.holds Try.pinned (OpenSpec.ofChange poolStepsWrong)

/-- 'heavykeyslaw27.QueueFull': WHATEVER THE INPUT: true; the input reads as it did. -/
def queueFullSpec : ChangeSpec := { name := "queueFull", fn := fun _ => fun
  | [d1, d2, d3] => { results := [.lit (.bool true)], args := [d1, d2, d3] }
  | _ => none }
def queueFullRow : OpenClaim := { program := "ytidobhflijdccaa", sum := "5c8f71f6a919e293aec45e6d24de80eb9539350914ce2e0ab2bc2663db084e2d", func := "heavykeys/heavykeyslaw27.QueueFull", spec := "queueFull", inPlace := ["math/bits.Add64"], unfollowed := true, recurses := true, apart := false }
def QueueFullSaid : Prop := queueFullRow.holds Try.pinned (OpenSpec.ofChange queueFullSpec)

/-- ITS FALSE NEIGHBOUR: 'it returns false'. Refute it at one input. -/
def queueFullWrong : ChangeSpec := { name := "queueFull", fn := fun _ => fun
  | [d1, d2, d3] => { results := [.lit (.bool false)], args := [d1, d2, d3] }
  | _ => none }
def QueueFullWrongFalsely : Prop := queueFullRow.holds Try.pinned (OpenSpec.ofChange queueFullWrong)

/-- 'heavykeyslaw27.QueueNew': WHATEVER THE INPUT: true; the input reads as it did. -/
def queueNewSpec : ChangeSpec := { name := "queueNew", fn := fun _ => fun
  | [d] => { results := [.lit (.bool true)], args := [d] }
  | _ => none }
def queueNewRow : OpenClaim := { program := "ytidobhflijdccaa", sum := "5c8f71f6a919e293aec45e6d24de80eb9539350914ce2e0ab2bc2663db084e2d", func := "heavykeys/heavykeyslaw27.QueueNew", spec := "queueNew", inPlace := ["math/bits.Add64"], unfollowed := true, recurses := true, apart := false }
def QueueNewSaid : Prop := queueNewRow.holds Try.pinned (OpenSpec.ofChange queueNewSpec)

/-- ITS FALSE NEIGHBOUR: 'it returns false'. Refute it at one input. -/
def queueNewWrong : ChangeSpec := { name := "queueNew", fn := fun _ => fun
  | [d] => { results := [.lit (.bool false)], args := [d] }
  | _ => none }
def QueueNewWrongFalsely : Prop := queueNewRow.holds Try.pinned (OpenSpec.ofChange queueNewWrong)

/-- 'heavykeyslaw27.QueueSteps': WHATEVER THE INPUT: true; the input reads as it did. -/
def queueStepsSpec : ChangeSpec := { name := "queueSteps", fn := fun _ => fun
  | [d1, d2, d3, d4, d5] => { results := [.lit (.bool true)], args := [d1, d2, d3, d4, d5] }
  | _ => none }
def queueStepsRow : OpenClaim := { program := "ytidobhflijdccaa", sum := "5c8f71f6a919e293aec45e6d24de80eb9539350914ce2e0ab2bc2663db084e2d", func := "heavykeys/heavykeyslaw27.QueueSteps", spec := "queueSteps", inPlace := ["math/bits.Add64"], unfollowed := true, recurses := true, apart := false }
def QueueStepsSaid : Prop := queueStepsRow.holds Try.pinned (OpenSpec.ofChange queueStepsSpec)

/-- ITS FALSE NEIGHBOUR: 'it returns false'. Refute it at one input. -/
def queueStepsWrong : ChangeSpec := { name := "queueSteps", fn := fun _ => fun
  | [d1, d2, d3, d4, d5] => { results := [.lit (.bool false)], args := [d1, d2, d3, d4, d5] }
  | _ => none }
def QueueStepsWrongFalsely : Prop := queueStepsRow.holds Try.pinned (OpenSpec.ofChange queueStepsWrong)

/-- 'heavykeyslaw27.QueueOrder': WHATEVER THE INPUT: true; the input reads as it did. -/
def queueOrderSpec : ChangeSpec := { name := "queueOrder", fn := fun _ => fun
  | [d1, d2] => { results := [.lit (.bool true)], args := [d1, d2] }
  | _ => none }
def queueOrderRow : OpenClaim := { program := "ytidobhflijdccaa", sum := "5c8f71f6a919e293aec45e6d24de80eb9539350914ce2e0ab2bc2663db084e2d", func := "heavykeys/heavykeyslaw27.QueueOrder", spec := "queueOrder", inPlace := ["math/bits.Add64"], unfollowed := true, recurses := true, apart := false }
def QueueOrderSaid : Prop := queueOrderRow.holds Try.pinned (OpenSpec.ofChange queueOrderSpec)

/-- ITS FALSE NEIGHBOUR: 'it returns false'. Refute it at one input. -/
def queueOrderWrong : ChangeSpec := { name := "queueOrder", fn := fun _ => fun
  | [d1, d2] => { results := [.lit (.bool false)], args := [d1, d2] }
  | _ => none }
def QueueOrderWrongFalsely : Prop := queueOrderRow.holds Try.pinned (OpenSpec.ofChange queueOrderWrong)

/- THE SECOND FORM. 'bulk': how many values and letters a reading holds, each counted each time it is reached (what is shared counts as often as it is met; a slice's spare places count too). A statement '..UptoSaid' is the law's where the arguments, and the package variables that the reading takes, are together of bulk at most 1048576: NARROWER than '..Said'. Prove '..Said' where nothing that the law and all that it calls make is longer than what came in: it says more and counts as full. Else prove '..UptoSaid'. A law counts once. -/
mutual
def uptoBulk {H : Type} : DataW H → Nat
  | .lit (.string bytes) => bytes.length + 1
  | .lit _ => 1
  | .nil => 1
  | .ptr d => uptoBulk d + 1
  | .slice elems spare => uptoBulkAll elems + uptoBulkAll spare + 1
  | .agg parts => uptoBulkAll parts + 1
  | .iface _ d => uptoBulk d + 1
  | .map entries => uptoBulkEntries entries + 1
  | .held _ => 1
def uptoBulkAll {H : Type} : List (DataW H) → Nat
  | [] => 0
  | d :: r => uptoBulk d + uptoBulkAll r
def uptoBulkEntries {H : Type} : List (Lit × DataW H) → Nat
  | [] => 0
  | x :: r => uptoBulkEntry x + uptoBulkEntries r
def uptoBulkEntry {H : Type} : Lit × DataW H → Nat
  | (.string bytes, d) => bytes.length + uptoBulk d + 1
  | (_, d) => uptoBulk d + 1
 end
def uptoSmall : (H : Type) → List (DataW H) → Bool := fun _ ds => decide (uptoBulkAll ds ≤ 1048576)
def OpenSpec.upto (s : _root_.Go.ChangeSpec) : _root_.Go.OpenSpec := { _root_.Go.OpenSpec.ofChange s with cond := some uptoSmall }

/-- 'heavykeyslaw08.ArenaCheck', WHERE WHAT IT READS IS OF BULK AT MOST 1048576: true; the input reads as it did. -/
def arenaCheckUptoRow : OpenClaim := { program := "ytidobhflijdccaa", sum := "5c8f71f6a919e293aec45e6d24de80eb9539350914ce2e0ab2bc2663db084e2d", func := "heavykeys/heavykeyslaw08.ArenaCheck", spec := "arenaCheck", unfollowed := true, recurses := true, apart := false, narrowed := true }
def ArenaCheckUptoSaid : Prop := arenaCheckUptoRow.holds Try.pinned (OpenSpec.upto arenaCheckSpec)

/-- 'heavykeyslaw08.ArenaCounts', WHERE WHAT IT READS IS OF BULK AT MOST 1048576: true; the input reads as it did. -/
def arenaCountsUptoRow : OpenClaim := { program := "ytidobhflijdccaa", sum := "5c8f71f6a919e293aec45e6d24de80eb9539350914ce2e0ab2bc2663db084e2d", func := "heavykeys/heavykeyslaw08.ArenaCounts", spec := "arenaCounts", unfollowed := true, recurses := true, apart := false, narrowed := true }
def ArenaCountsUptoSaid : Prop := arenaCountsUptoRow.holds Try.pinned (OpenSpec.upto arenaCountsSpec)

/-- 'heavykeyslaw08.ArenaSteps', WHERE WHAT IT READS IS OF BULK AT MOST 1048576: true; the input reads as it did. -/
def arenaStepsUptoRow : OpenClaim := { program := "ytidobhflijdccaa", sum := "5c8f71f6a919e293aec45e6d24de80eb9539350914ce2e0ab2bc2663db084e2d", func := "heavykeys/heavykeyslaw08.ArenaSteps", spec := "arenaSteps", unfollowed := true, recurses := true, apart := false, narrowed := true }
def ArenaStepsUptoSaid : Prop := arenaStepsUptoRow.holds Try.pinned (OpenSpec.upto arenaStepsSpec)

/-- 'heavykeyslaw08.ArenaDistinct', WHERE WHAT IT READS IS OF BULK AT MOST 1048576: true; the input reads as it did. -/
def arenaDistinctUptoRow : OpenClaim := { program := "ytidobhflijdccaa", sum := "5c8f71f6a919e293aec45e6d24de80eb9539350914ce2e0ab2bc2663db084e2d", func := "heavykeys/heavykeyslaw08.ArenaDistinct", spec := "arenaDistinct", unfollowed := true, recurses := true, apart := false, narrowed := true }
def ArenaDistinctUptoSaid : Prop := arenaDistinctUptoRow.holds Try.pinned (OpenSpec.upto arenaDistinctSpec)

/-- 'heavykeyslaw08.ArenaStale', WHERE WHAT IT READS IS OF BULK AT MOST 1048576: true; the input reads as it did. -/
def arenaStaleUptoRow : OpenClaim := { program := "ytidobhflijdccaa", sum := "5c8f71f6a919e293aec45e6d24de80eb9539350914ce2e0ab2bc2663db084e2d", func := "heavykeys/heavykeyslaw08.ArenaStale", spec := "arenaStale", unfollowed := true, recurses := true, apart := false, narrowed := true }
def ArenaStaleUptoSaid : Prop := arenaStaleUptoRow.holds Try.pinned (OpenSpec.upto arenaStaleSpec)

/-- 'heavykeyslaw09.PoolBack', WHERE WHAT IT READS IS OF BULK AT MOST 1048576: true; the input reads as it did. -/
def poolBackUptoRow : OpenClaim := { program := "ytidobhflijdccaa", sum := "5c8f71f6a919e293aec45e6d24de80eb9539350914ce2e0ab2bc2663db084e2d", func := "heavykeys/heavykeyslaw09.PoolBack", spec := "poolBack", unfollowed := true, recurses := true, apart := false, narrowed := true }
def PoolBackUptoSaid : Prop := poolBackUptoRow.holds Try.pinned (OpenSpec.upto poolBackSpec)

/-- 'heavykeyslaw09.PoolEmpty', WHERE WHAT IT READS IS OF BULK AT MOST 1048576: true; the input reads as it did. -/
def poolEmptyUptoRow : OpenClaim := { program := "ytidobhflijdccaa", sum := "5c8f71f6a919e293aec45e6d24de80eb9539350914ce2e0ab2bc2663db084e2d", func := "heavykeys/heavykeyslaw09.PoolEmpty", spec := "poolEmpty", unfollowed := true, recurses := true, apart := false, narrowed := true }
def PoolEmptyUptoSaid : Prop := poolEmptyUptoRow.holds Try.pinned (OpenSpec.upto poolEmptySpec)

/-- 'heavykeyslaw09.PoolNew', WHERE WHAT IT READS IS OF BULK AT MOST 1048576: true; the input reads as it did. -/
def poolNewUptoRow : OpenClaim := { program := "ytidobhflijdccaa", sum := "5c8f71f6a919e293aec45e6d24de80eb9539350914ce2e0ab2bc2663db084e2d", func := "heavykeys/heavykeyslaw09.PoolNew", spec := "poolNew", unfollowed := true, recurses := true, apart := false, narrowed := true }
def PoolNewUptoSaid : Prop := poolNewUptoRow.holds Try.pinned (OpenSpec.upto poolNewSpec)

/-- 'heavykeyslaw09.PoolSteps', WHERE WHAT IT READS IS OF BULK AT MOST 1048576: true; the input reads as it did. -/
def poolStepsUptoRow : OpenClaim := { program := "ytidobhflijdccaa", sum := "5c8f71f6a919e293aec45e6d24de80eb9539350914ce2e0ab2bc2663db084e2d", func := "heavykeys/heavykeyslaw09.PoolSteps", spec := "poolSteps", unfollowed := true, recurses := true, apart := false, narrowed := true }
def PoolStepsUptoSaid : Prop := poolStepsUptoRow.holds Try.pinned (OpenSpec.upto poolStepsSpec)

/-- 'heavykeyslaw27.QueueFull', WHERE WHAT IT READS IS OF BULK AT MOST 1048576: true; the input reads as it did. -/
def queueFullUptoRow : OpenClaim := { program := "ytidobhflijdccaa", sum := "5c8f71f6a919e293aec45e6d24de80eb9539350914ce2e0ab2bc2663db084e2d", func := "heavykeys/heavykeyslaw27.QueueFull", spec := "queueFull", inPlace := ["math/bits.Add64"], unfollowed := true, recurses := true, apart := false, narrowed := true }
def QueueFullUptoSaid : Prop := queueFullUptoRow.holds Try.pinned (OpenSpec.upto queueFullSpec)

/-- 'heavykeyslaw27.QueueNew', WHERE WHAT IT READS IS OF BULK AT MOST 1048576: true; the input reads as it did. -/
def queueNewUptoRow : OpenClaim := { program := "ytidobhflijdccaa", sum := "5c8f71f6a919e293aec45e6d24de80eb9539350914ce2e0ab2bc2663db084e2d", func := "heavykeys/heavykeyslaw27.QueueNew", spec := "queueNew", inPlace := ["math/bits.Add64"], unfollowed := true, recurses := true, apart := false, narrowed := true }
def QueueNewUptoSaid : Prop := queueNewUptoRow.holds Try.pinned (OpenSpec.upto queueNewSpec)

/-- 'heavykeyslaw27.QueueSteps', WHERE WHAT IT READS IS OF BULK AT MOST 1048576: true; the input reads as it did. -/
def queueStepsUptoRow : OpenClaim := { program := "ytidobhflijdccaa", sum := "5c8f71f6a919e293aec45e6d24de80eb9539350914ce2e0ab2bc2663db084e2d", func := "heavykeys/heavykeyslaw27.QueueSteps", spec := "queueSteps", inPlace := ["math/bits.Add64"], unfollowed := true, recurses := true, apart := false, narrowed := true }
def QueueStepsUptoSaid : Prop := queueStepsUptoRow.holds Try.pinned (OpenSpec.upto queueStepsSpec)

/-- 'heavykeyslaw27.QueueOrder', WHERE WHAT IT READS IS OF BULK AT MOST 1048576: true; the input reads as it did. -/
def queueOrderUptoRow : OpenClaim := { program := "ytidobhflijdccaa", sum := "5c8f71f6a919e293aec45e6d24de80eb9539350914ce2e0ab2bc2663db084e2d", func := "heavykeys/heavykeyslaw27.QueueOrder", spec := "queueOrder", inPlace := ["math/bits.Add64"], unfollowed := true, recurses := true, apart := false, narrowed := true }
def QueueOrderUptoSaid : Prop := queueOrderUptoRow.holds Try.pinned (OpenSpec.upto queueOrderSpec)

end Rows
end Go.Proofs.Ytidobhflijdccaa
