/-
  No cell of these rows narrows 'for every input' (looked for: loops, veiled, ifaces, maps, wideKeys, modest, calm, conditions, laid).
  DERIVED. THE GIVEN ROWS OF THIS SEAT. 11 by the template 'for every input the law returns true; each argument reads behind the call as it read before'; 0 by the template 'total and deterministic' (their statements: YtaiopdipldaimaaTotals.lean).
  GIVEN WITH THE SEED: the statements are not yours to turn. If you find one false, say at which input.
  Laid BY PROGRAM, IN A SANDBOX (cutbox-rows.mjs): the forced cells as the released guide's own fill.sh prints them over the translation 58d0301534e159fc… (all of the seat's roots in one cut). By AI agents, Wed Nov 11 2026. No macro, syntax, notation, axiom, sorry.
-/
import Derived.Test.YtaiopdipldaimaaChecked
import GoSem.Claim
import GoSem.ClaimJoined
import GoSem.ClaimMapViews
import Derived.JoinedTies
import Derived.KernelRfl
namespace Go.Proofs.Ytaiopdipldaimaa
/- THE CELL 'sum', in the pinned program and in every row, IS THE sha256 OF THE DUMP (.gsa) THAT YtaiopdipldaimaaProg.lean LOADS. Nothing in Lean hashes anything: it is a label: what it is worth is what the hold of that sum in a sandbox is worth. -/
noncomputable def Try.pinned : Pinned := { name := "ytaiopdipldaimaa", sum := "58d0301534e159fc33ef2f964ca6d5802ad925c51dfe7b2c0e6408839d641dbc", checked := Try.checked }
namespace Rows
def none {H : Type} : Left H := { results := [], args := [] }

/-- 'heavykeyslaw16.CountminBounds': WHATEVER THE INPUT: true; the input reads as it did. -/
def countminBoundsSpec : ChangeSpec := { name := "countminBounds", fn := fun _ => fun
  | [d1, d2, d3, d4, d5] => { results := [.lit (.bool true)], args := [d1, d2, d3, d4, d5] }
  | _ => none }
def countminBoundsRow : OpenClaim := { program := "ytaiopdipldaimaa", sum := "58d0301534e159fc33ef2f964ca6d5802ad925c51dfe7b2c0e6408839d641dbc", func := "heavykeys/heavykeyslaw16.CountminBounds", spec := "countminBounds", inPlace := ["math/bits.Add64"], apart := false }
def CountminBoundsSaid : Prop := countminBoundsRow.holds Try.pinned (OpenSpec.ofChange countminBoundsSpec)

/-- ITS FALSE NEIGHBOUR: 'it returns false'. Refute it at one input. -/
def countminBoundsWrong : ChangeSpec := { name := "countminBounds", fn := fun _ => fun
  | [d1, d2, d3, d4, d5] => { results := [.lit (.bool false)], args := [d1, d2, d3, d4, d5] }
  | _ => none }
def CountminBoundsWrongFalsely : Prop := countminBoundsRow.holds Try.pinned (OpenSpec.ofChange countminBoundsWrong)

/-- 'heavykeyslaw16.CountminAlone': WHATEVER THE INPUT: true; the input reads as it did. -/
def countminAloneSpec : ChangeSpec := { name := "countminAlone", fn := fun _ => fun
  | [d1, d2, d3] => { results := [.lit (.bool true)], args := [d1, d2, d3] }
  | _ => none }
def countminAloneRow : OpenClaim := { program := "ytaiopdipldaimaa", sum := "58d0301534e159fc33ef2f964ca6d5802ad925c51dfe7b2c0e6408839d641dbc", func := "heavykeys/heavykeyslaw16.CountminAlone", spec := "countminAlone", inPlace := ["math/bits.Add64"], apart := false }
def CountminAloneSaid : Prop := countminAloneRow.holds Try.pinned (OpenSpec.ofChange countminAloneSpec)

/-- ITS FALSE NEIGHBOUR: 'it returns false'. Refute it at one input. -/
def countminAloneWrong : ChangeSpec := { name := "countminAlone", fn := fun _ => fun
  | [d1, d2, d3] => { results := [.lit (.bool false)], args := [d1, d2, d3] }
  | _ => none }
def CountminAloneWrongFalsely : Prop := countminAloneRow.holds Try.pinned (OpenSpec.ofChange countminAloneWrong)

/-- 'heavykeyslaw21.SummaryEncode': WHATEVER THE INPUT: true; the input reads as it did. -/
def summaryEncodeSpec : ChangeSpec := { name := "summaryEncode", fn := fun _ => fun
  | [d1, d2, d3, d4, d5] => { results := [.lit (.bool true)], args := [d1, d2, d3, d4, d5] }
  | _ => none }
def summaryEncodeRow : OpenClaim := { program := "ytaiopdipldaimaa", sum := "58d0301534e159fc33ef2f964ca6d5802ad925c51dfe7b2c0e6408839d641dbc", func := "heavykeys/heavykeyslaw21.SummaryEncode", spec := "summaryEncode", apart := false }
def SummaryEncodeSaid : Prop := summaryEncodeRow.holds Try.pinned (OpenSpec.ofChange summaryEncodeSpec)

/-- ITS FALSE NEIGHBOUR: 'it returns false'. Refute it at one input. -/
def summaryEncodeWrong : ChangeSpec := { name := "summaryEncode", fn := fun _ => fun
  | [d1, d2, d3, d4, d5] => { results := [.lit (.bool false)], args := [d1, d2, d3, d4, d5] }
  | _ => none }
def SummaryEncodeWrongFalsely : Prop := summaryEncodeRow.holds Try.pinned (OpenSpec.ofChange summaryEncodeWrong)

/-- 'heavykeyslaw21.SummaryBack': WHATEVER THE INPUT: true; the input reads as it did. -/
def summaryBackSpec : ChangeSpec := { name := "summaryBack", fn := fun _ => fun
  | [d1, d2] => { results := [.lit (.bool true)], args := [d1, d2] }
  | _ => none }
def summaryBackRow : OpenClaim := { program := "ytaiopdipldaimaa", sum := "58d0301534e159fc33ef2f964ca6d5802ad925c51dfe7b2c0e6408839d641dbc", func := "heavykeys/heavykeyslaw21.SummaryBack", spec := "summaryBack", apart := false }
def SummaryBackSaid : Prop := summaryBackRow.holds Try.pinned (OpenSpec.ofChange summaryBackSpec)

/-- ITS FALSE NEIGHBOUR: 'it returns false'. Refute it at one input. -/
def summaryBackWrong : ChangeSpec := { name := "summaryBack", fn := fun _ => fun
  | [d1, d2] => { results := [.lit (.bool false)], args := [d1, d2] }
  | _ => none }
def SummaryBackWrongFalsely : Prop := summaryBackRow.holds Try.pinned (OpenSpec.ofChange summaryBackWrong)

/-- 'heavykeyslaw16.CountminNew': WHATEVER THE INPUT: true; the input reads as it did. -/
def countminNewSpec : ChangeSpec := { name := "countminNew", fn := fun _ => fun
  | [d1, d2, d3, d4] => { results := [.lit (.bool true)], args := [d1, d2, d3, d4] }
  | _ => none }
def countminNewRow : OpenClaim := { program := "ytaiopdipldaimaa", sum := "58d0301534e159fc33ef2f964ca6d5802ad925c51dfe7b2c0e6408839d641dbc", func := "heavykeys/heavykeyslaw16.CountminNew", spec := "countminNew", inPlace := ["math/bits.Add64"], apart := false }
def CountminNewSaid : Prop := countminNewRow.holds Try.pinned (OpenSpec.ofChange countminNewSpec)

/-- ITS FALSE NEIGHBOUR: 'it returns false'. Refute it at one input. -/
def countminNewWrong : ChangeSpec := { name := "countminNew", fn := fun _ => fun
  | [d1, d2, d3, d4] => { results := [.lit (.bool false)], args := [d1, d2, d3, d4] }
  | _ => none }
def CountminNewWrongFalsely : Prop := countminNewRow.holds Try.pinned (OpenSpec.ofChange countminNewWrong)

/-- 'heavykeyslaw16.CountminSteps': WHATEVER THE INPUT: true; the input reads as it did. -/
def countminStepsSpec : ChangeSpec := { name := "countminSteps", fn := fun _ => fun
  | [d1, d2, d3, d4, d5] => { results := [.lit (.bool true)], args := [d1, d2, d3, d4, d5] }
  | _ => none }
def countminStepsRow : OpenClaim := { program := "ytaiopdipldaimaa", sum := "58d0301534e159fc33ef2f964ca6d5802ad925c51dfe7b2c0e6408839d641dbc", func := "heavykeys/heavykeyslaw16.CountminSteps", spec := "countminSteps", inPlace := ["math/bits.Add64"], apart := false }
def CountminStepsSaid : Prop := countminStepsRow.holds Try.pinned (OpenSpec.ofChange countminStepsSpec)

/-- ITS FALSE NEIGHBOUR: 'it returns false'. Refute it at one input. -/
def countminStepsWrong : ChangeSpec := { name := "countminSteps", fn := fun _ => fun
  | [d1, d2, d3, d4, d5] => { results := [.lit (.bool false)], args := [d1, d2, d3, d4, d5] }
  | _ => none }
def CountminStepsWrongFalsely : Prop := countminStepsRow.holds Try.pinned (OpenSpec.ofChange countminStepsWrong)

/-- 'heavykeyslaw21.SummaryCheck': WHATEVER THE INPUT: true; the input reads as it did. -/
def summaryCheckSpec : ChangeSpec := { name := "summaryCheck", fn := fun _ => fun
  | [d1, d2, d3, d4] => { results := [.lit (.bool true)], args := [d1, d2, d3, d4] }
  | _ => none }
def summaryCheckRow : OpenClaim := { program := "ytaiopdipldaimaa", sum := "58d0301534e159fc33ef2f964ca6d5802ad925c51dfe7b2c0e6408839d641dbc", func := "heavykeys/heavykeyslaw21.SummaryCheck", spec := "summaryCheck", inPlace := ["math/bits.Add64"], unfollowed := true, recurses := true, apart := false }
def SummaryCheckSaid : Prop := summaryCheckRow.holds Try.pinned (OpenSpec.ofChange summaryCheckSpec)

/-- ITS FALSE NEIGHBOUR: 'it returns false'. Refute it at one input. -/
def summaryCheckWrong : ChangeSpec := { name := "summaryCheck", fn := fun _ => fun
  | [d1, d2, d3, d4] => { results := [.lit (.bool false)], args := [d1, d2, d3, d4] }
  | _ => none }
def SummaryCheckWrongFalsely : Prop := summaryCheckRow.holds Try.pinned (OpenSpec.ofChange summaryCheckWrong)

/-- 'heavykeyslaw16.CountminOf': WHATEVER THE INPUT: true; the input reads as it did. -/
def countminOfSpec : ChangeSpec := { name := "countminOf", fn := fun _ => fun
  | [d1, d2, d3, d4, d5] => { results := [.lit (.bool true)], args := [d1, d2, d3, d4, d5] }
  | _ => none }
def countminOfRow : OpenClaim := { program := "ytaiopdipldaimaa", sum := "58d0301534e159fc33ef2f964ca6d5802ad925c51dfe7b2c0e6408839d641dbc", func := "heavykeys/heavykeyslaw16.CountminOf", spec := "countminOf", inPlace := ["math/bits.Add64"], apart := false }
def CountminOfSaid : Prop := countminOfRow.holds Try.pinned (OpenSpec.ofChange countminOfSpec)

/-- ITS FALSE NEIGHBOUR: 'it returns false'. Refute it at one input. -/
def countminOfWrong : ChangeSpec := { name := "countminOf", fn := fun _ => fun
  | [d1, d2, d3, d4, d5] => { results := [.lit (.bool false)], args := [d1, d2, d3, d4, d5] }
  | _ => none }
def CountminOfWrongFalsely : Prop := countminOfRow.holds Try.pinned (OpenSpec.ofChange countminOfWrong)

/-- 'heavykeyslaw21.SummaryBounds': WHATEVER THE INPUT: true; the input reads as it did. -/
def summaryBoundsSpec : ChangeSpec := { name := "summaryBounds", fn := fun _ => fun
  | [d1, d2, d3, d4, d5] => { results := [.lit (.bool true)], args := [d1, d2, d3, d4, d5] }
  | _ => none }
def summaryBoundsRow : OpenClaim := { program := "ytaiopdipldaimaa", sum := "58d0301534e159fc33ef2f964ca6d5802ad925c51dfe7b2c0e6408839d641dbc", func := "heavykeys/heavykeyslaw21.SummaryBounds", spec := "summaryBounds", inPlace := ["math/bits.Add64"], unfollowed := true, recurses := true, apart := false }
def SummaryBoundsSaid : Prop := summaryBoundsRow.holds Try.pinned (OpenSpec.ofChange summaryBoundsSpec)

/-- ITS FALSE NEIGHBOUR: 'it returns false'. Refute it at one input. -/
def summaryBoundsWrong : ChangeSpec := { name := "summaryBounds", fn := fun _ => fun
  | [d1, d2, d3, d4, d5] => { results := [.lit (.bool false)], args := [d1, d2, d3, d4, d5] }
  | _ => none }
def SummaryBoundsWrongFalsely : Prop := summaryBoundsRow.holds Try.pinned (OpenSpec.ofChange summaryBoundsWrong)

/-- 'heavykeyslaw16.CountminRows': WHATEVER THE INPUT: true; the input reads as it did. -/
def countminRowsSpec : ChangeSpec := { name := "countminRows", fn := fun _ => fun
  | [d1, d2, d3, d4, d5] => { results := [.lit (.bool true)], args := [d1, d2, d3, d4, d5] }
  | _ => none }
def countminRowsRow : OpenClaim := { program := "ytaiopdipldaimaa", sum := "58d0301534e159fc33ef2f964ca6d5802ad925c51dfe7b2c0e6408839d641dbc", func := "heavykeys/heavykeyslaw16.CountminRows", spec := "countminRows", inPlace := ["math/bits.Add64"], apart := false }
def CountminRowsSaid : Prop := countminRowsRow.holds Try.pinned (OpenSpec.ofChange countminRowsSpec)

/-- ITS FALSE NEIGHBOUR: 'it returns false'. Refute it at one input. -/
def countminRowsWrong : ChangeSpec := { name := "countminRows", fn := fun _ => fun
  | [d1, d2, d3, d4, d5] => { results := [.lit (.bool false)], args := [d1, d2, d3, d4, d5] }
  | _ => none }
def CountminRowsWrongFalsely : Prop := countminRowsRow.holds Try.pinned (OpenSpec.ofChange countminRowsWrong)

/-- 'heavykeyslaw21.SummaryKept': WHATEVER THE INPUT: true; the input reads as it did. -/
def summaryKeptSpec : ChangeSpec := { name := "summaryKept", fn := fun _ => fun
  | [d1, d2] => { results := [.lit (.bool true)], args := [d1, d2] }
  | _ => none }
def summaryKeptRow : OpenClaim := { program := "ytaiopdipldaimaa", sum := "58d0301534e159fc33ef2f964ca6d5802ad925c51dfe7b2c0e6408839d641dbc", func := "heavykeys/heavykeyslaw21.SummaryKept", spec := "summaryKept", inPlace := ["math/bits.Add64"], unfollowed := true, recurses := true, apart := false }
def SummaryKeptSaid : Prop := summaryKeptRow.holds Try.pinned (OpenSpec.ofChange summaryKeptSpec)

/-- ITS FALSE NEIGHBOUR: 'it returns false'. Refute it at one input. -/
def summaryKeptWrong : ChangeSpec := { name := "summaryKept", fn := fun _ => fun
  | [d1, d2] => { results := [.lit (.bool false)], args := [d1, d2] }
  | _ => none }
def SummaryKeptWrongFalsely : Prop := summaryKeptRow.holds Try.pinned (OpenSpec.ofChange summaryKeptWrong)

/- THE SECOND FORM. 'bulk': how many values and letters a reading holds, each counted each time it is reached (what is shared counts as often as it is met; a slice's spare places count too). A statement '..UptoSaid' is the law's where the arguments, and the package variables that the reading takes, are together of bulk at most 1048576: NARROWER than '..Said'. Prove '..Said' where nothing that the law and all that it calls make is longer than what came in: it says more and counts as full. Else prove '..UptoSaid'. A law counts once. -/
mutual
def uptoBulk {H : Type} : DataW H → Nat
  | .lit (.string bytes) => bytes.length + 1
  | .lit _ => 1
  | .nil => 1
  | .ptr d => uptoBulk d + 1
  | .slice elems spare => uptoBulkAll elems + uptoBulkAll spare + 1
  | .agg parts => uptoBulkAll parts + 1
  | .iface _ d => uptoBulk d + 1
  | .map entries => uptoBulkEntries entries + 1
  | .held _ => 1
def uptoBulkAll {H : Type} : List (DataW H) → Nat
  | [] => 0
  | d :: r => uptoBulk d + uptoBulkAll r
def uptoBulkEntries {H : Type} : List (Lit × DataW H) → Nat
  | [] => 0
  | x :: r => uptoBulkEntry x + uptoBulkEntries r
def uptoBulkEntry {H : Type} : Lit × DataW H → Nat
  | (.string bytes, d) => bytes.length + uptoBulk d + 1
  | (_, d) => uptoBulk d + 1
 end
def uptoSmall : (H : Type) → List (DataW H) → Bool := fun _ ds => decide (uptoBulkAll ds ≤ 1048576)
def OpenSpec.upto (s : _root_.Go.ChangeSpec) : _root_.Go.OpenSpec := { _root_.Go.OpenSpec.ofChange s with cond := some uptoSmall }

/-- 'heavykeyslaw16.CountminBounds', WHERE WHAT IT READS IS OF BULK AT MOST 1048576: true; the input reads as it did. -/
def countminBoundsUptoRow : OpenClaim := { program := "ytaiopdipldaimaa", sum := "58d0301534e159fc33ef2f964ca6d5802ad925c51dfe7b2c0e6408839d641dbc", func := "heavykeys/heavykeyslaw16.CountminBounds", spec := "countminBounds", inPlace := ["math/bits.Add64"], apart := false, narrowed := true }
def CountminBoundsUptoSaid : Prop := countminBoundsUptoRow.holds Try.pinned (OpenSpec.upto countminBoundsSpec)

/-- 'heavykeyslaw16.CountminAlone', WHERE WHAT IT READS IS OF BULK AT MOST 1048576: true; the input reads as it did. -/
def countminAloneUptoRow : OpenClaim := { program := "ytaiopdipldaimaa", sum := "58d0301534e159fc33ef2f964ca6d5802ad925c51dfe7b2c0e6408839d641dbc", func := "heavykeys/heavykeyslaw16.CountminAlone", spec := "countminAlone", inPlace := ["math/bits.Add64"], apart := false, narrowed := true }
def CountminAloneUptoSaid : Prop := countminAloneUptoRow.holds Try.pinned (OpenSpec.upto countminAloneSpec)

/-- 'heavykeyslaw21.SummaryEncode', WHERE WHAT IT READS IS OF BULK AT MOST 1048576: true; the input reads as it did. -/
def summaryEncodeUptoRow : OpenClaim := { program := "ytaiopdipldaimaa", sum := "58d0301534e159fc33ef2f964ca6d5802ad925c51dfe7b2c0e6408839d641dbc", func := "heavykeys/heavykeyslaw21.SummaryEncode", spec := "summaryEncode", apart := false, narrowed := true }
def SummaryEncodeUptoSaid : Prop := summaryEncodeUptoRow.holds Try.pinned (OpenSpec.upto summaryEncodeSpec)

/-- 'heavykeyslaw21.SummaryBack', WHERE WHAT IT READS IS OF BULK AT MOST 1048576: true; the input reads as it did. -/
def summaryBackUptoRow : OpenClaim := { program := "ytaiopdipldaimaa", sum := "58d0301534e159fc33ef2f964ca6d5802ad925c51dfe7b2c0e6408839d641dbc", func := "heavykeys/heavykeyslaw21.SummaryBack", spec := "summaryBack", apart := false, narrowed := true }
def SummaryBackUptoSaid : Prop := summaryBackUptoRow.holds Try.pinned (OpenSpec.upto summaryBackSpec)

/-- 'heavykeyslaw16.CountminNew', WHERE WHAT IT READS IS OF BULK AT MOST 1048576: true; the input reads as it did. -/
def countminNewUptoRow : OpenClaim := { program := "ytaiopdipldaimaa", sum := "58d0301534e159fc33ef2f964ca6d5802ad925c51dfe7b2c0e6408839d641dbc", func := "heavykeys/heavykeyslaw16.CountminNew", spec := "countminNew", inPlace := ["math/bits.Add64"], apart := false, narrowed := true }
def CountminNewUptoSaid : Prop := countminNewUptoRow.holds Try.pinned (OpenSpec.upto countminNewSpec)

/-- 'heavykeyslaw16.CountminSteps', WHERE WHAT IT READS IS OF BULK AT MOST 1048576: true; the input reads as it did. -/
def countminStepsUptoRow : OpenClaim := { program := "ytaiopdipldaimaa", sum := "58d0301534e159fc33ef2f964ca6d5802ad925c51dfe7b2c0e6408839d641dbc", func := "heavykeys/heavykeyslaw16.CountminSteps", spec := "countminSteps", inPlace := ["math/bits.Add64"], apart := false, narrowed := true }
def CountminStepsUptoSaid : Prop := countminStepsUptoRow.holds Try.pinned (OpenSpec.upto countminStepsSpec)

/-- 'heavykeyslaw21.SummaryCheck', WHERE WHAT IT READS IS OF BULK AT MOST 1048576: true; the input reads as it did. -/
def summaryCheckUptoRow : OpenClaim := { program := "ytaiopdipldaimaa", sum := "58d0301534e159fc33ef2f964ca6d5802ad925c51dfe7b2c0e6408839d641dbc", func := "heavykeys/heavykeyslaw21.SummaryCheck", spec := "summaryCheck", inPlace := ["math/bits.Add64"], unfollowed := true, recurses := true, apart := false, narrowed := true }
def SummaryCheckUptoSaid : Prop := summaryCheckUptoRow.holds Try.pinned (OpenSpec.upto summaryCheckSpec)

/-- 'heavykeyslaw16.CountminOf', WHERE WHAT IT READS IS OF BULK AT MOST 1048576: true; the input reads as it did. -/
def countminOfUptoRow : OpenClaim := { program := "ytaiopdipldaimaa", sum := "58d0301534e159fc33ef2f964ca6d5802ad925c51dfe7b2c0e6408839d641dbc", func := "heavykeys/heavykeyslaw16.CountminOf", spec := "countminOf", inPlace := ["math/bits.Add64"], apart := false, narrowed := true }
def CountminOfUptoSaid : Prop := countminOfUptoRow.holds Try.pinned (OpenSpec.upto countminOfSpec)

/-- 'heavykeyslaw21.SummaryBounds', WHERE WHAT IT READS IS OF BULK AT MOST 1048576: true; the input reads as it did. -/
def summaryBoundsUptoRow : OpenClaim := { program := "ytaiopdipldaimaa", sum := "58d0301534e159fc33ef2f964ca6d5802ad925c51dfe7b2c0e6408839d641dbc", func := "heavykeys/heavykeyslaw21.SummaryBounds", spec := "summaryBounds", inPlace := ["math/bits.Add64"], unfollowed := true, recurses := true, apart := false, narrowed := true }
def SummaryBoundsUptoSaid : Prop := summaryBoundsUptoRow.holds Try.pinned (OpenSpec.upto summaryBoundsSpec)

/-- 'heavykeyslaw16.CountminRows', WHERE WHAT IT READS IS OF BULK AT MOST 1048576: true; the input reads as it did. -/
def countminRowsUptoRow : OpenClaim := { program := "ytaiopdipldaimaa", sum := "58d0301534e159fc33ef2f964ca6d5802ad925c51dfe7b2c0e6408839d641dbc", func := "heavykeys/heavykeyslaw16.CountminRows", spec := "countminRows", inPlace := ["math/bits.Add64"], apart := false, narrowed := true }
def CountminRowsUptoSaid : Prop := countminRowsUptoRow.holds Try.pinned (OpenSpec.upto countminRowsSpec)

/-- 'heavykeyslaw21.SummaryKept', WHERE WHAT IT READS IS OF BULK AT MOST 1048576: true; the input reads as it did. -/
def summaryKeptUptoRow : OpenClaim := { program := "ytaiopdipldaimaa", sum := "58d0301534e159fc33ef2f964ca6d5802ad925c51dfe7b2c0e6408839d641dbc", func := "heavykeys/heavykeyslaw21.SummaryKept", spec := "summaryKept", inPlace := ["math/bits.Add64"], unfollowed := true, recurses := true, apart := false, narrowed := true }
def SummaryKeptUptoSaid : Prop := summaryKeptUptoRow.holds Try.pinned (OpenSpec.upto summaryKeptSpec)

end Rows
end Go.Proofs.Ytaiopdipldaimaa
