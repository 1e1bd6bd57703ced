/-
  No cell of these rows narrows 'for every input' (looked for: loops, veiled, ifaces, maps, wideKeys, modest, calm, conditions, laid).
  DERIVED. THE GIVEN ROWS OF THIS SEAT. 5 by the template 'for every input the law returns true; each argument reads behind the call as it read before'; 0 by the template 'total and deterministic' (their statements: YtmbmlkllhcgkgaaTotals.lean).
  GIVEN WITH THE SEED: the statements are not yours to turn. If you find one false, say at which input.
  Laid BY PROGRAM, IN A SANDBOX (cutbox-rows.mjs): the forced cells as the released guide's own fill.sh prints them over the translation aa645e3724c48afc… (all of the seat's roots in one cut). By AI agents, Wed Nov 11 2026. No macro, syntax, notation, axiom, sorry.
-/
import Derived.Test.YtmbmlkllhcgkgaaChecked
import GoSem.Claim
import GoSem.ClaimJoined
import GoSem.ClaimMapViews
import Derived.JoinedTies
import Derived.KernelRfl
namespace Go.Proofs.Ytmbmlkllhcgkgaa
/- THE CELL 'sum', in the pinned program and in every row, IS THE sha256 OF THE DUMP (.gsa) THAT YtmbmlkllhcgkgaaProg.lean LOADS. Nothing in Lean hashes anything: it is a label: what it is worth is what the hold of that sum in a sandbox is worth. -/
noncomputable def Try.pinned : Pinned := { name := "ytmbmlkllhcgkgaa", sum := "aa645e3724c48afcdbabd224255b72fe9d1d51055a6bf425a2c1d7aa15fd0744", checked := Try.checked }
namespace Rows
def none {H : Type} : Left H := { results := [], args := [] }

/-- 'heavykeyslaw06.StreamPieces': WHATEVER THE INPUT: true; the input reads as it did. -/
def streamPiecesSpec : ChangeSpec := { name := "streamPieces", fn := fun _ => fun
  | [d1, d2, d3, d4] => { results := [.lit (.bool true)], args := [d1, d2, d3, d4] }
  | _ => none }
def streamPiecesRow : OpenClaim := { program := "ytmbmlkllhcgkgaa", sum := "aa645e3724c48afcdbabd224255b72fe9d1d51055a6bf425a2c1d7aa15fd0744", func := "heavykeys/heavykeyslaw06.StreamPieces", spec := "streamPieces", apart := false }
def StreamPiecesSaid : Prop := streamPiecesRow.holds Try.pinned (OpenSpec.ofChange streamPiecesSpec)

/-- ITS FALSE NEIGHBOUR: 'it returns false'. Refute it at one input. -/
def streamPiecesWrong : ChangeSpec := { name := "streamPieces", fn := fun _ => fun
  | [d1, d2, d3, d4] => { results := [.lit (.bool false)], args := [d1, d2, d3, d4] }
  | _ => none }
def StreamPiecesWrongFalsely : Prop := streamPiecesRow.holds Try.pinned (OpenSpec.ofChange streamPiecesWrong)

/-- 'heavykeyslaw06.StreamBound': WHATEVER THE INPUT: true; the input reads as it did. -/
def streamBoundSpec : ChangeSpec := { name := "streamBound", fn := fun _ => fun
  | [d1, d2] => { results := [.lit (.bool true)], args := [d1, d2] }
  | _ => none }
def streamBoundRow : OpenClaim := { program := "ytmbmlkllhcgkgaa", sum := "aa645e3724c48afcdbabd224255b72fe9d1d51055a6bf425a2c1d7aa15fd0744", func := "heavykeys/heavykeyslaw06.StreamBound", spec := "streamBound", apart := false }
def StreamBoundSaid : Prop := streamBoundRow.holds Try.pinned (OpenSpec.ofChange streamBoundSpec)

/-- ITS FALSE NEIGHBOUR: 'it returns false'. Refute it at one input. -/
def streamBoundWrong : ChangeSpec := { name := "streamBound", fn := fun _ => fun
  | [d1, d2] => { results := [.lit (.bool false)], args := [d1, d2] }
  | _ => none }
def StreamBoundWrongFalsely : Prop := streamBoundRow.holds Try.pinned (OpenSpec.ofChange streamBoundWrong)

/-- 'heavykeyslaw06.StreamFeed': WHATEVER THE INPUT: true; the input reads as it did. -/
def streamFeedSpec : ChangeSpec := { name := "streamFeed", fn := fun _ => fun
  | [d1, d2, d3] => { results := [.lit (.bool true)], args := [d1, d2, d3] }
  | _ => none }
def streamFeedRow : OpenClaim := { program := "ytmbmlkllhcgkgaa", sum := "aa645e3724c48afcdbabd224255b72fe9d1d51055a6bf425a2c1d7aa15fd0744", func := "heavykeys/heavykeyslaw06.StreamFeed", spec := "streamFeed", apart := false }
def StreamFeedSaid : Prop := streamFeedRow.holds Try.pinned (OpenSpec.ofChange streamFeedSpec)

/-- ITS FALSE NEIGHBOUR: 'it returns false'. Refute it at one input. -/
def streamFeedWrong : ChangeSpec := { name := "streamFeed", fn := fun _ => fun
  | [d1, d2, d3] => { results := [.lit (.bool false)], args := [d1, d2, d3] }
  | _ => none }
def StreamFeedWrongFalsely : Prop := streamFeedRow.holds Try.pinned (OpenSpec.ofChange streamFeedWrong)

/-- 'heavykeyslaw06.StreamFrames': WHATEVER THE INPUT: true; the input reads as it did. -/
def streamFramesSpec : ChangeSpec := { name := "streamFrames", fn := fun _ => fun
  | [d] => { results := [.lit (.bool true)], args := [d] }
  | _ => none }
def streamFramesRow : OpenClaim := { program := "ytmbmlkllhcgkgaa", sum := "aa645e3724c48afcdbabd224255b72fe9d1d51055a6bf425a2c1d7aa15fd0744", func := "heavykeys/heavykeyslaw06.StreamFrames", spec := "streamFrames", apart := false }
def StreamFramesSaid : Prop := streamFramesRow.holds Try.pinned (OpenSpec.ofChange streamFramesSpec)

/-- ITS FALSE NEIGHBOUR: 'it returns false'. Refute it at one input. -/
def streamFramesWrong : ChangeSpec := { name := "streamFrames", fn := fun _ => fun
  | [d] => { results := [.lit (.bool false)], args := [d] }
  | _ => none }
def StreamFramesWrongFalsely : Prop := streamFramesRow.holds Try.pinned (OpenSpec.ofChange streamFramesWrong)

/-- 'heavykeyslaw06.StreamLong': WHATEVER THE INPUT: true; the input reads as it did. -/
def streamLongSpec : ChangeSpec := { name := "streamLong", fn := fun _ => fun
  | [d1, d2] => { results := [.lit (.bool true)], args := [d1, d2] }
  | _ => none }
def streamLongRow : OpenClaim := { program := "ytmbmlkllhcgkgaa", sum := "aa645e3724c48afcdbabd224255b72fe9d1d51055a6bf425a2c1d7aa15fd0744", func := "heavykeys/heavykeyslaw06.StreamLong", spec := "streamLong", apart := false }
def StreamLongSaid : Prop := streamLongRow.holds Try.pinned (OpenSpec.ofChange streamLongSpec)

/-- ITS FALSE NEIGHBOUR: 'it returns false'. Refute it at one input. -/
def streamLongWrong : ChangeSpec := { name := "streamLong", fn := fun _ => fun
  | [d1, d2] => { results := [.lit (.bool false)], args := [d1, d2] }
  | _ => none }
def StreamLongWrongFalsely : Prop := streamLongRow.holds Try.pinned (OpenSpec.ofChange streamLongWrong)

/- THE SECOND FORM. 'bulk': how many values and letters a reading holds, each counted each time it is reached (what is shared counts as often as it is met; a slice's spare places count too). A statement '..UptoSaid' is the law's where the arguments, and the package variables that the reading takes, are together of bulk at most 1048576: NARROWER than '..Said'. Prove '..Said' where nothing that the law and all that it calls make is longer than what came in: it says more and counts as full. Else prove '..UptoSaid'. A law counts once. -/
mutual
def uptoBulk {H : Type} : DataW H → Nat
  | .lit (.string bytes) => bytes.length + 1
  | .lit _ => 1
  | .nil => 1
  | .ptr d => uptoBulk d + 1
  | .slice elems spare => uptoBulkAll elems + uptoBulkAll spare + 1
  | .agg parts => uptoBulkAll parts + 1
  | .iface _ d => uptoBulk d + 1
  | .map entries => uptoBulkEntries entries + 1
  | .held _ => 1
def uptoBulkAll {H : Type} : List (DataW H) → Nat
  | [] => 0
  | d :: r => uptoBulk d + uptoBulkAll r
def uptoBulkEntries {H : Type} : List (Lit × DataW H) → Nat
  | [] => 0
  | x :: r => uptoBulkEntry x + uptoBulkEntries r
def uptoBulkEntry {H : Type} : Lit × DataW H → Nat
  | (.string bytes, d) => bytes.length + uptoBulk d + 1
  | (_, d) => uptoBulk d + 1
 end
def uptoSmall : (H : Type) → List (DataW H) → Bool := fun _ ds => decide (uptoBulkAll ds ≤ 1048576)
def OpenSpec.upto (s : _root_.Go.ChangeSpec) : _root_.Go.OpenSpec := { _root_.Go.OpenSpec.ofChange s with cond := some uptoSmall }

/-- 'heavykeyslaw06.StreamPieces', WHERE WHAT IT READS IS OF BULK AT MOST 1048576: true; the input reads as it did. -/
def streamPiecesUptoRow : OpenClaim := { program := "ytmbmlkllhcgkgaa", sum := "aa645e3724c48afcdbabd224255b72fe9d1d51055a6bf425a2c1d7aa15fd0744", func := "heavykeys/heavykeyslaw06.StreamPieces", spec := "streamPieces", apart := false, narrowed := true }
def StreamPiecesUptoSaid : Prop := streamPiecesUptoRow.holds Try.pinned (OpenSpec.upto streamPiecesSpec)

/-- 'heavykeyslaw06.StreamBound', WHERE WHAT IT READS IS OF BULK AT MOST 1048576: true; the input reads as it did. -/
def streamBoundUptoRow : OpenClaim := { program := "ytmbmlkllhcgkgaa", sum := "aa645e3724c48afcdbabd224255b72fe9d1d51055a6bf425a2c1d7aa15fd0744", func := "heavykeys/heavykeyslaw06.StreamBound", spec := "streamBound", apart := false, narrowed := true }
def StreamBoundUptoSaid : Prop := streamBoundUptoRow.holds Try.pinned (OpenSpec.upto streamBoundSpec)

/-- 'heavykeyslaw06.StreamFeed', WHERE WHAT IT READS IS OF BULK AT MOST 1048576: true; the input reads as it did. -/
def streamFeedUptoRow : OpenClaim := { program := "ytmbmlkllhcgkgaa", sum := "aa645e3724c48afcdbabd224255b72fe9d1d51055a6bf425a2c1d7aa15fd0744", func := "heavykeys/heavykeyslaw06.StreamFeed", spec := "streamFeed", apart := false, narrowed := true }
def StreamFeedUptoSaid : Prop := streamFeedUptoRow.holds Try.pinned (OpenSpec.upto streamFeedSpec)

/-- 'heavykeyslaw06.StreamFrames', WHERE WHAT IT READS IS OF BULK AT MOST 1048576: true; the input reads as it did. -/
def streamFramesUptoRow : OpenClaim := { program := "ytmbmlkllhcgkgaa", sum := "aa645e3724c48afcdbabd224255b72fe9d1d51055a6bf425a2c1d7aa15fd0744", func := "heavykeys/heavykeyslaw06.StreamFrames", spec := "streamFrames", apart := false, narrowed := true }
def StreamFramesUptoSaid : Prop := streamFramesUptoRow.holds Try.pinned (OpenSpec.upto streamFramesSpec)

/-- 'heavykeyslaw06.StreamLong', WHERE WHAT IT READS IS OF BULK AT MOST 1048576: true; the input reads as it did. -/
def streamLongUptoRow : OpenClaim := { program := "ytmbmlkllhcgkgaa", sum := "aa645e3724c48afcdbabd224255b72fe9d1d51055a6bf425a2c1d7aa15fd0744", func := "heavykeys/heavykeyslaw06.StreamLong", spec := "streamLong", apart := false, narrowed := true }
def StreamLongUptoSaid : Prop := streamLongUptoRow.holds Try.pinned (OpenSpec.upto streamLongSpec)

end Rows
end Go.Proofs.Ytmbmlkllhcgkgaa
