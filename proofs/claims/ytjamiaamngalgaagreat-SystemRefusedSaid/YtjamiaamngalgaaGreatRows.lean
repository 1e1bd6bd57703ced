/-
  No cell of these rows narrows 'for every input' (looked for: loops, veiled, ifaces, maps, wideKeys, modest, calm, conditions, laid).
  DERIVED. THE GIVEN ROWS OF THIS SEAT. 3 by the template 'for every input the law returns true; each argument reads behind the call as it read before'; 0 by the template 'total and deterministic' (their statements: YtjamiaamngalgaaGreatTotals.lean).
  GIVEN WITH THE SEED: the statements are not yours to turn. If you find one false, say at which input.
  Laid BY PROGRAM, IN A SANDBOX (cutbox-rows.mjs): the forced cells as the released guide's own fill.sh prints them over the translation fef2cee37e0d7cc6… (all of the seat's roots in one cut). By AI agents, Wed Nov 11 2026. No macro, syntax, notation, axiom, sorry.
-/
import Derived.Test.YtjamiaamngalgaaGreatChecked
import GoSem.Claim
import GoSem.ClaimJoined
import GoSem.ClaimMapViews
import Derived.JoinedTies
import Derived.KernelRfl
namespace Go.Proofs.YtjamiaamngalgaaGreat
/- THE CELL 'sum', in the pinned program and in every row, IS THE sha256 OF THE DUMP (.gsa) THAT YtjamiaamngalgaaGreatProg.lean LOADS. Nothing in Lean hashes anything: it is a label: what it is worth is what the hold of that sum in a sandbox is worth. -/
noncomputable def Tryz.pinned : Pinned := { name := "ytjamiaamngalgaagreat", sum := "fef2cee37e0d7cc63c6d202935695f4eb1caba4f0f5df8d7177435ca6d1b5280", checked := Tryz.checked }
namespace Rows
def none {H : Type} : Left H := { results := [], args := [] }

/-- 'heavykeystop.SystemRefused': WHATEVER THE INPUT: true; the input reads as it did. -/
def systemRefusedSpec : ChangeSpec := { name := "systemRefused", fn := fun _ => fun
  | [d1, d2] => { results := [.lit (.bool true)], args := [d1, d2] }
  | _ => none }
def systemRefusedRow : OpenClaim := { program := "ytjamiaamngalgaagreat", sum := "fef2cee37e0d7cc63c6d202935695f4eb1caba4f0f5df8d7177435ca6d1b5280", func := "heavykeys/heavykeystop.SystemRefused", spec := "systemRefused", inPlace := ["internal/bytealg.abigen_runtime_cmpstring", "math/bits.Add64", "slices.overlaps[heavykeys/api.Entry]"], unfollowed := true, recurses := true, apart := false }
def SystemRefusedSaid : Prop := systemRefusedRow.holds Tryz.pinned (OpenSpec.ofChange systemRefusedSpec)

/-- ITS FALSE NEIGHBOUR: 'it returns false'. Refute it at one input. -/
def systemRefusedWrong : ChangeSpec := { name := "systemRefused", fn := fun _ => fun
  | [d1, d2] => { results := [.lit (.bool false)], args := [d1, d2] }
  | _ => none }
def SystemRefusedWrongFalsely : Prop := systemRefusedRow.holds Tryz.pinned (OpenSpec.ofChange systemRefusedWrong)

/-- 'heavykeystop.SystemShards': WHATEVER THE INPUT: true; the input reads as it did. -/
def systemShardsSpec : ChangeSpec := { name := "systemShards", fn := fun _ => fun
  | [d1, d2] => { results := [.lit (.bool true)], args := [d1, d2] }
  | _ => none }
def systemShardsRow : OpenClaim := { program := "ytjamiaamngalgaagreat", sum := "fef2cee37e0d7cc63c6d202935695f4eb1caba4f0f5df8d7177435ca6d1b5280", func := "heavykeys/heavykeystop.SystemShards", spec := "systemShards", inPlace := ["internal/bytealg.abigen_runtime_cmpstring", "math/bits.Add64", "slices.overlaps[heavykeys/api.Entry]"], unfollowed := true, recurses := true, apart := false }
def SystemShardsSaid : Prop := systemShardsRow.holds Tryz.pinned (OpenSpec.ofChange systemShardsSpec)

/-- ITS FALSE NEIGHBOUR: 'it returns false'. Refute it at one input. -/
def systemShardsWrong : ChangeSpec := { name := "systemShards", fn := fun _ => fun
  | [d1, d2] => { results := [.lit (.bool false)], args := [d1, d2] }
  | _ => none }
def SystemShardsWrongFalsely : Prop := systemShardsRow.holds Tryz.pinned (OpenSpec.ofChange systemShardsWrong)

/-- 'heavykeystop.SystemQueries': WHATEVER THE INPUT: true; the input reads as it did. -/
def systemQueriesSpec : ChangeSpec := { name := "systemQueries", fn := fun _ => fun
  | [d1, d2, d3, d4] => { results := [.lit (.bool true)], args := [d1, d2, d3, d4] }
  | _ => none }
def systemQueriesRow : OpenClaim := { program := "ytjamiaamngalgaagreat", sum := "fef2cee37e0d7cc63c6d202935695f4eb1caba4f0f5df8d7177435ca6d1b5280", func := "heavykeys/heavykeystop.SystemQueries", spec := "systemQueries", inPlace := ["internal/bytealg.abigen_runtime_cmpstring", "math/bits.Add64", "slices.overlaps[heavykeys/api.Entry]"], unfollowed := true, recurses := true, apart := false }
def SystemQueriesSaid : Prop := systemQueriesRow.holds Tryz.pinned (OpenSpec.ofChange systemQueriesSpec)

/-- ITS FALSE NEIGHBOUR: 'it returns false'. Refute it at one input. -/
def systemQueriesWrong : ChangeSpec := { name := "systemQueries", fn := fun _ => fun
  | [d1, d2, d3, d4] => { results := [.lit (.bool false)], args := [d1, d2, d3, d4] }
  | _ => none }
def SystemQueriesWrongFalsely : Prop := systemQueriesRow.holds Tryz.pinned (OpenSpec.ofChange systemQueriesWrong)

/- THE SECOND FORM. 'bulk': how many values and letters a reading holds, each counted each time it is reached (what is shared counts as often as it is met; a slice's spare places count too). A statement '..UptoSaid' is the law's where the arguments, and the package variables that the reading takes, are together of bulk at most 1048576: NARROWER than '..Said'. Prove '..Said' where nothing that the law and all that it calls make is longer than what came in: it says more and counts as full. Else prove '..UptoSaid'. A law counts once. -/
mutual
def uptoBulk {H : Type} : DataW H → Nat
  | .lit (.string bytes) => bytes.length + 1
  | .lit _ => 1
  | .nil => 1
  | .ptr d => uptoBulk d + 1
  | .slice elems spare => uptoBulkAll elems + uptoBulkAll spare + 1
  | .agg parts => uptoBulkAll parts + 1
  | .iface _ d => uptoBulk d + 1
  | .map entries => uptoBulkEntries entries + 1
  | .held _ => 1
def uptoBulkAll {H : Type} : List (DataW H) → Nat
  | [] => 0
  | d :: r => uptoBulk d + uptoBulkAll r
def uptoBulkEntries {H : Type} : List (Lit × DataW H) → Nat
  | [] => 0
  | x :: r => uptoBulkEntry x + uptoBulkEntries r
def uptoBulkEntry {H : Type} : Lit × DataW H → Nat
  | (.string bytes, d) => bytes.length + uptoBulk d + 1
  | (_, d) => uptoBulk d + 1
 end
def uptoSmall : (H : Type) → List (DataW H) → Bool := fun _ ds => decide (uptoBulkAll ds ≤ 1048576)
def OpenSpec.upto (s : _root_.Go.ChangeSpec) : _root_.Go.OpenSpec := { _root_.Go.OpenSpec.ofChange s with cond := some uptoSmall }

/-- 'heavykeystop.SystemRefused', WHERE WHAT IT READS IS OF BULK AT MOST 1048576: true; the input reads as it did. -/
def systemRefusedUptoRow : OpenClaim := { program := "ytjamiaamngalgaagreat", sum := "fef2cee37e0d7cc63c6d202935695f4eb1caba4f0f5df8d7177435ca6d1b5280", func := "heavykeys/heavykeystop.SystemRefused", spec := "systemRefused", inPlace := ["internal/bytealg.abigen_runtime_cmpstring", "math/bits.Add64", "slices.overlaps[heavykeys/api.Entry]"], unfollowed := true, recurses := true, apart := false, narrowed := true }
def SystemRefusedUptoSaid : Prop := systemRefusedUptoRow.holds Tryz.pinned (OpenSpec.upto systemRefusedSpec)

/-- 'heavykeystop.SystemShards', WHERE WHAT IT READS IS OF BULK AT MOST 1048576: true; the input reads as it did. -/
def systemShardsUptoRow : OpenClaim := { program := "ytjamiaamngalgaagreat", sum := "fef2cee37e0d7cc63c6d202935695f4eb1caba4f0f5df8d7177435ca6d1b5280", func := "heavykeys/heavykeystop.SystemShards", spec := "systemShards", inPlace := ["internal/bytealg.abigen_runtime_cmpstring", "math/bits.Add64", "slices.overlaps[heavykeys/api.Entry]"], unfollowed := true, recurses := true, apart := false, narrowed := true }
def SystemShardsUptoSaid : Prop := systemShardsUptoRow.holds Tryz.pinned (OpenSpec.upto systemShardsSpec)

/-- 'heavykeystop.SystemQueries', WHERE WHAT IT READS IS OF BULK AT MOST 1048576: true; the input reads as it did. -/
def systemQueriesUptoRow : OpenClaim := { program := "ytjamiaamngalgaagreat", sum := "fef2cee37e0d7cc63c6d202935695f4eb1caba4f0f5df8d7177435ca6d1b5280", func := "heavykeys/heavykeystop.SystemQueries", spec := "systemQueries", inPlace := ["internal/bytealg.abigen_runtime_cmpstring", "math/bits.Add64", "slices.overlaps[heavykeys/api.Entry]"], unfollowed := true, recurses := true, apart := false, narrowed := true }
def SystemQueriesUptoSaid : Prop := systemQueriesUptoRow.holds Tryz.pinned (OpenSpec.upto systemQueriesSpec)

end Rows
end Go.Proofs.YtjamiaamngalgaaGreat
