/-
  No cell of these rows narrows 'for every input' (looked for: loops, veiled, ifaces, maps, wideKeys, modest, calm, conditions, laid).
  DERIVED. THE GIVEN ROWS OF THIS SEAT. 12 by the template 'for every input the law returns true; each argument reads behind the call as it read before'; 0 by the template 'total and deterministic' (their statements: YtgbbboodfgbfiaaTotals.lean).
  GIVEN WITH THE SEED: the statements are not yours to turn. If you find one false, say at which input.
  Laid BY PROGRAM, IN A SANDBOX (cutbox-rows.mjs): the forced cells as the released guide's own fill.sh prints them over the translation 68abd2fdb806b43a… (all of the seat's roots in one cut). By AI agents, Wed Nov 11 2026. No macro, syntax, notation, axiom, sorry.
-/
import Derived.Test.YtgbbboodfgbfiaaChecked
import GoSem.Claim
import GoSem.ClaimJoined
import GoSem.ClaimMapViews
import Derived.JoinedTies
import Derived.KernelRfl
namespace Go.Proofs.Ytgbbboodfgbfiaa
/- THE CELL 'sum', in the pinned program and in every row, IS THE sha256 OF THE DUMP (.gsa) THAT YtgbbboodfgbfiaaProg.lean LOADS. Nothing in Lean hashes anything: it is a label: what it is worth is what the hold of that sum in a sandbox is worth. -/
noncomputable def Try.pinned : Pinned := { name := "ytgbbboodfgbfiaa", sum := "68abd2fdb806b43ab9c91f66926c29b77e55f54f2655e98d695b5c00f9ff4f4d", checked := Try.checked }
namespace Rows
def none {H : Type} : Left H := { results := [], args := [] }

/-- 'heavykeyslaw07.HashKey': WHATEVER THE INPUT: true; the input reads as it did. -/
def hashKeySpec : ChangeSpec := { name := "hashKey", fn := fun _ => fun
  | [d1, d2, d3, d4] => { results := [.lit (.bool true)], args := [d1, d2, d3, d4] }
  | _ => none }
def hashKeyRow : OpenClaim := { program := "ytgbbboodfgbfiaa", sum := "68abd2fdb806b43ab9c91f66926c29b77e55f54f2655e98d695b5c00f9ff4f4d", func := "heavykeys/heavykeyslaw07.HashKey", spec := "hashKey", apart := false }
def HashKeySaid : Prop := hashKeyRow.holds Try.pinned (OpenSpec.ofChange hashKeySpec)

/-- ITS FALSE NEIGHBOUR: 'it returns false'. Refute it at one input. -/
def hashKeyWrong : ChangeSpec := { name := "hashKey", fn := fun _ => fun
  | [d1, d2, d3, d4] => { results := [.lit (.bool false)], args := [d1, d2, d3, d4] }
  | _ => none }
def HashKeyWrongFalsely : Prop := hashKeyRow.holds Try.pinned (OpenSpec.ofChange hashKeyWrong)

/-- 'heavykeyslaw07.HashEnds': WHATEVER THE INPUT: true; the input reads as it did. -/
def hashEndsSpec : ChangeSpec := { name := "hashEnds", fn := fun _ => fun
  | [d1, d2, d3] => { results := [.lit (.bool true)], args := [d1, d2, d3] }
  | _ => none }
def hashEndsRow : OpenClaim := { program := "ytgbbboodfgbfiaa", sum := "68abd2fdb806b43ab9c91f66926c29b77e55f54f2655e98d695b5c00f9ff4f4d", func := "heavykeys/heavykeyslaw07.HashEnds", spec := "hashEnds", apart := false }
def HashEndsSaid : Prop := hashEndsRow.holds Try.pinned (OpenSpec.ofChange hashEndsSpec)

/-- ITS FALSE NEIGHBOUR: 'it returns false'. Refute it at one input. -/
def hashEndsWrong : ChangeSpec := { name := "hashEnds", fn := fun _ => fun
  | [d1, d2, d3] => { results := [.lit (.bool false)], args := [d1, d2, d3] }
  | _ => none }
def HashEndsWrongFalsely : Prop := hashEndsRow.holds Try.pinned (OpenSpec.ofChange hashEndsWrong)

/-- 'heavykeyslaw01.SatSums': WHATEVER THE INPUT: true; the input reads as it did. -/
def satSumsSpec : ChangeSpec := { name := "satSums", fn := fun _ => fun
  | [d1, d2] => { results := [.lit (.bool true)], args := [d1, d2] }
  | _ => none }
def satSumsRow : OpenClaim := { program := "ytgbbboodfgbfiaa", sum := "68abd2fdb806b43ab9c91f66926c29b77e55f54f2655e98d695b5c00f9ff4f4d", func := "heavykeys/heavykeyslaw01.SatSums", spec := "satSums", inPlace := ["math/bits.Add64"], apart := false }
def SatSumsSaid : Prop := satSumsRow.holds Try.pinned (OpenSpec.ofChange satSumsSpec)

/-- ITS FALSE NEIGHBOUR: 'it returns false'. Refute it at one input. -/
def satSumsWrong : ChangeSpec := { name := "satSums", fn := fun _ => fun
  | [d1, d2] => { results := [.lit (.bool false)], args := [d1, d2] }
  | _ => none }
def SatSumsWrongFalsely : Prop := satSumsRow.holds Try.pinned (OpenSpec.ofChange satSumsWrong)

/-- 'heavykeyslaw01.SatBack': WHATEVER THE INPUT: true; the input reads as it did. -/
def satBackSpec : ChangeSpec := { name := "satBack", fn := fun _ => fun
  | [d1, d2, d3] => { results := [.lit (.bool true)], args := [d1, d2, d3] }
  | _ => none }
def satBackRow : OpenClaim := { program := "ytgbbboodfgbfiaa", sum := "68abd2fdb806b43ab9c91f66926c29b77e55f54f2655e98d695b5c00f9ff4f4d", func := "heavykeys/heavykeyslaw01.SatBack", spec := "satBack", inPlace := ["math/bits.Add64"], apart := false }
def SatBackSaid : Prop := satBackRow.holds Try.pinned (OpenSpec.ofChange satBackSpec)

/-- ITS FALSE NEIGHBOUR: 'it returns false'. Refute it at one input. -/
def satBackWrong : ChangeSpec := { name := "satBack", fn := fun _ => fun
  | [d1, d2, d3] => { results := [.lit (.bool false)], args := [d1, d2, d3] }
  | _ => none }
def SatBackWrongFalsely : Prop := satBackRow.holds Try.pinned (OpenSpec.ofChange satBackWrong)

/-- 'heavykeyslaw07.HashSlot': WHATEVER THE INPUT: true; the input reads as it did. -/
def hashSlotSpec : ChangeSpec := { name := "hashSlot", fn := fun _ => fun
  | [d1, d2] => { results := [.lit (.bool true)], args := [d1, d2] }
  | _ => none }
def hashSlotRow : OpenClaim := { program := "ytgbbboodfgbfiaa", sum := "68abd2fdb806b43ab9c91f66926c29b77e55f54f2655e98d695b5c00f9ff4f4d", func := "heavykeys/heavykeyslaw07.HashSlot", spec := "hashSlot", apart := false }
def HashSlotSaid : Prop := hashSlotRow.holds Try.pinned (OpenSpec.ofChange hashSlotSpec)

/-- ITS FALSE NEIGHBOUR: 'it returns false'. Refute it at one input. -/
def hashSlotWrong : ChangeSpec := { name := "hashSlot", fn := fun _ => fun
  | [d1, d2] => { results := [.lit (.bool false)], args := [d1, d2] }
  | _ => none }
def HashSlotWrongFalsely : Prop := hashSlotRow.holds Try.pinned (OpenSpec.ofChange hashSlotWrong)

/-- 'heavykeyslaw02.VarintRead': WHATEVER THE INPUT: true; the input reads as it did. -/
def varintReadSpec : ChangeSpec := { name := "varintRead", fn := fun _ => fun
  | [d1, d2, d3] => { results := [.lit (.bool true)], args := [d1, d2, d3] }
  | _ => none }
def varintReadRow : OpenClaim := { program := "ytgbbboodfgbfiaa", sum := "68abd2fdb806b43ab9c91f66926c29b77e55f54f2655e98d695b5c00f9ff4f4d", func := "heavykeys/heavykeyslaw02.VarintRead", spec := "varintRead", apart := false }
def VarintReadSaid : Prop := varintReadRow.holds Try.pinned (OpenSpec.ofChange varintReadSpec)

/-- ITS FALSE NEIGHBOUR: 'it returns false'. Refute it at one input. -/
def varintReadWrong : ChangeSpec := { name := "varintRead", fn := fun _ => fun
  | [d1, d2, d3] => { results := [.lit (.bool false)], args := [d1, d2, d3] }
  | _ => none }
def VarintReadWrongFalsely : Prop := varintReadRow.holds Try.pinned (OpenSpec.ofChange varintReadWrong)

/-- 'heavykeyslaw02.VarintUnique': WHATEVER THE INPUT: true; the input reads as it did. -/
def varintUniqueSpec : ChangeSpec := { name := "varintUnique", fn := fun _ => fun
  | [d1, d2] => { results := [.lit (.bool true)], args := [d1, d2] }
  | _ => none }
def varintUniqueRow : OpenClaim := { program := "ytgbbboodfgbfiaa", sum := "68abd2fdb806b43ab9c91f66926c29b77e55f54f2655e98d695b5c00f9ff4f4d", func := "heavykeys/heavykeyslaw02.VarintUnique", spec := "varintUnique", apart := false }
def VarintUniqueSaid : Prop := varintUniqueRow.holds Try.pinned (OpenSpec.ofChange varintUniqueSpec)

/-- ITS FALSE NEIGHBOUR: 'it returns false'. Refute it at one input. -/
def varintUniqueWrong : ChangeSpec := { name := "varintUnique", fn := fun _ => fun
  | [d1, d2] => { results := [.lit (.bool false)], args := [d1, d2] }
  | _ => none }
def VarintUniqueWrongFalsely : Prop := varintUniqueRow.holds Try.pinned (OpenSpec.ofChange varintUniqueWrong)

/-- 'heavykeyslaw07.HashRow': WHATEVER THE INPUT: true; the input reads as it did. -/
def hashRowSpec : ChangeSpec := { name := "hashRow", fn := fun _ => fun
  | [d1, d2, d3, d4, d5, d6] => { results := [.lit (.bool true)], args := [d1, d2, d3, d4, d5, d6] }
  | _ => none }
def hashRowRow : OpenClaim := { program := "ytgbbboodfgbfiaa", sum := "68abd2fdb806b43ab9c91f66926c29b77e55f54f2655e98d695b5c00f9ff4f4d", func := "heavykeys/heavykeyslaw07.HashRow", spec := "hashRow", apart := false }
def HashRowSaid : Prop := hashRowRow.holds Try.pinned (OpenSpec.ofChange hashRowSpec)

/-- ITS FALSE NEIGHBOUR: 'it returns false'. Refute it at one input. -/
def hashRowWrong : ChangeSpec := { name := "hashRow", fn := fun _ => fun
  | [d1, d2, d3, d4, d5, d6] => { results := [.lit (.bool false)], args := [d1, d2, d3, d4, d5, d6] }
  | _ => none }
def HashRowWrongFalsely : Prop := hashRowRow.holds Try.pinned (OpenSpec.ofChange hashRowWrong)

/-- 'heavykeyslaw02.VarintAppend': WHATEVER THE INPUT: true; the input reads as it did. -/
def varintAppendSpec : ChangeSpec := { name := "varintAppend", fn := fun _ => fun
  | [d1, d2, d3] => { results := [.lit (.bool true)], args := [d1, d2, d3] }
  | _ => none }
def varintAppendRow : OpenClaim := { program := "ytgbbboodfgbfiaa", sum := "68abd2fdb806b43ab9c91f66926c29b77e55f54f2655e98d695b5c00f9ff4f4d", func := "heavykeys/heavykeyslaw02.VarintAppend", spec := "varintAppend", apart := false }
def VarintAppendSaid : Prop := varintAppendRow.holds Try.pinned (OpenSpec.ofChange varintAppendSpec)

/-- ITS FALSE NEIGHBOUR: 'it returns false'. Refute it at one input. -/
def varintAppendWrong : ChangeSpec := { name := "varintAppend", fn := fun _ => fun
  | [d1, d2, d3] => { results := [.lit (.bool false)], args := [d1, d2, d3] }
  | _ => none }
def VarintAppendWrongFalsely : Prop := varintAppendRow.holds Try.pinned (OpenSpec.ofChange varintAppendWrong)

/-- 'heavykeyslaw02.VarintBack': WHATEVER THE INPUT: true; the input reads as it did. -/
def varintBackSpec : ChangeSpec := { name := "varintBack", fn := fun _ => fun
  | [d1, d2, d3] => { results := [.lit (.bool true)], args := [d1, d2, d3] }
  | _ => none }
def varintBackRow : OpenClaim := { program := "ytgbbboodfgbfiaa", sum := "68abd2fdb806b43ab9c91f66926c29b77e55f54f2655e98d695b5c00f9ff4f4d", func := "heavykeys/heavykeyslaw02.VarintBack", spec := "varintBack", apart := false }
def VarintBackSaid : Prop := varintBackRow.holds Try.pinned (OpenSpec.ofChange varintBackSpec)

/-- ITS FALSE NEIGHBOUR: 'it returns false'. Refute it at one input. -/
def varintBackWrong : ChangeSpec := { name := "varintBack", fn := fun _ => fun
  | [d1, d2, d3] => { results := [.lit (.bool false)], args := [d1, d2, d3] }
  | _ => none }
def VarintBackWrongFalsely : Prop := varintBackRow.holds Try.pinned (OpenSpec.ofChange varintBackWrong)

/-- 'heavykeyslaw01.SatMul': WHATEVER THE INPUT: true; the input reads as it did. -/
def satMulSpec : ChangeSpec := { name := "satMul", fn := fun _ => fun
  | [d1, d2] => { results := [.lit (.bool true)], args := [d1, d2] }
  | _ => none }
def satMulRow : OpenClaim := { program := "ytgbbboodfgbfiaa", sum := "68abd2fdb806b43ab9c91f66926c29b77e55f54f2655e98d695b5c00f9ff4f4d", func := "heavykeys/heavykeyslaw01.SatMul", spec := "satMul", inPlace := ["math/bits.Add64"], apart := false }
def SatMulSaid : Prop := satMulRow.holds Try.pinned (OpenSpec.ofChange satMulSpec)

/-- ITS FALSE NEIGHBOUR: 'it returns false'. Refute it at one input. -/
def satMulWrong : ChangeSpec := { name := "satMul", fn := fun _ => fun
  | [d1, d2] => { results := [.lit (.bool false)], args := [d1, d2] }
  | _ => none }
def SatMulWrongFalsely : Prop := satMulRow.holds Try.pinned (OpenSpec.ofChange satMulWrong)

/-- 'heavykeyslaw01.SatFits': WHATEVER THE INPUT: true; the input reads as it did. -/
def satFitsSpec : ChangeSpec := { name := "satFits", fn := fun _ => fun
  | [d1, d2, d3] => { results := [.lit (.bool true)], args := [d1, d2, d3] }
  | _ => none }
def satFitsRow : OpenClaim := { program := "ytgbbboodfgbfiaa", sum := "68abd2fdb806b43ab9c91f66926c29b77e55f54f2655e98d695b5c00f9ff4f4d", func := "heavykeys/heavykeyslaw01.SatFits", spec := "satFits", inPlace := ["math/bits.Add64"], apart := false }
def SatFitsSaid : Prop := satFitsRow.holds Try.pinned (OpenSpec.ofChange satFitsSpec)

/-- ITS FALSE NEIGHBOUR: 'it returns false'. Refute it at one input. -/
def satFitsWrong : ChangeSpec := { name := "satFits", fn := fun _ => fun
  | [d1, d2, d3] => { results := [.lit (.bool false)], args := [d1, d2, d3] }
  | _ => none }
def SatFitsWrongFalsely : Prop := satFitsRow.holds Try.pinned (OpenSpec.ofChange satFitsWrong)

/- THE SECOND FORM. 'bulk': how many values and letters a reading holds, each counted each time it is reached (what is shared counts as often as it is met; a slice's spare places count too). A statement '..UptoSaid' is the law's where the arguments, and the package variables that the reading takes, are together of bulk at most 1048576: NARROWER than '..Said'. Prove '..Said' where nothing that the law and all that it calls make is longer than what came in: it says more and counts as full. Else prove '..UptoSaid'. A law counts once. -/
mutual
def uptoBulk {H : Type} : DataW H → Nat
  | .lit (.string bytes) => bytes.length + 1
  | .lit _ => 1
  | .nil => 1
  | .ptr d => uptoBulk d + 1
  | .slice elems spare => uptoBulkAll elems + uptoBulkAll spare + 1
  | .agg parts => uptoBulkAll parts + 1
  | .iface _ d => uptoBulk d + 1
  | .map entries => uptoBulkEntries entries + 1
  | .held _ => 1
def uptoBulkAll {H : Type} : List (DataW H) → Nat
  | [] => 0
  | d :: r => uptoBulk d + uptoBulkAll r
def uptoBulkEntries {H : Type} : List (Lit × DataW H) → Nat
  | [] => 0
  | x :: r => uptoBulkEntry x + uptoBulkEntries r
def uptoBulkEntry {H : Type} : Lit × DataW H → Nat
  | (.string bytes, d) => bytes.length + uptoBulk d + 1
  | (_, d) => uptoBulk d + 1
 end
def uptoSmall : (H : Type) → List (DataW H) → Bool := fun _ ds => decide (uptoBulkAll ds ≤ 1048576)
def OpenSpec.upto (s : _root_.Go.ChangeSpec) : _root_.Go.OpenSpec := { _root_.Go.OpenSpec.ofChange s with cond := some uptoSmall }

/-- 'heavykeyslaw07.HashKey', WHERE WHAT IT READS IS OF BULK AT MOST 1048576: true; the input reads as it did. -/
def hashKeyUptoRow : OpenClaim := { program := "ytgbbboodfgbfiaa", sum := "68abd2fdb806b43ab9c91f66926c29b77e55f54f2655e98d695b5c00f9ff4f4d", func := "heavykeys/heavykeyslaw07.HashKey", spec := "hashKey", apart := false, narrowed := true }
def HashKeyUptoSaid : Prop := hashKeyUptoRow.holds Try.pinned (OpenSpec.upto hashKeySpec)

/-- 'heavykeyslaw07.HashEnds', WHERE WHAT IT READS IS OF BULK AT MOST 1048576: true; the input reads as it did. -/
def hashEndsUptoRow : OpenClaim := { program := "ytgbbboodfgbfiaa", sum := "68abd2fdb806b43ab9c91f66926c29b77e55f54f2655e98d695b5c00f9ff4f4d", func := "heavykeys/heavykeyslaw07.HashEnds", spec := "hashEnds", apart := false, narrowed := true }
def HashEndsUptoSaid : Prop := hashEndsUptoRow.holds Try.pinned (OpenSpec.upto hashEndsSpec)

/-- 'heavykeyslaw01.SatSums', WHERE WHAT IT READS IS OF BULK AT MOST 1048576: true; the input reads as it did. -/
def satSumsUptoRow : OpenClaim := { program := "ytgbbboodfgbfiaa", sum := "68abd2fdb806b43ab9c91f66926c29b77e55f54f2655e98d695b5c00f9ff4f4d", func := "heavykeys/heavykeyslaw01.SatSums", spec := "satSums", inPlace := ["math/bits.Add64"], apart := false, narrowed := true }
def SatSumsUptoSaid : Prop := satSumsUptoRow.holds Try.pinned (OpenSpec.upto satSumsSpec)

/-- 'heavykeyslaw01.SatBack', WHERE WHAT IT READS IS OF BULK AT MOST 1048576: true; the input reads as it did. -/
def satBackUptoRow : OpenClaim := { program := "ytgbbboodfgbfiaa", sum := "68abd2fdb806b43ab9c91f66926c29b77e55f54f2655e98d695b5c00f9ff4f4d", func := "heavykeys/heavykeyslaw01.SatBack", spec := "satBack", inPlace := ["math/bits.Add64"], apart := false, narrowed := true }
def SatBackUptoSaid : Prop := satBackUptoRow.holds Try.pinned (OpenSpec.upto satBackSpec)

/-- 'heavykeyslaw07.HashSlot', WHERE WHAT IT READS IS OF BULK AT MOST 1048576: true; the input reads as it did. -/
def hashSlotUptoRow : OpenClaim := { program := "ytgbbboodfgbfiaa", sum := "68abd2fdb806b43ab9c91f66926c29b77e55f54f2655e98d695b5c00f9ff4f4d", func := "heavykeys/heavykeyslaw07.HashSlot", spec := "hashSlot", apart := false, narrowed := true }
def HashSlotUptoSaid : Prop := hashSlotUptoRow.holds Try.pinned (OpenSpec.upto hashSlotSpec)

/-- 'heavykeyslaw02.VarintRead', WHERE WHAT IT READS IS OF BULK AT MOST 1048576: true; the input reads as it did. -/
def varintReadUptoRow : OpenClaim := { program := "ytgbbboodfgbfiaa", sum := "68abd2fdb806b43ab9c91f66926c29b77e55f54f2655e98d695b5c00f9ff4f4d", func := "heavykeys/heavykeyslaw02.VarintRead", spec := "varintRead", apart := false, narrowed := true }
def VarintReadUptoSaid : Prop := varintReadUptoRow.holds Try.pinned (OpenSpec.upto varintReadSpec)

/-- 'heavykeyslaw02.VarintUnique', WHERE WHAT IT READS IS OF BULK AT MOST 1048576: true; the input reads as it did. -/
def varintUniqueUptoRow : OpenClaim := { program := "ytgbbboodfgbfiaa", sum := "68abd2fdb806b43ab9c91f66926c29b77e55f54f2655e98d695b5c00f9ff4f4d", func := "heavykeys/heavykeyslaw02.VarintUnique", spec := "varintUnique", apart := false, narrowed := true }
def VarintUniqueUptoSaid : Prop := varintUniqueUptoRow.holds Try.pinned (OpenSpec.upto varintUniqueSpec)

/-- 'heavykeyslaw07.HashRow', WHERE WHAT IT READS IS OF BULK AT MOST 1048576: true; the input reads as it did. -/
def hashRowUptoRow : OpenClaim := { program := "ytgbbboodfgbfiaa", sum := "68abd2fdb806b43ab9c91f66926c29b77e55f54f2655e98d695b5c00f9ff4f4d", func := "heavykeys/heavykeyslaw07.HashRow", spec := "hashRow", apart := false, narrowed := true }
def HashRowUptoSaid : Prop := hashRowUptoRow.holds Try.pinned (OpenSpec.upto hashRowSpec)

/-- 'heavykeyslaw02.VarintAppend', WHERE WHAT IT READS IS OF BULK AT MOST 1048576: true; the input reads as it did. -/
def varintAppendUptoRow : OpenClaim := { program := "ytgbbboodfgbfiaa", sum := "68abd2fdb806b43ab9c91f66926c29b77e55f54f2655e98d695b5c00f9ff4f4d", func := "heavykeys/heavykeyslaw02.VarintAppend", spec := "varintAppend", apart := false, narrowed := true }
def VarintAppendUptoSaid : Prop := varintAppendUptoRow.holds Try.pinned (OpenSpec.upto varintAppendSpec)

/-- 'heavykeyslaw02.VarintBack', WHERE WHAT IT READS IS OF BULK AT MOST 1048576: true; the input reads as it did. -/
def varintBackUptoRow : OpenClaim := { program := "ytgbbboodfgbfiaa", sum := "68abd2fdb806b43ab9c91f66926c29b77e55f54f2655e98d695b5c00f9ff4f4d", func := "heavykeys/heavykeyslaw02.VarintBack", spec := "varintBack", apart := false, narrowed := true }
def VarintBackUptoSaid : Prop := varintBackUptoRow.holds Try.pinned (OpenSpec.upto varintBackSpec)

/-- 'heavykeyslaw01.SatMul', WHERE WHAT IT READS IS OF BULK AT MOST 1048576: true; the input reads as it did. -/
def satMulUptoRow : OpenClaim := { program := "ytgbbboodfgbfiaa", sum := "68abd2fdb806b43ab9c91f66926c29b77e55f54f2655e98d695b5c00f9ff4f4d", func := "heavykeys/heavykeyslaw01.SatMul", spec := "satMul", inPlace := ["math/bits.Add64"], apart := false, narrowed := true }
def SatMulUptoSaid : Prop := satMulUptoRow.holds Try.pinned (OpenSpec.upto satMulSpec)

/-- 'heavykeyslaw01.SatFits', WHERE WHAT IT READS IS OF BULK AT MOST 1048576: true; the input reads as it did. -/
def satFitsUptoRow : OpenClaim := { program := "ytgbbboodfgbfiaa", sum := "68abd2fdb806b43ab9c91f66926c29b77e55f54f2655e98d695b5c00f9ff4f4d", func := "heavykeys/heavykeyslaw01.SatFits", spec := "satFits", inPlace := ["math/bits.Add64"], apart := false, narrowed := true }
def SatFitsUptoSaid : Prop := satFitsUptoRow.holds Try.pinned (OpenSpec.upto satFitsSpec)

end Rows
end Go.Proofs.Ytgbbboodfgbfiaa
