/-
  Arguments that are structs of a string, a whole number and a weight.
-/
import Derived.Test.YtidobhflijdccaaArgP
import Derived.Deep.Fields
set_option linter.unusedVariables false
set_option linter.unusedSimpArgs false
namespace Go.Proofs.Ytidobhflijdccaa
open Go.RowKit Go.ChangeShapes Go.WideShapes
section
variable {H : Type} {enc : TypeId × Value → H} {P : Program} {w : World} {base : Nat} {spare : Nat → Bool} {held : Bool}
theorem trod_siu {ts : TypeId} {f0 f1 f2 : Field} {fuel : Nat} {cs : List Value} {x : DataW H × List MemPlace} (hs : P.underlying ts = some (.struct #[f0, f1, f2])) (hone : Deep.oneCellFields P #[f0, f1, f2] = true) (hC : P.cellsOf ts = 3)
    (u0 : P.underlying f0.type = some .string) (u1 : P.underlying f1.type = some (.int .i64)) (u2 : P.underlying f2.type = some (.int .u64)) (h : DataW.trod enc P w base spare held fuel ts cs = some x) :
    ∃ (s : ByteArray) (a b : Int), cs = [.string s, .int .i64 a, .int .u64 b] ∧ s.size ≤ maxLen ∧ (-9223372036854775808 ≤ a ∧ a < 9223372036854775808) ∧ (0 ≤ b ∧ b < 18446744073709551616) := by
  obtain ⟨xs, n, _, _, hl, hxl, hf⟩ := DataW.trod_struct hs h
  rw [hC] at hl
  have h1 := Deep.hone_of hone
  match cs, hl with
  | [v0, v1, v2], _ =>
    match xs, hxl with
    | [y0, y1, y2], _ =>
      have g0 := hf 0 f0 rfl
      have g1 := hf 1 f1 rfl
      have g2 := hf 2 f2 rfl
      rw [(h1 0 f0 rfl).1, (h1 0 f0 rfl).2] at g0
      rw [(h1 1 f1 rfl).1, (h1 1 f1 rfl).2] at g1
      rw [(h1 2 f2 rfl).1, (h1 2 f2 rfl).2] at g2
      obtain ⟨s, e0, _, w0⟩ := DataW.trod_string u0 g0
      obtain ⟨a, e1, _, w1⟩ := DataW.trod_int u1 g1
      obtain ⟨b, e2, _, w2⟩ := DataW.trod_int u2 g2
      simp at e0 e1 e2
      subst e0 e1 e2
      exact ⟨s, a, b, rfl, w0, wf_i64 w1, wf_u64 w2⟩
/-- a struct of a string and two numbers, as an argument -/
theorem arg_siu {ts : TypeId} {f0 f1 f2 : Field} {cs : Array Value} {d : DataW H} {p : List MemPlace} (hs : P.underlying ts = some (.struct #[f0, f1, f2])) (u0 : P.underlying f0.type = some .string) (u1 : P.underlying f1.type = some (.int .i64)) (u2 : P.underlying f2.type = some (.int .u64))
    (hone : Deep.oneCellFields P #[f0, f1, f2] = true) (hC : P.cellsOf ts = 3) (h : DataW.Trod enc P w base spare held ts (.agg cs) d p) :
    ∃ (s : ByteArray) (a b : Int), cs = #[.string s, .int .i64 a, .int .u64 b] ∧ s.size ≤ maxLen ∧ (-9223372036854775808 ≤ a ∧ a < 9223372036854775808) ∧ (0 ≤ b ∧ b < 18446744073709551616) := by
  obtain ⟨fuel, hf⟩ := h
  obtain ⟨s, a, b, e, h1⟩ := trod_siu hs hone hC u0 u1 u2 hf
  refine ⟨s, a, b, ?_, h1⟩
  apply Array.ext'
  simpa [Value.cells] using e
end
end Go.Proofs.Ytidobhflijdccaa
