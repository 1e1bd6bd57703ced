/-
  A summary as an element of a slice. No conditions beyond those of the statement.
-/
import Derived.Test.YtaiopdipldaimaaYh
set_option linter.unusedVariables false
set_option linter.unusedSimpArgs false
namespace Go.Proofs.Ytaiopdipldaimaa
open Go.RowKit Cfp
namespace sbounds
/-- a summary as an element -/
structure Sm where
  tot : Int
  un : Int
  A : Option Addr
  R : Option Addr
  n : Nat
  cA : Nat
  m : Nat
  cR : Nat
def Sm.cells (x : Sm) : List Value := [.int .u64 x.tot, .slice x.A x.n x.cA, .int .u64 x.un, .slice x.R x.m x.cR]
theorem sm_get : ∀ (xs : List Sm) (i : Nat) (x : Sm), xs[i]? = some x → ∀ (t : Nat) (v : Value), x.cells[t]? = some v → (xs.flatMap Sm.cells)[i * 4 + t]? = some v
  | [], i, x, h, t, v, hv => by simp at h
  | y :: xs, 0, x, h, t, v, hv => by
    obtain rfl : y = x := by simpa using h
    have h17 : t < y.cells.length := (List.getElem?_eq_some_iff.1 hv).1
    rw [List.flatMap_cons, Nat.zero_mul, Nat.zero_add, List.getElem?_append_left h17]
    exact hv
  | y :: xs, i + 1, x, h, t, v, hv => by
    have hl : y.cells.length = 4 := rfl
    rw [List.flatMap_cons, List.getElem?_append_right (by rw [hl]; omega), hl, show (i + 1) * 4 + t - 4 = i * 4 + t from by omega]
    exact sm_get xs i x (by simpa using h) t v hv
end sbounds
end Go.Proofs.Ytaiopdipldaimaa
