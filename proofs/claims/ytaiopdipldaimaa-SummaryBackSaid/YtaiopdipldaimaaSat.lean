/-
  The functions of package sat and of the reference's arithmetic (layer 1), each by its contract: numbers are integers from 0 to 2^64 - 1.
-/
import Derived.Test.YtaiopdipldaimaaBase
set_option linter.unusedVariables false
set_option linter.unusedSimpArgs false
namespace Go.Proofs.Ytaiopdipldaimaa
open Go.RowKit

namespace Sat
def add (a b : Int) : Int := if a + b ≤ 18446744073709551615 then a + b else 18446744073709551615
def addOk (a b : Int) : Bool := decide (a + b ≤ 18446744073709551615)
def sub (a b : Int) : Int := if a < b then 0 else a - b
def subOk (a b : Int) : Bool := decide (b ≤ a)
def mul (a b : Int) : Int := if a * b ≤ 18446744073709551615 then a * b else 18446744073709551615
def mulOk (a b : Int) : Bool := decide (a * b ≤ 18446744073709551615)
def fits (t w : Int) : Bool := decide (t + w ≤ 9223372036854775808)
def share (t p : Int) : Int := if p < 1 then t else t / p

theorem add_bd (a b : Int) (ha : 0 ≤ a) (hb : 0 ≤ b) : 0 ≤ add a b ∧ add a b < 18446744073709551616 := by unfold add; split <;> omega
theorem sub_bd (a b : Int) (ha : 0 ≤ a) (hb : 0 ≤ b) : 0 ≤ sub a b ∧ sub a b ≤ a := by unfold sub; split <;> omega
theorem add_yes {a b : Int} (h : a + b ≤ 18446744073709551615) : add a b = a + b ∧ addOk a b = true := by unfold add addOk; simp [h]
theorem add_no {a b : Int} (h : ¬ a + b ≤ 18446744073709551615) : add a b = 18446744073709551615 ∧ addOk a b = false := by unfold add addOk; simp [h]
theorem sub_no {a b : Int} (h : a < b) : sub a b = 0 ∧ subOk a b = false := by unfold sub subOk; simp [h]
theorem sub_yes {a b : Int} (h : ¬ a < b) : sub a b = a - b ∧ subOk a b = true := by unfold sub subOk; simp [h]; omega
theorem mul_yes {a b : Int} (h : a * b ≤ 18446744073709551615) : mul a b = a * b ∧ mulOk a b = true := by unfold mul mulOk; simp [h]
theorem mul_no {a b : Int} (h : ¬ a * b ≤ 18446744073709551615) : mul a b = 18446744073709551615 ∧ mulOk a b = false := by unfold mul mulOk; simp [h]

theorem run_add64 (a b : Int) (ha : 0 ≤ a) (hb : 0 ≤ b) (w : World) :
    (callFunc 88 #[.int .u64 a, .int .u64 b, .int .u64 0]).run Try.prog w =
      .ok (.value (.tuple #[.int .u64 ((a + b) % 18446744073709551616), .int .u64 ((a + b) / 18446744073709551616)])) w := by
  have h := _root_.Go.run_add64 (P := Try.prog) a b 0 ha hb (by omega) (by omega) w
  rw [run_callFunc_extern Try.func88 (by kernel_rfl) (by kernel_rfl) (by kernel_rfl) (e := add64Entry) (by kernel_rfl), h]
  simp only [Result.andThen, Int.add_zero]

/-- sat.Add: the sum, or the greatest number and false. -/
theorem add_any (a b : Int) (ha : 0 ≤ a) (ha' : a < 18446744073709551616) (hb : 0 ≤ b) (hb' : b < 18446744073709551616) (w : World) :
    Calls Try.prog 69 #[.int .u64 a, .int .u64 b] w fun e w' => e = .returned (.tuple #[.int .u64 (add a b), .bool (addOk a b)]) ∧ w = w' := by
  have h49 := run_add64 a b ha hb
  by_cases h : a + b ≤ 18446744073709551615
  · rw [(add_yes h).1, (add_yes h).2]
    rw [show (a + b) % 18446744073709551616 = a + b from by omega, show (a + b) / 18446744073709551616 = 0 from by omega] at h49
    go_enter Try.func69, Try.ntmps69
    go_wp2
    go_ret2
    exact ⟨rfl, rfl⟩
  · rw [(add_no h).1, (add_no h).2]
    rw [show (a + b) / 18446744073709551616 = 1 from by omega] at h49
    go_enter Try.func69, Try.ntmps69
    go_wp2
    go_ret2
    exact ⟨rfl, rfl⟩



/-- sat.Fits: may a weight be added to a total? -/
theorem fits_any (a b : Int) (ha : 0 ≤ a) (ha' : a < 18446744073709551616) (hb : 0 ≤ b) (hb' : b < 18446744073709551616) (w : World) :
    Calls Try.prog 50 #[.int .u64 a, .int .u64 b] w fun e w' => e = .returned (.bool (fits a b)) ∧ w = w' := by
  have H := Lib.hid (add_any a b ha ha' hb hb')
  by_cases h : a + b ≤ 18446744073709551615
  · rw [(add_yes h).1, (add_yes h).2] at H
    go_enter Try.func50, Try.ntmps50
    go_wp2_with (go_at_call 69; refine (H.out _).mono ?_; rintro e w' ⟨rfl, rfl⟩)
    go_ret
    exact ⟨rfl, rfl⟩
  · rw [(add_no h).1, (add_no h).2] at H
    have e : fits a b = false := by unfold fits; simp; omega
    rw [e]; clear e
    go_enter Try.func50, Try.ntmps50
    go_wp2_with (go_at_call 69; refine (H.out _).mono ?_; rintro e w' ⟨rfl, rfl⟩)
    go_ret
    exact ⟨rfl, rfl⟩


theorem radd_any (a b : Int) (ha : 0 ≤ a) (ha' : a < 18446744073709551616) (hb : 0 ≤ b) (hb' : b < 18446744073709551616) (w : World) :
    Calls Try.prog 91 #[.int .u64 a, .int .u64 b] w fun e w' => e = .returned (.tuple #[.int .u64 (add a b), .bool (addOk a b)]) ∧ w = w' := by
  by_cases h : a + b ≤ 18446744073709551615
  · rw [(add_yes h).1, (add_yes h).2]
    go_enter Try.func91, Try.ntmps91
    go_wp2
    go_ret2
    exact ⟨rfl, rfl⟩
  · rw [(add_no h).1, (add_no h).2]
    go_enter Try.func91, Try.ntmps91
    go_wp2
    go_ret2
    exact ⟨rfl, rfl⟩


theorem rfits_any (a b : Int) (ha : 0 ≤ a) (ha' : a < 18446744073709551616) (hb : 0 ≤ b) (hb' : b < 18446744073709551616) (w : World) :
    Calls Try.prog 64 #[.int .u64 a, .int .u64 b] w fun e w' => e = .returned (.bool (fits a b)) ∧ w = w' := by
  by_cases h : a ≤ 9223372036854775808
  · go_enter Try.func64, Try.ntmps64
    go_wp2
    go_ret
    exact ⟨ret_bool (by unfold fits; congr 1; simp; omega), rfl⟩
  · go_enter Try.func64, Try.ntmps64
    go_wp2
    go_ret
    exact ⟨ret_bool (by unfold fits; simp; omega), rfl⟩



end Sat
end Go.Proofs.Ytaiopdipldaimaa
