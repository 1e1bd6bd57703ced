/-
  The functions of package sat and of the reference's arithmetic (layer 1), each by its contract: numbers are integers from 0 to 2^64 - 1.
-/
import Derived.Test.YtgbbboodfgbfiaaBase
import Derived.Shelf.Bits.Mul64
set_option linter.unusedVariables false
set_option linter.unusedSimpArgs false
namespace Go.Proofs.Ytgbbboodfgbfiaa
open Go.RowKit

namespace Sat
def add (a b : Int) : Int := if a + b ≤ 18446744073709551615 then a + b else 18446744073709551615
def addOk (a b : Int) : Bool := decide (a + b ≤ 18446744073709551615)
def sub (a b : Int) : Int := if a < b then 0 else a - b
def subOk (a b : Int) : Bool := decide (b ≤ a)
def mul (a b : Int) : Int := if a * b ≤ 18446744073709551615 then a * b else 18446744073709551615
def mulOk (a b : Int) : Bool := decide (a * b ≤ 18446744073709551615)
def fits (t w : Int) : Bool := decide (t + w ≤ 9223372036854775808)
def share (t p : Int) : Int := if p < 1 then t else t / p

theorem add_bd (a b : Int) (ha : 0 ≤ a) (hb : 0 ≤ b) : 0 ≤ add a b ∧ add a b < 18446744073709551616 := by unfold add; split <;> omega
theorem sub_bd (a b : Int) (ha : 0 ≤ a) (hb : 0 ≤ b) : 0 ≤ sub a b ∧ sub a b ≤ a := by unfold sub; split <;> omega
theorem add_yes {a b : Int} (h : a + b ≤ 18446744073709551615) : add a b = a + b ∧ addOk a b = true := by unfold add addOk; simp [h]
theorem add_no {a b : Int} (h : ¬ a + b ≤ 18446744073709551615) : add a b = 18446744073709551615 ∧ addOk a b = false := by unfold add addOk; simp [h]
theorem sub_no {a b : Int} (h : a < b) : sub a b = 0 ∧ subOk a b = false := by unfold sub subOk; simp [h]
theorem sub_yes {a b : Int} (h : ¬ a < b) : sub a b = a - b ∧ subOk a b = true := by unfold sub subOk; simp [h]; omega
theorem mul_yes {a b : Int} (h : a * b ≤ 18446744073709551615) : mul a b = a * b ∧ mulOk a b = true := by unfold mul mulOk; simp [h]
theorem mul_no {a b : Int} (h : ¬ a * b ≤ 18446744073709551615) : mul a b = 18446744073709551615 ∧ mulOk a b = false := by unfold mul mulOk; simp [h]

theorem run_add64 (a b : Int) (ha : 0 ≤ a) (hb : 0 ≤ b) (w : World) :
    (callFunc 49 #[.int .u64 a, .int .u64 b, .int .u64 0]).run Try.prog w =
      .ok (.value (.tuple #[.int .u64 ((a + b) % 18446744073709551616), .int .u64 ((a + b) / 18446744073709551616)])) w := by
  have h := _root_.Go.run_add64 (P := Try.prog) a b 0 ha hb (by omega) (by omega) w
  rw [run_callFunc_extern Try.func49 (by kernel_rfl) (by kernel_rfl) (by kernel_rfl) (e := add64Entry) (by kernel_rfl), h]
  simp only [Result.andThen, Int.add_zero]

/-- sat.Add: the sum, or the greatest number and false. -/
theorem add_any (a b : Int) (ha : 0 ≤ a) (ha' : a < 18446744073709551616) (hb : 0 ≤ b) (hb' : b < 18446744073709551616) (w : World) :
    Calls Try.prog 22 #[.int .u64 a, .int .u64 b] w fun e w' => e = .returned (.tuple #[.int .u64 (add a b), .bool (addOk a b)]) ∧ w = w' := by
  have h49 := run_add64 a b ha hb
  by_cases h : a + b ≤ 18446744073709551615
  · rw [(add_yes h).1, (add_yes h).2]
    rw [show (a + b) % 18446744073709551616 = a + b from by omega, show (a + b) / 18446744073709551616 = 0 from by omega] at h49
    go_enter Try.func22, Try.ntmps22
    go_wp2
    go_ret2
    exact ⟨rfl, rfl⟩
  · rw [(add_no h).1, (add_no h).2]
    rw [show (a + b) / 18446744073709551616 = 1 from by omega] at h49
    go_enter Try.func22, Try.ntmps22
    go_wp2
    go_ret2
    exact ⟨rfl, rfl⟩

theorem sub_any (a b : Int) (ha : 0 ≤ a) (ha' : a < 18446744073709551616) (hb : 0 ≤ b) (hb' : b < 18446744073709551616) (w : World) :
    Calls Try.prog 24 #[.int .u64 a, .int .u64 b] w fun e w' => e = .returned (.tuple #[.int .u64 (sub a b), .bool (subOk a b)]) ∧ w = w' := by
  by_cases h : a < b
  · rw [(sub_no h).1, (sub_no h).2]
    go_enter Try.func24, Try.ntmps24
    go_wp2
    go_ret2
    exact ⟨rfl, rfl⟩
  · rw [(sub_yes h).1, (sub_yes h).2]
    go_enter Try.func24, Try.ntmps24
    go_wp2
    go_ret2
    exact ⟨rfl, rfl⟩

def lays264_ren : Go.Shelf.Ren := ⟨fun | 264 => 50 | n => n, fun | 53 => 24 | 46 => 33 | n => n, fun | n => n⟩
theorem lays264 : Go.Proofs.Lays.n264 Try.prog lays264_ren := {
  mixed := by kernel_rfl
  f264 := Try.func50.trans (congrArg some (by kernel_rfl))
  t46 := Try.underlying33
  a46 := Try.isAgg33
  z46 := Try.sizeOf33
  v46 := Try.zeroValue33
  t53 := Try.underlying24
  a53 := Try.isAgg24
  z53 := Try.sizeOf24
  v53 := Try.zeroValue24 }
theorem mul64 (a b : Int) (ha : 0 ≤ a) (ha' : a < 18446744073709551616) (hb : 0 ≤ b) (hb' : b < 18446744073709551616) (w : World) :
    Calls Try.prog 50 #[.int .u64 a, .int .u64 b] w fun e w' => e = .returned (.tuple #[.int .u64 (a * b / 18446744073709551616), .int .u64 (a * b % 18446744073709551616)]) ∧ w' = w := by
  obtain ⟨x, rfl⟩ := Int.eq_ofNat_of_zero_le ha
  obtain ⟨y, rfl⟩ := Int.eq_ofNat_of_zero_le hb
  have h := Any.bits_Mul64 lays264 x y (by omega) (by omega) w
  have e1 : ((x * y / 18446744073709551616 : Nat) : Int) = (x : Int) * y / 18446744073709551616 := by simp
  have e2 : ((x * y % 18446744073709551616 : Nat) : Int) = (x : Int) * y % 18446744073709551616 := by simp
  rw [e1, e2] at h
  exact h

/-- sat.Mul: the product, or the greatest number and false. -/
theorem mul_any (a b : Int) (ha : 0 ≤ a) (ha' : a < 18446744073709551616) (hb : 0 ≤ b) (hb' : b < 18446744073709551616) (w : World) :
    Calls Try.prog 39 #[.int .u64 a, .int .u64 b] w fun e w' => e = .returned (.tuple #[.int .u64 (mul a b), .bool (mulOk a b)]) ∧ w = w' := by
  have hp : 0 ≤ a * b := Int.mul_nonneg ha hb
  by_cases h : a * b ≤ 18446744073709551615
  · rw [(mul_yes h).1, (mul_yes h).2]
    have hm := mul64 a b ha ha' hb hb'
    rw [show a * b % 18446744073709551616 = a * b from by omega, show a * b / 18446744073709551616 = 0 from by omega] at hm
    have H := Lib.hid hm
    clear hm
    go_enter Try.func39, Try.ntmps39
    go_wp2_with (go_at_call 50; refine (H.out _).mono ?_; rintro e w' ⟨rfl, rfl⟩)
    go_ret2
    exact ⟨rfl, rfl⟩
  · rw [(mul_no h).1, (mul_no h).2]
    have hq : 1 ≤ a * b / 18446744073709551616 := by omega
    have hm := mul64 a b ha ha' hb hb'
    have hr : 0 ≤ a * b % 18446744073709551616 := by omega
    generalize a * b % 18446744073709551616 = r at hm hr
    generalize a * b / 18446744073709551616 = q at hm hq
    have H := Lib.hid hm
    clear hm
    go_enter Try.func39, Try.ntmps39
    go_wp2_with (go_at_call 50; refine (H.out _).mono ?_; rintro e w' ⟨rfl, rfl⟩)
    go_ret2
    exact ⟨rfl, rfl⟩

/-- sat.Fits: may a weight be added to a total? -/
theorem fits_any (a b : Int) (ha : 0 ≤ a) (ha' : a < 18446744073709551616) (hb : 0 ≤ b) (hb' : b < 18446744073709551616) (w : World) :
    Calls Try.prog 42 #[.int .u64 a, .int .u64 b] w fun e w' => e = .returned (.bool (fits a b)) ∧ w = w' := by
  have H := Lib.hid (add_any a b ha ha' hb hb')
  by_cases h : a + b ≤ 18446744073709551615
  · rw [(add_yes h).1, (add_yes h).2] at H
    go_enter Try.func42, Try.ntmps42
    go_wp2_with (go_at_call 22; refine (H.out _).mono ?_; rintro e w' ⟨rfl, rfl⟩)
    go_ret
    exact ⟨rfl, rfl⟩
  · rw [(add_no h).1, (add_no h).2] at H
    have e : fits a b = false := by unfold fits; simp; omega
    rw [e]; clear e
    go_enter Try.func42, Try.ntmps42
    go_wp2_with (go_at_call 22; refine (H.out _).mono ?_; rintro e w' ⟨rfl, rfl⟩)
    go_ret
    exact ⟨rfl, rfl⟩

theorem share_any (t p : Int) (ht : 0 ≤ t) (ht' : t < 18446744073709551616) (hp : -9223372036854775808 ≤ p) (hp' : p ≤ 9223372036854775807) (w : World) :
    Calls Try.prog 41 #[.int .u64 t, .int .i64 p] w fun e w' => e = .returned (.int .u64 (share t p)) ∧ w = w' := by
  by_cases h : p < 1
  · have e : share t p = t := by unfold share; rw [if_pos h]
    rw [e]; clear e
    go_enter Try.func41, Try.ntmps41
    go_wp2
    go_ret
    exact ⟨rfl, rfl⟩
  · have e : share t p = t / p := by unfold share; rw [if_neg h]
    rw [e]; clear e
    go_enter Try.func41, Try.ntmps41
    go_wp2
    go_ret
    exact ⟨rfl, rfl⟩

theorem radd_any (a b : Int) (ha : 0 ≤ a) (ha' : a < 18446744073709551616) (hb : 0 ≤ b) (hb' : b < 18446744073709551616) (w : World) :
    Calls Try.prog 23 #[.int .u64 a, .int .u64 b] w fun e w' => e = .returned (.tuple #[.int .u64 (add a b), .bool (addOk a b)]) ∧ w = w' := by
  by_cases h : a + b ≤ 18446744073709551615
  · rw [(add_yes h).1, (add_yes h).2]
    go_enter Try.func23, Try.ntmps23
    go_wp2
    go_ret2
    exact ⟨rfl, rfl⟩
  · rw [(add_no h).1, (add_no h).2]
    go_enter Try.func23, Try.ntmps23
    go_wp2
    go_ret2
    exact ⟨rfl, rfl⟩

theorem rsub_any (a b : Int) (ha : 0 ≤ a) (ha' : a < 18446744073709551616) (hb : 0 ≤ b) (hb' : b < 18446744073709551616) (w : World) :
    Calls Try.prog 25 #[.int .u64 a, .int .u64 b] w fun e w' => e = .returned (.tuple #[.int .u64 (sub a b), .bool (subOk a b)]) ∧ w = w' := by
  by_cases h : a < b
  · rw [(sub_no h).1, (sub_no h).2]
    go_enter Try.func25, Try.ntmps25
    go_wp2
    go_ret2
    exact ⟨rfl, rfl⟩
  · rw [(sub_yes h).1, (sub_yes h).2]
    go_enter Try.func25, Try.ntmps25
    go_wp2
    go_ret2
    exact ⟨rfl, rfl⟩

theorem rfits_any (a b : Int) (ha : 0 ≤ a) (ha' : a < 18446744073709551616) (hb : 0 ≤ b) (hb' : b < 18446744073709551616) (w : World) :
    Calls Try.prog 43 #[.int .u64 a, .int .u64 b] w fun e w' => e = .returned (.bool (fits a b)) ∧ w = w' := by
  by_cases h : a ≤ 9223372036854775808
  · go_enter Try.func43, Try.ntmps43
    go_wp2
    go_ret
    exact ⟨ret_bool (by unfold fits; congr 1; simp; omega), rfl⟩
  · go_enter Try.func43, Try.ntmps43
    go_wp2
    go_ret
    exact ⟨ret_bool (by unfold fits; simp; omega), rfl⟩

theorem rshare_any (t p : Int) (ht : 0 ≤ t) (ht' : t < 18446744073709551616) (hp : -9223372036854775808 ≤ p) (hp' : p ≤ 9223372036854775807) (w : World) :
    Calls Try.prog 44 #[.int .u64 t, .int .i64 p] w fun e w' => e = .returned (.int .u64 (share t p)) ∧ w = w' := by
  by_cases h : p < 1
  · have e : share t p = t := by unfold share; rw [if_pos h]
    rw [e]; clear e
    go_enter Try.func44, Try.ntmps44
    go_wp2
    go_ret
    exact ⟨rfl, rfl⟩
  · have e : share t p = t / p := by unfold share; rw [if_neg h]
    rw [e]; clear e
    go_enter Try.func44, Try.ntmps44
    go_wp2
    go_ret
    exact ⟨rfl, rfl⟩

theorem rmul_any (a b : Int) (ha : 0 ≤ a) (ha' : a < 18446744073709551616) (hb : 0 ≤ b) (hb' : b < 18446744073709551616) (w : World) :
    Calls Try.prog 40 #[.int .u64 a, .int .u64 b] w fun e w' => e = .returned (.tuple #[.int .u64 (mul a b), .bool (mulOk a b)]) ∧ w = w' := by
  by_cases h0 : a = 0
  · subst h0
    rw [(mul_yes (by omega)).1, (mul_yes (by omega)).2, Int.zero_mul]
    go_enter Try.func40, Try.ntmps40
    go_wp2
    go_ret2
    exact ⟨rfl, rfl⟩
  · have hz : (a == 0) = false := by simpa using h0
    have hp : 0 < a := by omega
    have H : Hid (a * b ≤ 18446744073709551615 ↔ b ≤ 18446744073709551615 / a) := hide (by rw [Int.le_ediv_iff_mul_le hp, Int.mul_comm])
    by_cases h : 18446744073709551615 / a < b
    · have hn : ¬ a * b ≤ 18446744073709551615 := by rw [H.out]; omega
      rw [(mul_no hn).1, (mul_no hn).2]
      clear hn
      go_enter Try.func40, Try.ntmps40
      go_wp2
      go_ret2
      exact ⟨rfl, rfl⟩
    · have hn : a * b ≤ 18446744073709551615 := by rw [H.out]; omega
      have hq : 0 ≤ a * b := Int.mul_nonneg ha hb
      rw [(mul_yes hn).1, (mul_yes hn).2]
      go_enter Try.func40, Try.ntmps40
      go_wp2
      go_ret2
      exact ⟨rfl, rfl⟩

end Sat
end Go.Proofs.Ytgbbboodfgbfiaa
