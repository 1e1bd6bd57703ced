/-
  The laws of layer 1 (sat): each is true whatever the numbers are.
-/
import Derived.Test.YtgbbboodfgbfiaaSat
set_option linter.unusedVariables false
set_option linter.unusedSimpArgs false
namespace Go.Proofs.Ytgbbboodfgbfiaa
open Go.ChangeShapes Go.WideShapes Go.ChangeAt Go.RowKit
open Go.ChangeMaps (open_string shut_string)

theorem awake01 (w : World) : Calls Try.prog 26 #[] w fun e w' => e = .returned (.bool true) ∧ w = w' := by
  have h1 := fun w => Sat.add_any 18446744073709551615 1 (by omega) (by omega) (by omega) (by omega) w
  have h2 := fun w => Sat.fits_any 9223372036854775808 1 (by omega) (by omega) (by omega) (by omega) w
  have h3 := fun w => Sat.fits_any 9223372036854775808 0 (by omega) (by omega) (by omega) (by omega) w
  rw [show Sat.add 18446744073709551615 1 = 18446744073709551615 from by decide, show Sat.addOk 18446744073709551615 1 = false from by decide] at h1
  rw [show Sat.fits 9223372036854775808 1 = false from by decide] at h2
  rw [show Sat.fits 9223372036854775808 0 = true from by decide] at h3
  have H1 := hide h1
  have H2 := hide h2
  have H3 := hide h3
  clear h1 h2 h3
  go_enter Try.func26, Try.ntmps26
  go_wp2_with fail
  refine (H1.out _).mono ?_; rintro e w' ⟨rfl, rfl⟩
  go_wp2_with fail
  refine (H2.out _).mono ?_; rintro e w' ⟨rfl, rfl⟩
  go_wp2_with fail
  refine (H3.out _).mono ?_; rintro e w' ⟨rfl, rfl⟩
  go_wp2_with fail
  go_ret
  exact ⟨rfl, rfl⟩

namespace satSums
theorem walk (w : World) (a : Int) (a0 : 0 ≤ a) (a1 : a < 18446744073709551616) (b : Int) (b0 : 0 ≤ b) (b1 : b < 18446744073709551616) :
    Calls Try.prog 5 #[.int .u64 a, .int .u64 b] w fun e w' => e = .returned (.bool true) ∧ Below w.heap.size w w' := by
  go_enter Try.func5, Try.ntmps5
  go_wp2_with (first
    | (go_at_call 22; refine (Sat.add_any _ _ a0 a1 b0 b1 _).mono ?_; rintro e w' ⟨rfl, rfl⟩)
    | (go_at_call 23; refine (Sat.radd_any _ _ a0 a1 b0 b1 _).mono ?_; rintro e w' ⟨rfl, rfl⟩)
    | (go_at_call 24; refine (Sat.sub_any _ _ a0 a1 b0 b1 _).mono ?_; rintro e w' ⟨rfl, rfl⟩)
    | (go_at_call 25; refine (Sat.rsub_any _ _ a0 a1 b0 b1 _).mono ?_; rintro e w' ⟨rfl, rfl⟩)
    | (go_at_call 26; refine (awake01 _).mono ?_; rintro e w' ⟨rfl, rfl⟩))
  go_ret
  exact ⟨rfl, Below.refl _ _⟩

end satSums

namespace satMul
theorem walk (w : World) (a : Int) (a0 : 0 ≤ a) (a1 : a < 18446744073709551616) (b : Int) (b0 : 0 ≤ b) (b1 : b < 18446744073709551616) :
    Calls Try.prog 13 #[.int .u64 a, .int .u64 b] w fun e w' => e = .returned (.bool true) ∧ Below w.heap.size w w' := by
  have x0 : 0 ≤ a / 4294967296 := by omega
  have x1 : a / 4294967296 < 4294967296 := by omega
  have y0 : 0 ≤ b / 4294967296 := by omega
  have y1 : b / 4294967296 < 4294967296 := by omega
  have hp : 0 ≤ (a / 4294967296) * (b / 4294967296) := Int.mul_nonneg x0 y0
  have hq : (a / 4294967296) * (b / 4294967296) < 18446744073709551616 := by
    have := Int.mul_le_mul (show a / 4294967296 ≤ 4294967295 by omega) (show b / 4294967296 ≤ 4294967295 by omega) y0 (by omega)
    omega
  have hm := fun w => Sat.mul_any (a / 4294967296) (b / 4294967296) x0 (by omega) y0 (by omega) w
  rw [(Sat.mul_yes (by omega)).1, (Sat.mul_yes (by omega)).2] at hm
  have H := hide hm
  clear hm
  go_enter Try.func13, Try.ntmps13
  go_wp2_with fail
  refine (Sat.mul_any _ _ a0 a1 b0 b1 _).mono ?_; rintro e w' ⟨rfl, rfl⟩
  go_wp2_with fail
  refine (Sat.rmul_any _ _ a0 a1 b0 b1 _).mono ?_; rintro e w' ⟨rfl, rfl⟩
  go_wp2_with fail
  refine (H.out _).mono ?_; rintro e w' ⟨rfl, rfl⟩
  go_wp2_with (go_at_call 26; refine (awake01 _).mono ?_; rintro e w' ⟨rfl, rfl⟩)
  go_ret
  exact ⟨rfl, Below.refl _ _⟩
end satMul

namespace satBack
theorem plain (a b c : Int) (a0 : 0 ≤ a) (a1 : a < 18446744073709551616) (b0 : 0 ≤ b) (b1 : b < 18446744073709551616) (c0 : 0 ≤ c) (c1 : c < 18446744073709551616) :
    Sat.subOk (Sat.add a b) b = true ∧ (Sat.addOk a b = true → Sat.sub (Sat.add a b) b = a) ∧ Sat.add b a = Sat.add a b ∧ Sat.addOk b a = Sat.addOk a b ∧ Sat.add a (Sat.add b c) = Sat.add (Sat.add a b) c ∧ a ≤ Sat.add a b ∧ b ≤ Sat.add a b := by
  refine ⟨?_, ?_, ?_, ?_, ?_, ?_, ?_⟩
  · unfold Sat.subOk Sat.add; simp; split <;> omega
  · unfold Sat.sub Sat.add Sat.addOk; simp; intro h; rw [if_pos h]; rw [if_neg (by omega)]; omega
  · unfold Sat.add; rw [Int.add_comm b a]
  · unfold Sat.addOk; rw [Int.add_comm b a]
  · unfold Sat.add; split <;> split <;> split <;> (try split) <;> omega
  · unfold Sat.add; split <;> omega
  · unfold Sat.add; split <;> omega

theorem walk (w : World) (a : Int) (a0 : 0 ≤ a) (a1 : a < 18446744073709551616) (b : Int) (b0 : 0 ≤ b) (b1 : b < 18446744073709551616) (c : Int) (c0 : 0 ≤ c) (c1 : c < 18446744073709551616) :
    Calls Try.prog 6 #[.int .u64 a, .int .u64 b, .int .u64 c] w fun e w' => e = .returned (.bool true) ∧ Below w.heap.size w w' := by
  obtain ⟨p1, p2, p3, p4, p5, p6, p7⟩ := plain a b c a0 a1 b0 b1 c0 c1
  have hx := Sat.add_bd a b a0 b0
  have hq := Sat.add_bd b c b0 c0
  have hs := Sat.sub_bd (Sat.add a b) b hx.1 b0
  have H1 := hide (fun w => Sat.add_any a b a0 a1 b0 b1 w)
  have H2 := hide (fun w => Sat.sub_any (Sat.add a b) b hx.1 hx.2 b0 b1 w)
  have H3 := hide (fun w => Sat.add_any b a b0 b1 a0 a1 w)
  have H4 := hide (fun w => Sat.add_any (Sat.add a b) c hx.1 hx.2 c0 c1 w)
  have H5 := hide (fun w => Sat.add_any b c b0 b1 c0 c1 w)
  have H6 := hide (fun w => Sat.add_any a (Sat.add b c) a0 a1 hq.1 hq.2 w)
  rw [p1] at H2
  rw [p3, p4] at H3
  rw [p5] at H6
  have P2 := hide p2
  clear p1 p2 p3 p4 p5
  generalize Sat.add (Sat.add a b) c = t at *
  generalize Sat.addOk (Sat.add a b) c = t' at *
  generalize Sat.addOk a (Sat.add b c) = t2' at *
  generalize Sat.sub (Sat.add a b) b = s at *
  generalize Sat.add a b = x at *
  generalize Sat.add b c = q at *
  generalize Sat.addOk b c = q' at *
  generalize Sat.addOk a b = o at *
  have hsa : o = false ∨ (o = true ∧ s = a) := by
    cases o
    · exact .inl rfl
    · exact .inr ⟨rfl, P2.out rfl⟩
  clear P2
  rcases hsa with rfl | ⟨rfl, rfl⟩
  all_goals
    go_enter Try.func6, Try.ntmps6
    go_wp2_with fail
    refine (H1.out _).mono ?_; rintro e w' ⟨rfl, rfl⟩
    go_wp2_with fail
    refine (H2.out _).mono ?_; rintro e w' ⟨rfl, rfl⟩
    go_wp2_with fail
    refine (H3.out _).mono ?_; rintro e w' ⟨rfl, rfl⟩
    go_wp2_with fail
    refine (H4.out _).mono ?_; rintro e w' ⟨rfl, rfl⟩
    go_wp2_with fail
    refine (H5.out _).mono ?_; rintro e w' ⟨rfl, rfl⟩
    go_wp2_with fail
    refine (H6.out _).mono ?_; rintro e w' ⟨rfl, rfl⟩
    go_wp2_with (go_at_call 26; refine (awake01 _).mono ?_; rintro e w' ⟨rfl, rfl⟩)
    go_ret
    exact ⟨rfl, Below.refl _ _⟩
end satBack

namespace satFits
theorem plain (t p : Int) (t0 : 0 ≤ t) (t1 : t < 18446744073709551616) (hp : -9223372036854775808 ≤ p) (hp' : p < 9223372036854775808) :
    0 ≤ Sat.share t p ∧ Sat.share t p < 18446744073709551616 ∧ 0 ≤ Sat.share t p * max p 1 ∧ Sat.share t p * max p 1 ≤ t ∧ t - Sat.share t p * max p 1 < max p 1 := by
  unfold Sat.share
  split
  · rw [show max p 1 = 1 by omega]; omega
  · rename_i h
    have hp1 : 1 ≤ p := by omega
    rw [show max p 1 = p by omega]
    have h1 := Int.ediv_mul_le t (show p ≠ 0 by omega)
    have h2 := Int.lt_ediv_add_one_mul_self t (show 0 < p by omega)
    have h3 : 0 ≤ t / p := Int.ediv_nonneg t0 (by omega)
    have h4 : t / p ≤ t := Int.ediv_le_self p t0
    have h5 : (t / p + 1) * p = t / p * p + p := by rw [Int.add_mul, Int.one_mul]
    have h6 : 0 ≤ t / p * p := Int.mul_nonneg h3 (by omega)
    omega

theorem walk (w : World) (t : Int) (t0 : 0 ≤ t) (t1 : t < 18446744073709551616) (b : Int) (b0 : 0 ≤ b) (b1 : b < 18446744073709551616) (p : Int) (p0 : -9223372036854775808 ≤ p) (p1 : p < 9223372036854775808) :
    Calls Try.prog 14 #[.int .u64 t, .int .u64 b, .int .i64 p] w fun e w' => e = .returned (.bool true) ∧ Below w.heap.size w w' := by
  obtain ⟨q1, q2, q3, q4, q5⟩ := plain t p t0 t1 p0 p1
  have hm := fun w => Sat.mul_any (Sat.share t p) (max p 1) q1 q2 (by omega) (by omega) w
  rw [(Sat.mul_yes (by omega)).1, (Sat.mul_yes (by omega)).2] at hm
  have H := hide hm
  clear hm
  have H1 := hide (fun w => Sat.share_any t p t0 t1 p0 (by omega) w)
  have H2 := hide (fun w => Sat.rshare_any t p t0 t1 p0 (by omega) w)
  generalize Sat.share t p = n at *
  have hmax : 1 ≤ max p 1 := by omega
  have hmax' : max p 1 < 9223372036854775808 := by omega
  have F1 := hide (fun w => Sat.fits_any t b t0 t1 b0 b1 w)
  have F2 := hide (fun w => Sat.rfits_any t b t0 t1 b0 b1 w)
  generalize Sat.fits t b = f at *
  by_cases h : p < 1
  · rw [show max p 1 = 1 by omega] at *
    rw [Int.mul_one] at *
    go_enter Try.func14, Try.ntmps14
    go_wp2_with fail
    refine (H1.out _).mono ?_; rintro e w' ⟨rfl, rfl⟩
    go_wp2_with fail
    refine (H.out _).mono ?_; rintro e w' ⟨rfl, rfl⟩
    go_wp2_with fail
    refine (F1.out _).mono ?_; rintro e w' ⟨rfl, rfl⟩
    go_wp2_with fail
    refine (F2.out _).mono ?_; rintro e w' ⟨rfl, rfl⟩
    go_wp2_with fail
    refine (H2.out _).mono ?_; rintro e w' ⟨rfl, rfl⟩
    go_wp2_with (go_at_call 26; refine (awake01 _).mono ?_; rintro e w' ⟨rfl, rfl⟩)
    go_ret
    exact ⟨rfl, Below.refl _ _⟩
  · rw [show max p 1 = p by omega] at *
    generalize n * p = m at *
    go_enter Try.func14, Try.ntmps14
    go_wp2_with fail
    refine (H1.out _).mono ?_; rintro e w' ⟨rfl, rfl⟩
    go_wp2_with fail
    refine (H.out _).mono ?_; rintro e w' ⟨rfl, rfl⟩
    go_wp2_with fail
    refine (F1.out _).mono ?_; rintro e w' ⟨rfl, rfl⟩
    go_wp2_with fail
    refine (F2.out _).mono ?_; rintro e w' ⟨rfl, rfl⟩
    go_wp2_with fail
    refine (H2.out _).mono ?_; rintro e w' ⟨rfl, rfl⟩
    go_wp2_with (go_at_call 26; refine (awake01 _).mono ?_; rintro e w' ⟨rfl, rfl⟩)
    go_ret
    exact ⟨rfl, Below.refl _ _⟩
end satFits
end Go.Proofs.Ytgbbboodfgbfiaa
