/-
  slices.Clone at lines, bounds.Sort, Before. No conditions beyond those of the statement.
-/
import Derived.Test.YtmbgnekilgobaaaLs
set_option linter.unusedVariables false
set_option linter.unusedSimpArgs false
namespace Go.Proofs.Ytmbgnekilgobaaa
open Go.RowKit
theorem lnRd_len {w : World} {B n : Nat} {A : Option Addr} {l : List Ln} (h : Rd w B A 3 n (lnCs l)) : l.length = n := by
  have := h.1
  rw [lnCs_len] at this
  omega
set_option maxRecDepth 100000 in
theorem clone_ln {w : World} {B : Nat} {A : Option Addr} {n c : Nat} {l : List Ln} (hr : Rd w B A 3 n (lnCs l)) (hn : n ≤ 1000000) :
    Calls Try.prog 56 #[.slice A n c] w fun e w' => ∃ A' c', e = .returned (.slice A' n c') ∧ Lns w' w.heap.size A' n c' l ∧ Keeps (fun _ => False) w w' := by
  cases A with
  | none =>
    obtain rfl : n = 0 := by
      rcases Nat.eq_zero_or_pos n with h | h
      · exact h
      · obtain ⟨b, off, e, _⟩ := hr.2 h; cases e
    obtain rfl : l = [] := List.eq_nil_of_length_eq_zero (lnRd_len hr)
    clear hr
    have heq := fun w => Lib.run_eql_slice_nil (P := Try.prog) w 22 38 none 0 c 0 0 Try.underlying22
    go_enter Try.func56, Try.ntmps56
    go_wp2_with fail
    go_ret
    exact ⟨none, 0, rfl, Own.nil _ _ _ _, Keeps.refl _ _⟩
  | some ad =>
    have HR := hide hr
    clear hr
    have heq := fun w => Lib.run_eql_slice_nil (P := Try.prog) w 22 38 (some ad) n c 0 0 Try.underlying22
    go_enter Try.func56, Try.ntmps56
    go_wp2_with (at_builtin; refine wpList_app _ elemLn rfl _ _ rfl w.heap.size _ rfl (Own.new0 _ _ 38 3 _ (by simp) (by omega)) _ (m := n) _ rfl (HR.out.kept ((Keeps.refl (fun _ => False) w).alloc _) (fun _ _ h => h)) (lnCs_one l) (by simp [maxLen]; omega) (by omega) (by simp) ?_; intro A5 c5 w5 o5 k5 hA5; rw [Nat.zero_add, List.nil_append] at o5; have O5 := hide o5; have K5 := hide k5; clear o5 k5 hA5)
    go_ret
    exact ⟨A5, c5, rfl, O5.out, ((Keeps.refl _ w).alloc _).step K5.out (fun k hk h => by have := (inB_some _ _ _).1 h; omega)⟩
theorem bsort_any (w : World) (B : Nat) (A : Option Addr) (n c : Nat) (l : List Ln) (hr : Rd w B A 3 n (lnCs l)) (hn : n ≤ 1000000) :
    Calls Try.prog 23 #[.slice A n c] w fun e w' => ∃ A' c', e = .returned (.slice A' n c') ∧ Lns w' w.heap.size A' n c' (srtL l) ∧ Keeps (fun _ => False) w w' := by
  have HR := hide hr
  clear hr
  go_enter Try.func23, Try.ntmps23
  go_wp2_with fail
  refine (clone_ln HR.out hn).mono ?_
  rintro e w1 ⟨A1, c1, rfl, h1, k1⟩
  have H1 := hide h1
  have K1 := hide k1
  clear h1 k1
  go_wp2_with fail
  refine (sortStable_ok w1 w.heap.size A1 n c1 l H1.out hn).mono ?_
  rintro e w2 ⟨rfl, h2, k2⟩
  have H2 := hide h2
  have K2 := hide (K1.out.step k2 (fun k hk h => by have := H1.out.inB h; omega))
  clear h2 k2
  go_wp2_with fail
  go_ret
  exact ⟨A1, c1, rfl, H2.out, K2.out⟩
theorem before_any (a b : Ln) (w : World) : Calls Try.prog 24 #[.agg (lnC a).toArray, .agg (lnC b).toArray] w fun e w' => e = .returned (.bool (lnLt a b)) ∧ Keeps (fun _ => False) w w' := by
  obtain ⟨w2, hw2, k2, b1, b2⟩ := two_blk w a b 38
  have c2 := b1.cell 2
  have c0 := b1.cell 0
  have d2 := b2.cell 2
  have d0 := b2.cell 0
  have K2 := hide k2
  have HW2 := hide hw2
  clear k2 b1 b2 hw2
  rcases e1 : decide (b.hi < a.hi) with _ | _
  · rcases e2 : (a.hi == b.hi) with _ | _
    · have hv : Hid (lnLt a b = false) := hide (by simp [lnLt, e1, e2])
      unfold lnC at *
      go_enter Try.func24, Try.ntmps24
      go_upto_region 1 with fail
      rw [← HW2.out]
      generalize w.heap.size = X at *
      go_wp2_with fail
      go_ret
      exact ⟨ret_bool (by rw [hv.out]), K2.out⟩
    · have hv : Hid (lnLt a b = Op.bytesLess a.key.toList b.key.toList) := hide (by simp [lnLt, e1, e2])
      unfold lnC at *
      go_enter Try.func24, Try.ntmps24
      go_upto_region 1 with fail
      rw [← HW2.out]
      generalize w.heap.size = X at *
      go_wp2_with fail
      go_ret
      exact ⟨ret_bool (by rw [hv.out]), K2.out⟩
  · have hv : Hid (lnLt a b = true) := hide (by simp [lnLt, e1])
    unfold lnC at *
    go_enter Try.func24, Try.ntmps24
    go_upto_region 1 with fail
    rw [← HW2.out]
    generalize w.heap.size = X at *
    go_wp2_with fail
    go_ret
    exact ⟨ret_bool (by rw [hv.out]), K2.out⟩
theorem rbefore_any (a b : Ln) (w : World) : Calls Try.prog 27 #[.agg (lnC a).toArray, .agg (lnC b).toArray] w fun e w' => e = .returned (.bool (lnLt a b)) ∧ Keeps (fun _ => False) w w' := by
  obtain ⟨w2, hw2, k2, b1, b2⟩ := two_blk w a b 38
  have c2 := b1.cell 2
  have c0 := b1.cell 0
  have d2 := b2.cell 2
  have d0 := b2.cell 0
  have K2 := hide k2
  have HW2 := hide hw2
  clear k2 b1 b2 hw2
  rcases e1 : decide (b.hi < a.hi) with _ | _
  · rcases e2 : (a.hi == b.hi) with _ | _
    · have hv : Hid (lnLt a b = false) := hide (by simp [lnLt, e1, e2])
      unfold lnC at *
      go_enter Try.func27, Try.ntmps27
      go_upto_region 1 with fail
      rw [← HW2.out]
      generalize w.heap.size = X at *
      go_wp2_with fail
      go_ret
      exact ⟨ret_bool (by rw [hv.out]), K2.out⟩
    · have hv : Hid (lnLt a b = Op.bytesLess a.key.toList b.key.toList) := hide (by simp [lnLt, e1, e2])
      unfold lnC at *
      go_enter Try.func27, Try.ntmps27
      go_upto_region 1 with fail
      rw [← HW2.out]
      generalize w.heap.size = X at *
      go_wp2_with fail
      go_ret
      exact ⟨ret_bool (by rw [hv.out]), K2.out⟩
  · have hv : Hid (lnLt a b = true) := hide (by simp [lnLt, e1])
    unfold lnC at *
    go_enter Try.func27, Try.ntmps27
    go_upto_region 1 with fail
    rw [← HW2.out]
    generalize w.heap.size = X at *
    go_wp2_with fail
    go_ret
    exact ⟨ret_bool (by rw [hv.out]), K2.out⟩
end Go.Proofs.Ytmbgnekilgobaaa
