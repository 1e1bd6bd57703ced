
/-
  top.Select and the reference's Select at lines. No conditions beyond those of the statement.
-/
import Derived.Test.YtmbgnekilgobaaaLx
set_option linter.unusedVariables false
set_option linter.unusedSimpArgs false
namespace Go.Proofs.Ytmbgnekilgobaaa
open Go.RowKit
/-- how many lines are listed -/
def selN (k : Int) (n : Nat) : Nat := min k.toNat n
theorem selN_le (k : Int) (n : Nat) : selN k n ≤ n := Nat.min_le_right _ _
/-- what Select gives: the first lines, and the others -/
def SelPost (w : World) (n : Nat) (k : Int) (l : List Ln) (e : Ending) (w' : World) : Prop :=
  ∃ A' c' B' c'', e = .returned (.tuple #[.slice A' (selN k n) c', .slice B' (n - selN k n) c'']) ∧ Rd w' w'.heap.size A' 3 (selN k n) (lnCs ((srtL l).take (selN k n))) ∧ Rd w' w'.heap.size B' 3 (n - selN k n) (lnCs ((srtL l).drop (selN k n))) ∧ Keeps (fun _ => False) w w'
theorem sel_form (k : Int) (n : Nat) : (if (n : Int) < (if k < 0 then 0 else k) then (n : Int) else if k < 0 then 0 else k) = ((selN k n : Nat) : Int) := by
  have e : (if k < 0 then (0 : Int) else k) = (k.toNat : Int) := by split <;> omega
  rw [e]
  unfold selN
  split <;> omega
set_option maxRecDepth 100000 in
set_option maxHeartbeats 400000 in
theorem select_any (w : World) (B : Nat) (A : Option Addr) (n c : Nat) (l : List Ln) (k : Int) (hr : Rd w B A 3 n (lnCs l)) (hn : n ≤ 1000000) (k0 : -9223372036854775808 ≤ k) (k1 : k < 9223372036854775808) :
    Calls Try.prog 18 #[.slice A n c, .int .i64 k] w (SelPost w n k l) := by
  have HR := hide hr
  obtain ⟨q, hq⟩ : ∃ q, q = selN k n := ⟨_, rfl⟩
  have hqn : q ≤ n := by rw [hq]; exact selN_le _ _
  have he := sel_form k n
  rw [← hq] at he
  have HQ := hide hq
  have HE := hide he
  clear hr hq he
  go_enter Try.func18, Try.ntmps18
  go_wp2_with fail
  refine (bsort_any w B A n c l HR.out hn).mono ?_
  rintro e w1 ⟨A1, c1, rfl, h1, kk1⟩
  have H1 := hide h1
  have K1 := hide kk1
  clear h1 kk1
  go_upto_region 3 with fail
  rw [HE.out]
  generalize (if k < 0 then (0 : Int) else k) = kq
  clear HE
  have hnc := H1.out.le
  obtain ⟨Da, hsa, hra, hia⟩ := sub_hi elemLn A1 n c1 .i64 (q : Int) (by omega) (by omega) hnc
  obtain ⟨Db, hsb, hrb, hib⟩ := sub_lo elemLn A1 n c1 .i64 (q : Int) (by omega) (by omega) hnc
  rw [show ((q : Nat) : Int).toNat = q from by omega] at hsb hrb hsa hra
  have RA := hide (hra _ _ _ (H1.out.rd (by omega)))
  have RB := hide (hrb _ _ _ (H1.out.rd (by omega)))
  rw [lnCs_take] at RA
  rw [lnCs_drop] at RB
  clear hra hrb hia hib
  refine wp_region_held_drew (S := fun W => Keeps (fun _ => False) w1 W) (by kernel_rfl) ((Keeps.refl _ _).drew) (fun hHeld => ?_)
  refine wpAnyH_take (i := 0) (v := ?_) rfl (by kernel_rfl) (by kernel_rfl) (by kernel_rfl) (fun _ _ _ h => h) (Or.inl ⟨by first | kernel_rfl | rfl, ?_⟩) (by assumption) ?_; rotate_left; focus (intro w hSw; (try dsimp only at hSw); go_simp; try (with_reducible rfl)); (try simp only [Act.put, List.getElem_toArray, List.getElem_cons_succ, List.getElem_cons_zero, List.setIfInBounds_toArray, List.set_cons_zero, List.set_cons_succ])
  refine wpAnyH_take (i := 1) (v := ?_) rfl (by kernel_rfl) (by kernel_rfl) (by kernel_rfl) (fun _ _ _ h => h) (Or.inl ⟨by first | kernel_rfl | rfl, ?_⟩) (by assumption) ?_; rotate_left; focus (intro w hSw; (try dsimp only at hSw); go_simp; try (with_reducible rfl)); (try simp only [Act.put, List.getElem_toArray, List.getElem_cons_succ, List.getElem_cons_zero, List.setIfInBounds_toArray, List.set_cons_zero, List.set_cons_succ])
  refine wpAnyH_take (i := 2) (v := ?_) rfl (by kernel_rfl) (by kernel_rfl) (by kernel_rfl) (fun _ _ _ h => h) (Or.inl ⟨by first | kernel_rfl | rfl, ?_⟩) (by assumption) ?_; rotate_left; focus (intro w hSw; (try dsimp only at hSw); go_simp; try (with_reducible rfl)); (try simp only [Act.put, List.getElem_toArray, List.getElem_cons_succ, List.getElem_cons_zero, List.setIfInBounds_toArray, List.set_cons_zero, List.set_cons_succ])
  refine wpAnyH_take (i := 3) (v := ?_) rfl (by kernel_rfl) (by kernel_rfl) (by kernel_rfl) (fun _ _ _ h => h) (Or.inl ⟨by first | kernel_rfl | rfl, ?_⟩) (by assumption) ?_; rotate_left; focus (intro w hSw; (try dsimp only at hSw); go_simp; try (with_reducible rfl)); (try simp only [Act.put, List.getElem_toArray, List.getElem_cons_succ, List.getElem_cons_zero, List.setIfInBounds_toArray, List.set_cons_zero, List.set_cons_succ])
  refine wpAnyH_take (i := 5) (v := ?_) rfl (by kernel_rfl) (by kernel_rfl) (by kernel_rfl) (fun _ _ _ h => h) (Or.inl ⟨by first | kernel_rfl | rfl, ?_⟩) (by assumption) ?_; rotate_left; focus (intro w hSw; (try dsimp only at hSw); go_simp; try (with_reducible rfl)); (try simp only [Act.put, List.getElem_toArray, List.getElem_cons_succ, List.getElem_cons_zero, List.setIfInBounds_toArray, List.set_cons_zero, List.set_cons_succ])
  refine wpAnyH_take (i := 6) (v := ?_) rfl (by kernel_rfl) (by kernel_rfl) (by kernel_rfl) (fun _ _ _ h => h) (Or.inl ⟨by first | kernel_rfl | rfl, ?_⟩) (by assumption) ?_; rotate_left; focus (intro w hSw; (try dsimp only at hSw); go_simp; try (with_reducible rfl)); (try simp only [Act.put, List.getElem_toArray, List.getElem_cons_succ, List.getElem_cons_zero, List.setIfInBounds_toArray, List.set_cons_zero, List.set_cons_succ])
  refine wpAnyH_take (i := 7) (v := ?_) rfl (by kernel_rfl) (by kernel_rfl) (by kernel_rfl) (fun _ _ _ h => h) (Or.inl ⟨by first | kernel_rfl | rfl, ?_⟩) (by assumption) ?_; rotate_left; focus (intro w hSw; (try dsimp only at hSw); go_simp; try (with_reducible rfl)); (try simp only [Act.put, List.getElem_toArray, List.getElem_cons_succ, List.getElem_cons_zero, List.setIfInBounds_toArray, List.set_cons_zero, List.set_cons_succ])
  refine wpAnyH_take (i := 8) (v := ?_) rfl (by kernel_rfl) (by kernel_rfl) (by kernel_rfl) (fun _ _ _ h => h) (Or.inl ⟨by first | kernel_rfl | rfl, ?_⟩) (by assumption) ?_; rotate_left; focus (intro w hSw; (try dsimp only at hSw); go_simp; try (with_reducible rfl)); (try simp only [Act.put, List.getElem_toArray, List.getElem_cons_succ, List.getElem_cons_zero, List.setIfInBounds_toArray, List.set_cons_zero, List.set_cons_succ])
  refine wpAnyH_ready (rs := [4]) (by kernel_rfl) (by simp) ?_
  refine AllReadyH.cons rfl (fun K hK => ?_) AllReadyH.nil
  refine step_app _ elemLn (by rfl) (.tmp 14) (.tmp 17) (by rfl) w1.heap.size (A := none) (n := 0) (c := 0) [] (by simp [Act.eval, Act.put]) (Own.nil _ _ _ _) w1.heap.size (A2 := Da) (m := q) (c2 := c1) (lnCs (List.take q (srtL l))) (by simp [Act.eval, Act.put]) ?h1 (lnCs_one _) (by simp only [maxLen]; omega) (by omega) ?h2 ?_
  case h1 => exact RA.out.drew
  case h2 => exact Nat.le_refl _
  trace "APP"
  intro A7 c7 w7 o7 k7 hA7
  rw [Nat.zero_add, List.nil_append] at o7
  have OA := hide o7
  have K7 := hide (((Keeps.refl (fun _ => False) w1).drew).step k7 (fun q hq h => inB_none _ h))
  clear o7 k7 hA7
  rw [Nat.zero_add]
  refine hK.out _ _ K7.out (fun _ => ?_)
  clear hK K
  (try simp only [Act.put, List.getElem_toArray, List.getElem_cons_succ, List.getElem_cons_zero, List.setIfInBounds_toArray, List.set_cons_zero, List.set_cons_succ])
  refine wpAnyH_ready (rs := [9]) (by kernel_rfl) (by simp) ?_
  refine AllReadyH.cons rfl (fun K hK => ?_) AllReadyH.nil
  refine step_app _ elemLn (by rfl) (.tmp 19) (.tmp 22) (by rfl) w1.heap.size (A := none) (n := 0) (c := 0) [] (by simp [Act.eval, Act.put]) (Own.nil _ _ _ _) w1.heap.size (A2 := Db) (m := n - q) (c2 := c1 - q) (lnCs (List.drop q (srtL l))) (by simp [Act.eval, Act.put]) ?h3 (lnCs_one _) (by simp only [maxLen]; omega) (by omega) ?h4 ?_
  case h3 => exact RB.out.kept K7.out (fun _ _ h => h)
  case h4 => exact K7.out.size
  trace "APP2"
  intro A8 c8 w8 o8 k8 hA8
  rw [Nat.zero_add, List.nil_append] at o8
  have OB := hide o8
  have K8 := hide (K7.out.step k8 (fun q hq h => inB_none _ h))
  have OA8 := hide (OA.out.kept k8 (fun _ _ h => inB_none _ h))
  clear o8 k8 hA8
  rw [Nat.zero_add]
  refine hK.out _ _ K8.out (fun _ => ?_)
  clear hK K
  (try simp only [Act.put, List.getElem_toArray, List.getElem_cons_succ, List.getElem_cons_zero, List.setIfInBounds_toArray, List.set_cons_zero, List.set_cons_succ])
  refine wpAnyH_take (i := 10) (v := ?_) rfl (by kernel_rfl) (by kernel_rfl) (by kernel_rfl) (fun _ _ _ h => h) (Or.inl ⟨by first | kernel_rfl | rfl, ?_⟩) (by assumption) ?_; rotate_left; focus (intro w hSw; (try dsimp only at hSw); go_simp; try (with_reducible rfl)); (try simp only [Act.put, List.getElem_toArray, List.getElem_cons_succ, List.getElem_cons_zero, List.setIfInBounds_toArray, List.set_cons_zero, List.set_cons_succ])
  refine wpAnyH_take (i := 11) (v := ?_) rfl (by kernel_rfl) (by kernel_rfl) (by kernel_rfl) (fun _ _ _ h => h) (Or.inl ⟨by first | kernel_rfl | rfl, ?_⟩) (by assumption) ?_; rotate_left; focus (intro w hSw; (try dsimp only at hSw); go_simp; try (with_reducible rfl)); (try simp only [Act.put, List.getElem_toArray, List.getElem_cons_succ, List.getElem_cons_zero, List.setIfInBounds_toArray, List.set_cons_zero, List.set_cons_succ])
  refine wpAnyH_done (by kernel_rfl) ?_ _
  (try simp only [Act.put, List.getElem_toArray, List.getElem_cons_succ, List.getElem_cons_zero, List.setIfInBounds_toArray, List.set_cons_zero, List.set_cons_succ])
  trace "DONE"
  go_wp2_with fail
  go_ret2
  refine ⟨A7, c7, A8, c8, by rw [← HQ.out]; rfl, ?_, ?_, K1.out.trans K8.out⟩
  · rw [← HQ.out]; exact OA8.out.rd (by omega)
  · rw [← HQ.out]; exact OB.out.rd (by omega)
set_option maxRecDepth 100000 in
set_option maxHeartbeats 2000000 in
theorem rselect_any (w : World) (B : Nat) (A : Option Addr) (n c : Nat) (l : List Ln) (k : Int) (hr : Rd w B A 3 n (lnCs l)) (hn : n ≤ 1000000) (k0 : -9223372036854775808 ≤ k) (k1 : k < 9223372036854775808) :
    Calls Try.prog 19 #[.slice A n c, .int .i64 k] w (SelPost w n k l) := by
  have HR := hide hr
  obtain ⟨q, hq⟩ : ∃ q, q = selN k n := ⟨_, rfl⟩
  have hqn : q ≤ n := by rw [hq]; exact selN_le _ _
  have he := sel_form k n
  rw [← hq] at he
  have HQ := hide hq
  have HE := hide he
  clear hr hq he
  go_enter Try.func19, Try.ntmps19
  go_wp2_with fail
  refine (rsort_any w B A n c l HR.out hn).mono ?_
  rintro e w1 ⟨A1, c1, rfl, h1, kk1⟩
  have H1 := hide h1
  have K1 := hide kk1
  clear h1 kk1
  go_upto_region 3 with fail
  rw [HE.out]
  generalize (if k < 0 then (0 : Int) else k) = kq
  clear HE
  have hnc := H1.out.le
  obtain ⟨Da, hsa, hra, hia⟩ := sub_hi elemLn A1 n c1 .i64 (q : Int) (by omega) (by omega) hnc
  obtain ⟨Db, hsb, hrb, hib⟩ := sub_lo elemLn A1 n c1 .i64 (q : Int) (by omega) (by omega) hnc
  rw [show ((q : Nat) : Int).toNat = q from by omega] at hsb hrb hsa hra
  have RA := hide (hra _ _ _ (H1.out.rd (by omega)))
  have RB := hide (hrb _ _ _ (H1.out.rd (by omega)))
  rw [lnCs_take] at RA
  rw [lnCs_drop] at RB
  clear hra hrb hia hib
  go_quiet (fail)
  go_wp2_with fail
  go_ret2
  refine ⟨Da, c1, Db, c1 - q, by rw [← HQ.out]; rfl, ?_, ?_, K1.out.drewN _⟩
  · rw [← HQ.out]; exact RA.out.drewN _
  · rw [← HQ.out]; exact RB.out.drewN _
end Go.Proofs.Ytmbgnekilgobaaa
