
/-
  BoundsSort: for every input the law returns true. No conditions beyond those of the statement.
-/
import Derived.Test.YtmbgnekilgobaaaLy
import Derived.Test.YtmbgnekilgobaaaArgT
set_option linter.unusedVariables false
set_option linter.unusedSimpArgs false
namespace Go.Proofs.Ytmbgnekilgobaaa
open Go.RowKit
namespace boundsSort
set_option maxRecDepth 100000 in
set_option maxHeartbeats 2000000 in
theorem main (w : World) (A : Option Addr) (n c : Nat) (L : List Ln) (r : Rd w w.heap.size A 3 n (lnCs L)) (A2 : Option Addr) (n2 c2 : Nat) (z : List Int) (r2 : Rd w w.heap.size A2 1 n2 (z.map (.int .i64))) (b2 : ∀ v ∈ z, -9223372036854775808 ≤ v ∧ v < 9223372036854775808) (hn2 : n2 ≤ 35184372088832) (hn : n ≤ 140737488351232) :
    Calls Try.prog 8 #[.slice A n c, .slice A2 n2 c2] w fun e w' => e = .returned (.bool true) ∧ Keeps (fun _ => False) w w' := by
  by_cases h80 : 80 < n
  · have e1 : decide (80 < n) = true := by simpa using h80
    go_enter Try.func8, Try.ntmps8
    go_wp2_with fail
    refine (awake18 _).mono ?_
    rintro e w1 ⟨rfl, k1⟩
    have K1 := hide k1
    clear k1
    go_wp2_with fail
    go_ret
    exact ⟨rfl, K1.out⟩
  have e1 : decide (80 < n) = false := by simpa using h80
  have HR := hide r
  have hn80 : n ≤ 80 := by omega
  clear r h80
  go_enter Try.func8, Try.ntmps8
  go_wp2_with fail
  refine (new_deck A2 n2 c2 z w.heap.size w (Nat.le_refl _) r2 b2 hn2).mono ?_
  rintro e w1 ⟨rfl, d1, k1⟩
  have D1 := hide d1
  have K1 := hide k1
  clear d1 k1 r2 b2
  go_wp2_with fail
  refine (lines_any 30 (by omega) (by omega) w.heap.size _ w1 D1.out).mono ?_
  rintro e w2 ⟨A1, k, c1, l, rfl, hk, hS, o1, d2, k2⟩
  have O1 := hide o1
  have K2 := hide (K1.out.step k2 (fun q hq e => by omega))
  have hk30 : k ≤ 30 := by omega
  clear o1 d2 k2 hS hk D1 K1
  go_upto_region 5 with fail
  obtain ⟨gX, hgX⟩ : ∃ gX, gX = w2.heap.size := ⟨_, rfl⟩
  obtain ⟨w3, hw3⟩ : ∃ w3, w3 = w2.alloc (.cells #[.slice A n c, .slice A1 k c1] 22) := ⟨_, rfl⟩
  rw [← hgX, ← hw3]
  have k3 : Keeps (fun _ => False) w2 w3 := by rw [hw3]; exact (Keeps.refl _ _).alloc _
  have bX : Blk w3 gX 22 #[.slice A n c, .slice A1 k c1] := by rw [hw3, hgX]; exact Blk.new _ _ _
  have hX : Hid (∀ i, i < 2 → ∃ AX nX cX LX, w3.cell? ⟨gX, i, none⟩ = some (.slice AX nX cX) ∧ Rd w3 w3.heap.size AX 3 nX (lnCs LX) ∧ nX ≤ 80) := hide (by
    intro i hi
    rcases i with _ | _ | i
    · exact ⟨A, n, c, L, bX.cell 0, (((HR.out.kept K2.out (fun _ _ h => h)).kept k3 (fun _ _ h => h)).more (by have := K2.out.size; have := k3.size; omega)), hn80⟩
    · exact ⟨A1, k, c1, l, bX.cell 1, (((O1.out.rd (by omega)).kept k3 (fun _ _ h => h)).more k3.size), by omega⟩
    · omega)
  have K3 := hide (K2.out.trans k3)
  clear hw3 hgX k3 bX O1 K2 HR
  go_loopw [20] (fun iv wr => ∃ i : Nat, i ≤ 2 ∧ iv = .int .i64 (i : Int) ∧ Hid (Keeps (fun _ => False) w3 wr)) (fun iv _ => 2 - (intOf iv).toNat)
  case atStart => exact ⟨0, by omega, rfl, hide (Keeps.refl _ _)⟩
  case round =>
    obtain ⟨i, hi, rfl, K4⟩ := hrel
    obtain ⟨wo, rfl⟩ : ∃ wo : World, wo = wr := ⟨_, rfl⟩
    by_cases hlt : i < 2
    · have e2 : decide (i < 2) = true := by simpa using hlt
      obtain ⟨AX, nX, cX, LX, hc, hr, hnX⟩ := hX.out i hlt
      have hcw := K4.out.cell_some hc (fun h => h)
      have HRX := hide (hr.kept K4.out (fun _ _ h => h))
      have hiI : (i : Int) < 2 := by omega
      have hlX := hide (lnRd_len hr)
      clear hc hr
      go_wp2_with fail
      refine (bsort_any _ _ _ _ _ LX HRX.out (by omega)).mono ?_
      rintro e w5 ⟨A5, c5, rfl, o5, k5⟩
      have R5 := hide (o5.rd (by omega))
      have RX5 := hide (HRX.out.kept k5 (fun _ _ h => h))
      have K5 := hide (K4.out.trans k5)
      clear o5 k5 hcw
      go_wp2_with fail
      refine (rsort_any _ _ _ _ _ LX RX5.out (by omega)).mono ?_
      rintro e w6 ⟨A6, c6, rfl, o6, k6⟩
      have R6 := hide (o6.rd (by omega))
      have R56 := hide (R5.out.kept k6 (fun _ _ h => h))
      have RX6 := hide (RX5.out.kept k6 (fun _ _ h => h))
      have K6 := hide (K5.out.trans k6)
      clear o6 k6
      go_wp2_with fail
      refine (sameLines_any _ _ _ _ _ _ _ _ _ R56.out R6.out (by omega)).mono ?_
      rintro e w7 ⟨rfl, kd, rfl⟩
      have RX7 := hide (RX6.out.drewN kd)
      have K7 := hide (K6.out.drewN kd)
      generalize w6.drewN kd = w7 at *
      clear HRX RX5 R5 K4 K5 R6 R56 RX6 K6
      go_upto_region 10 with fail
      go_loopw [8] (fun jv wr => ∃ j : Nat, 1 ≤ j ∧ (j ≤ nX ∨ j = 1) ∧ jv = .int .i64 (j : Int) ∧ Hid (Keeps (fun _ => False) w7 wr)) (fun jv _ => nX - (intOf jv).toNat)
      case atStart => exact ⟨1, by omega, .inr rfl, rfl, hide (Keeps.refl _ _)⟩
      case round =>
        obtain ⟨j, hj1, hj2, rfl, K8⟩ := hrel
        obtain ⟨wi, rfl⟩ : ∃ wi : World, wi = wr := ⟨_, rfl⟩
        by_cases hjn : j < nX
        · have e3 : decide (j < nX) = true := by simpa using hjn
          obtain ⟨p, hp⟩ : ∃ p, j = p + 1 := ⟨j - 1, by omega⟩
          obtain ⟨x, hx⟩ : ∃ x, LX[p]? = some x := ⟨LX[p]'(by rw [hlX.out]; omega), List.getElem?_eq_getElem _⟩
          obtain ⟨y, hy⟩ : ∃ y, LX[j]? = some y := ⟨LX[j]'(by rw [hlX.out]; omega), List.getElem?_eq_getElem _⟩
          obtain ⟨b3, off3, rfl, _, q0, q1, q2⟩ := lnRd_at (RX7.out.kept K8.out (fun _ _ h => h)) hx (by omega)
          obtain ⟨b4, off4, hA, _, t0, t1, t2⟩ := lnRd_at (RX7.out.kept K8.out (fun _ _ h => h)) hy (by omega)
          injection hA with hA
          injection hA with hA1 hA2 _
          subst hA1 hA2
          have wp : IntKind.i64.wrap ((j : Int) - 1) = (p : Int) := by rw [IntWalk.i64_in _ (by omega)]; omega
          have hpI : (p : Int) < (nX : Int) := by omega
          have hp0 : (0 : Int) ≤ (p : Int) := by omega
          have hjI : (j : Int) < (nX : Int) := by omega
          have hj0 : (0 : Int) ≤ (j : Int) := by omega
          clear hx hy hp
          go_upto_region 12 with fail
          have HSg : Hid (∀ W, Keeps (fun _ => False) wi W → (Keeps (fun _ => False) wi W ∧ W.cell? ⟨b3, off3 + p * 3, none⟩ = some (.string x.key) ∧ W.cell? ⟨b3, off3 + p * 3 + 1, none⟩ = some (.int .u64 x.lo) ∧ W.cell? ⟨b3, off3 + p * 3 + 2, none⟩ = some (.int .u64 x.hi) ∧ W.cell? ⟨b3, off3 + j * 3, none⟩ = some (.string y.key) ∧ W.cell? ⟨b3, off3 + j * 3 + 1, none⟩ = some (.int .u64 y.lo) ∧ W.cell? ⟨b3, off3 + j * 3 + 2, none⟩ = some (.int .u64 y.hi))) := hide (fun W kW => ⟨kW, kW.cell_some q0 (fun h => h), kW.cell_some q1 (fun h => h), kW.cell_some q2 (fun h => h), kW.cell_some t0 (fun h => h), kW.cell_some t1 (fun h => h), kW.cell_some t2 (fun h => h)⟩)
          refine wp_region_held_drew (S := fun W => Keeps (fun _ => False) wi W ∧ W.cell? ⟨b3, off3 + p * 3, none⟩ = some (.string x.key) ∧ W.cell? ⟨b3, off3 + p * 3 + 1, none⟩ = some (.int .u64 x.lo) ∧ W.cell? ⟨b3, off3 + p * 3 + 2, none⟩ = some (.int .u64 x.hi) ∧ W.cell? ⟨b3, off3 + j * 3, none⟩ = some (.string y.key) ∧ W.cell? ⟨b3, off3 + j * 3 + 1, none⟩ = some (.int .u64 y.lo) ∧ W.cell? ⟨b3, off3 + j * 3 + 2, none⟩ = some (.int .u64 y.hi)) (by kernel_rfl) (HSg.out _ ((Keeps.refl _ _).drew)) (fun hHeld => ?_)
          refine wpAnyH_take (i := 0) (v := ?_) rfl (by kernel_rfl) (by kernel_rfl) (by kernel_rfl) (fun _ _ _ h => h) (Or.inl ⟨by first | kernel_rfl | rfl, ?_⟩) (by assumption) ?_; rotate_left; focus (intro w hSw; (try dsimp only at hSw); go_simp; try (with_reducible rfl)); (try simp only [Act.put, List.getElem_toArray, List.getElem_cons_succ, List.getElem_cons_zero, List.setIfInBounds_toArray, List.set_cons_zero, List.set_cons_succ])
          refine wpAnyH_take (i := 1) (v := ?_) rfl (by kernel_rfl) (by kernel_rfl) (by kernel_rfl) (fun _ _ _ h => h) (Or.inl ⟨by first | kernel_rfl | rfl, ?_⟩) (by assumption) ?_; rotate_left; focus (intro w hSw; (try dsimp only at hSw); go_simp; try (with_reducible rfl)); (try simp only [Act.put, List.getElem_toArray, List.getElem_cons_succ, List.getElem_cons_zero, List.setIfInBounds_toArray, List.set_cons_zero, List.set_cons_succ])
          refine wpAnyH_take (i := 2) (v := ?_) rfl (by kernel_rfl) (by kernel_rfl) (by kernel_rfl) (fun _ _ _ h => h) (Or.inl ⟨by first | kernel_rfl | rfl, ?_⟩) (by assumption) ?_; rotate_left; focus (intro w hSw; (try dsimp only at hSw); go_simp; try (with_reducible rfl)); (try simp only [Act.put, List.getElem_toArray, List.getElem_cons_succ, List.getElem_cons_zero, List.setIfInBounds_toArray, List.set_cons_zero, List.set_cons_succ])
          refine wpAnyH_take (i := 3) (v := ?_) rfl (by kernel_rfl) (by kernel_rfl) (by kernel_rfl) (fun _ _ _ h => h) (Or.inl ⟨by first | kernel_rfl | rfl, ?_⟩) (by assumption) ?_; rotate_left; focus (intro w hSw; (try dsimp only at hSw); go_simp; try (with_reducible rfl)); (try simp only [Act.put, List.getElem_toArray, List.getElem_cons_succ, List.getElem_cons_zero, List.setIfInBounds_toArray, List.set_cons_zero, List.set_cons_succ])
          refine wpAnyH_take (i := 4) (v := ?_) rfl (by kernel_rfl) (by kernel_rfl) (by kernel_rfl) (fun _ _ _ h => h) (Or.inl ⟨by first | kernel_rfl | rfl, ?_⟩) (by assumption) ?_; rotate_left; focus (intro w hSw; (try dsimp only at hSw); go_simp; try (with_reducible rfl)); (try simp only [Act.put, List.getElem_toArray, List.getElem_cons_succ, List.getElem_cons_zero, List.setIfInBounds_toArray, List.set_cons_zero, List.set_cons_succ])
          refine wpAnyH_take (i := 5) (v := ?_) rfl (by kernel_rfl) (by kernel_rfl) (by kernel_rfl) (fun _ _ _ h => h) (Or.inl ⟨by first | kernel_rfl | rfl, ?_⟩) (by assumption) ?_; rotate_left; focus (intro w hSw; (try dsimp only at hSw); go_simp; try (with_reducible rfl)); (try simp only [Act.put, List.getElem_toArray, List.getElem_cons_succ, List.getElem_cons_zero, List.setIfInBounds_toArray, List.set_cons_zero, List.set_cons_succ])
          refine wpAnyH_take (i := 6) (v := ?_) rfl (by kernel_rfl) (by kernel_rfl) (by kernel_rfl) (fun _ _ _ h => h) (Or.inl ⟨by first | kernel_rfl | rfl, ?_⟩) (by assumption) ?_; rotate_left; focus (intro w hSw; (try dsimp only at hSw); go_simp; try (with_reducible rfl)); (try simp only [Act.put, List.getElem_toArray, List.getElem_cons_succ, List.getElem_cons_zero, List.setIfInBounds_toArray, List.set_cons_zero, List.set_cons_succ])
          refine wpAnyH_take (i := 7) (v := ?_) rfl (by kernel_rfl) (by kernel_rfl) (by kernel_rfl) (fun _ _ _ h => h) (Or.inl ⟨by first | kernel_rfl | rfl, ?_⟩) (by assumption) ?_; rotate_left; focus (intro w hSw; (try dsimp only at hSw); go_simp; try (with_reducible rfl)); (try simp only [Act.put, List.getElem_toArray, List.getElem_cons_succ, List.getElem_cons_zero, List.setIfInBounds_toArray, List.set_cons_zero, List.set_cons_succ])
          refine wpAnyH_take (i := 8) (v := ?_) rfl (by kernel_rfl) (by kernel_rfl) (by kernel_rfl) (fun _ _ _ h => h) (Or.inl ⟨by first | kernel_rfl | rfl, ?_⟩) (by assumption) ?_; rotate_left; focus (intro w hSw; (try dsimp only at hSw); go_simp; try (with_reducible rfl)); (try simp only [Act.put, List.getElem_toArray, List.getElem_cons_succ, List.getElem_cons_zero, List.setIfInBounds_toArray, List.set_cons_zero, List.set_cons_succ])
          refine wpAnyH_take (i := 10) (v := ?_) rfl (by kernel_rfl) (by kernel_rfl) (by kernel_rfl) (fun _ _ _ h => h) (Or.inl ⟨by first | kernel_rfl | rfl, ?_⟩) (by assumption) ?_; rotate_left; focus (intro w hSw; (try dsimp only at hSw); go_simp; try (with_reducible rfl)); (try simp only [Act.put, List.getElem_toArray, List.getElem_cons_succ, List.getElem_cons_zero, List.setIfInBounds_toArray, List.set_cons_zero, List.set_cons_succ])
          refine wpAnyH_take (i := 11) (v := ?_) rfl (by kernel_rfl) (by kernel_rfl) (by kernel_rfl) (fun _ _ _ h => h) (Or.inl ⟨by first | kernel_rfl | rfl, ?_⟩) (by assumption) ?_; rotate_left; focus (intro w hSw; (try dsimp only at hSw); go_simp; try (with_reducible rfl)); (try simp only [Act.put, List.getElem_toArray, List.getElem_cons_succ, List.getElem_cons_zero, List.setIfInBounds_toArray, List.set_cons_zero, List.set_cons_succ])
          refine wpAnyH_take (i := 12) (v := ?_) rfl (by kernel_rfl) (by kernel_rfl) (by kernel_rfl) (fun _ _ _ h => h) (Or.inl ⟨by first | kernel_rfl | rfl, ?_⟩) (by assumption) ?_; rotate_left; focus (intro w hSw; (try dsimp only at hSw); go_simp; try (with_reducible rfl)); (try simp only [Act.put, List.getElem_toArray, List.getElem_cons_succ, List.getElem_cons_zero, List.setIfInBounds_toArray, List.set_cons_zero, List.set_cons_succ])
          refine wpAnyH_take (i := 13) (v := ?_) rfl (by kernel_rfl) (by kernel_rfl) (by kernel_rfl) (fun _ _ _ h => h) (Or.inl ⟨by first | kernel_rfl | rfl, ?_⟩) (by assumption) ?_; rotate_left; focus (intro w hSw; (try dsimp only at hSw); go_simp; try (with_reducible rfl)); (try simp only [Act.put, List.getElem_toArray, List.getElem_cons_succ, List.getElem_cons_zero, List.setIfInBounds_toArray, List.set_cons_zero, List.set_cons_succ])
          refine wpAnyH_take (i := 14) (v := ?_) rfl (by kernel_rfl) (by kernel_rfl) (by kernel_rfl) (fun _ _ _ h => h) (Or.inl ⟨by first | kernel_rfl | rfl, ?_⟩) (by assumption) ?_; rotate_left; focus (intro w hSw; (try dsimp only at hSw); go_simp; try (with_reducible rfl)); (try simp only [Act.put, List.getElem_toArray, List.getElem_cons_succ, List.getElem_cons_zero, List.setIfInBounds_toArray, List.set_cons_zero, List.set_cons_succ])
          refine wpAnyH_take (i := 15) (v := ?_) rfl (by kernel_rfl) (by kernel_rfl) (by kernel_rfl) (fun _ _ _ h => h) (Or.inl ⟨by first | kernel_rfl | rfl, ?_⟩) (by assumption) ?_; rotate_left; focus (intro w hSw; (try dsimp only at hSw); go_simp; try (with_reducible rfl)); (try simp only [Act.put, List.getElem_toArray, List.getElem_cons_succ, List.getElem_cons_zero, List.setIfInBounds_toArray, List.set_cons_zero, List.set_cons_succ])
          refine wpAnyH_take (i := 16) (v := ?_) rfl (by kernel_rfl) (by kernel_rfl) (by kernel_rfl) (fun _ _ _ h => h) (Or.inl ⟨by first | kernel_rfl | rfl, ?_⟩) (by assumption) ?_; rotate_left; focus (intro w hSw; (try dsimp only at hSw); go_simp; try (with_reducible rfl)); (try simp only [Act.put, List.getElem_toArray, List.getElem_cons_succ, List.getElem_cons_zero, List.setIfInBounds_toArray, List.set_cons_zero, List.set_cons_succ])
          refine wpAnyH_take (i := 17) (v := ?_) rfl (by kernel_rfl) (by kernel_rfl) (by kernel_rfl) (fun _ _ _ h => h) (Or.inl ⟨by first | kernel_rfl | rfl, ?_⟩) (by assumption) ?_; rotate_left; focus (intro w hSw; (try dsimp only at hSw); go_simp; try (with_reducible rfl)); (try simp only [Act.put, List.getElem_toArray, List.getElem_cons_succ, List.getElem_cons_zero, List.setIfInBounds_toArray, List.set_cons_zero, List.set_cons_succ])
          refine wpAnyH_take (i := 18) (v := ?_) rfl (by kernel_rfl) (by kernel_rfl) (by kernel_rfl) (fun _ _ _ h => h) (Or.inl ⟨by first | kernel_rfl | rfl, ?_⟩) (by assumption) ?_; rotate_left; focus (intro w hSw; (try dsimp only at hSw); go_simp; try (with_reducible rfl)); (try simp only [Act.put, List.getElem_toArray, List.getElem_cons_succ, List.getElem_cons_zero, List.setIfInBounds_toArray, List.set_cons_zero, List.set_cons_succ])
          refine wpAnyH_ready (rs := [9]) (by kernel_rfl) (by simp) ?_
          refine AllReadyH.cons rfl (fun K hK => ?_) AllReadyH.nil
          go_simp
          go_at_call 24
          refine (before_any x y _).mono ?_
          rintro e w9 ⟨rfl, k9⟩
          have KD := hide (((Keeps.refl (fun _ => False) wi).drew).trans k9)
          (try go_wp2_with fail)
          refine hK.out _ _ (HSg.out _ KD.out) (fun _ => ?_)
          clear hK K k9
          (try simp only [Act.put, List.getElem_toArray, List.getElem_cons_succ, List.getElem_cons_zero, List.setIfInBounds_toArray, List.set_cons_zero, List.set_cons_succ])
          refine wpAnyH_ready (rs := [19]) (by kernel_rfl) (by simp) ?_
          refine AllReadyH.cons rfl (fun K hK => ?_) AllReadyH.nil
          go_simp
          go_at_call 27
          refine (rbefore_any x y _).mono ?_
          rintro e w10 ⟨rfl, k10⟩
          have KE := hide (KD.out.trans k10)
          (try go_wp2_with fail)
          refine hK.out _ _ (HSg.out _ KE.out) (fun _ => ?_)
          clear hK K k10 KD
          (try simp only [Act.put, List.getElem_toArray, List.getElem_cons_succ, List.getElem_cons_zero, List.setIfInBounds_toArray, List.set_cons_zero, List.set_cons_succ])
          refine wpAnyH_take (i := 20) (v := ?_) rfl (by kernel_rfl) (by kernel_rfl) (by kernel_rfl) (fun _ _ _ h => h) (Or.inl ⟨by first | kernel_rfl | rfl, ?_⟩) (by assumption) ?_; rotate_left; focus (intro w hSw; (try dsimp only at hSw); go_simp; try (with_reducible rfl)); (try simp only [Act.put, List.getElem_toArray, List.getElem_cons_succ, List.getElem_cons_zero, List.setIfInBounds_toArray, List.set_cons_zero, List.set_cons_succ])
          refine wpAnyH_done (by kernel_rfl) ?_ _
          (try simp only [Act.put, List.getElem_toArray, List.getElem_cons_succ, List.getElem_cons_zero, List.setIfInBounds_toArray, List.set_cons_zero, List.set_cons_succ])
          clear hHeld HSg
          have K11 := hide (K8.out.trans KE.out)
          go_wp2_with fail
          go_roundw
          case rel => exact ⟨j + 1, by omega, .inl (by omega), by go_num, K11⟩
          case measure => simp [intOf]; omega
        · have e3 : decide (j < nX) = false := by simpa using hjn
          have K9 := hide (K7.out.trans K8.out)
          go_wp2_with fail
          go_roundw
          case rel => exact ⟨i + 1, by omega, by go_num, K9⟩
          case measure => simp [intOf]; omega
    · have e2 : decide (i < 2) = false := by simpa using hlt
      have K5 := hide (K3.out.trans K4.out)
      go_wp2_with fail
      refine (awake18 _).mono ?_
      rintro e w6 ⟨rfl, k6⟩
      have K6 := hide (K5.out.trans k6)
      clear k6
      go_wp2_with fail
      go_ret
      exact ⟨rfl, K6.out⟩
theorem walk (w : World) (A1 : Option Addr) (n1 c1 : Nat) (L : List Ln) (r1 : Rd w w.heap.size A1 3 n1 (lnCs L)) (b1 : ∀ x ∈ L, U x.lo ∧ U x.hi) (s1 : n1 * 32 ≤ 140737488351232) (l1 : n1 ≤ c1)
    (A2 : Option Addr) (n2 c2 : Nat) (z2 : List Int) (r2 : Rd w w.heap.size A2 1 n2 (z2.map (.int .i64))) (b2 : ∀ z ∈ z2, -9223372036854775808 ≤ z ∧ z < 9223372036854775808) (s2 : n2 * 8 ≤ 140737488351232) (l2 : n2 ≤ c2) :
    Calls Try.prog 8 #[.slice A1 n1 c1, .slice A2 n2 c2] w fun e w' => e = .returned (.bool true) ∧ Below w.heap.size w w' :=
  (main w A1 n1 c1 L r1 A2 n2 c2 z2 r2 b2 (by omega) (by omega)).mono fun e w' ⟨he, hk⟩ => ⟨he, hk.done⟩
end boundsSort
end Go.Proofs.Ytmbgnekilgobaaa
