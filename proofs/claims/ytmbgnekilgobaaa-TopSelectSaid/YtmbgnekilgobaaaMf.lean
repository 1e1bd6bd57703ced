/-
  TopSelect: for every input the law returns true. No conditions beyond those of the statement.
-/
import Derived.Test.YtmbgnekilgobaaaMe
set_option linter.unusedVariables false
set_option linter.unusedSimpArgs false
namespace Go.Proofs.Ytmbgnekilgobaaa
open Go.RowKit
namespace topSelect
set_option maxRecDepth 100000 in
set_option maxHeartbeats 2000000 in
theorem main (w : World) (A : Option Addr) (n c : Nat) (L : List Ln) (r : Rd w w.heap.size A 3 n (lnCs L)) (A2 : Option Addr) (n2 c2 : Nat) (z : List Int) (r2 : Rd w w.heap.size A2 1 n2 (z.map (.int .i64))) (b2 : ∀ v ∈ z, -9223372036854775808 ≤ v ∧ v < 9223372036854775808) (hn2 : n2 ≤ 35184372088832) (hn : n ≤ 140737488351232) (kk : Int) (kk0 : -9223372036854775808 ≤ kk) (kk1 : kk < 9223372036854775808) :
    Calls Try.prog 3 #[.slice A n c, .slice A2 n2 c2, .int .i64 kk] w fun e w' => e = .returned (.bool true) ∧ Keeps (fun _ => False) w w' := by
  by_cases h80 : 80 < n
  · have e1 : decide (80 < n) = true := by simpa using h80
    go_enter Try.func3, Try.ntmps3
    go_wp2_with fail
    refine (awake23 _).mono ?_
    rintro e w1 ⟨rfl, k1⟩
    have K1 := hide k1
    clear k1
    go_wp2_with fail
    go_ret
    exact ⟨rfl, K1.out⟩
  have e1 : decide (80 < n) = false := by simpa using h80
  have HR := hide r
  have hn80 : n ≤ 80 := by omega
  clear r h80
  go_enter Try.func3, Try.ntmps3
  go_wp2_with fail
  refine (new_deck A2 n2 c2 z w.heap.size w (Nat.le_refl _) r2 b2 hn2).mono ?_
  rintro e w1 ⟨rfl, d1, k1⟩
  have D1 := hide d1
  have K1 := hide k1
  clear d1 k1 r2 b2
  go_wp2_with fail
  refine (lines_any 30 (by omega) (by omega) w.heap.size _ w1 D1.out).mono ?_
  rintro e w2 ⟨A1, k, c1, l, rfl, hk, hS, o1, d2, k2⟩
  have O1 := hide o1
  have K2 := hide (K1.out.step k2 (fun q hq e => by omega))
  have hk30 : k ≤ 30 := by omega
  clear o1 d2 k2 hS hk D1 K1
  go_upto_region 5 with fail
  obtain ⟨gX, hgX⟩ : ∃ gX, gX = w2.heap.size := ⟨_, rfl⟩
  obtain ⟨w3, hw3⟩ : ∃ w3, w3 = w2.alloc (.cells #[.slice A n c, .slice A1 k c1] 22) := ⟨_, rfl⟩
  rw [← hgX, ← hw3]
  have k3 : Keeps (fun _ => False) w2 w3 := by rw [hw3]; exact (Keeps.refl _ _).alloc _
  have bX : Blk w3 gX 22 #[.slice A n c, .slice A1 k c1] := by rw [hw3, hgX]; exact Blk.new _ _ _
  have hX : Hid (∀ i, i < 2 → ∃ AX nX cX LX, w3.cell? ⟨gX, i, none⟩ = some (.slice AX nX cX) ∧ Rd w3 w3.heap.size AX 3 nX (lnCs LX) ∧ nX ≤ 80) := hide (by
    intro i hi
    rcases i with _ | _ | i
    · exact ⟨A, n, c, L, bX.cell 0, (((HR.out.kept K2.out (fun _ _ h => h)).kept k3 (fun _ _ h => h)).more (by have := K2.out.size; have := k3.size; omega)), hn80⟩
    · exact ⟨A1, k, c1, l, bX.cell 1, (((O1.out.rd (by omega)).kept k3 (fun _ _ h => h)).more k3.size), by omega⟩
    · omega)
  have K3 := hide (K2.out.trans k3)
  clear hw3 hgX k3 bX O1 K2 HR
  go_loopw [27] (fun iv wr => ∃ i : Nat, i ≤ 2 ∧ iv = .int .i64 (i : Int) ∧ Hid (Keeps (fun _ => False) w3 wr)) (fun iv _ => 2 - (intOf iv).toNat)
  case atStart => exact ⟨0, by omega, rfl, hide (Keeps.refl _ _)⟩
  case round =>
    obtain ⟨i, hi, rfl, K4⟩ := hrel
    obtain ⟨wo, rfl⟩ : ∃ wo : World, wo = wr := ⟨_, rfl⟩
    by_cases hlt : i < 2
    · have e2 : decide (i < 2) = true := by simpa using hlt
      obtain ⟨AX, nX, cX, LX, hc, hr, hnX⟩ := hX.out i hlt
      have hcw := K4.out.cell_some hc (fun h => h)
      have HRX := hide (hr.kept K4.out (fun _ _ h => h))
      have hiI : (i : Int) < 2 := by omega
      clear hc hr
      go_upto_region 8 with fail
      obtain ⟨k2, hk2⟩ : ∃ k2, k2 = bits .and .i64 kk 31 := ⟨_, rfl⟩
      have hk2b : -9223372036854775808 ≤ k2 ∧ k2 < 9223372036854775808 := by rw [hk2]; exact wf_i64 (wf_bits _ _ _ _)
      rw [← hk2]
      obtain ⟨gN, hgN⟩ : ∃ gN, gN = wo.heap.size := ⟨_, rfl⟩
      obtain ⟨w5, hw5⟩ : ∃ w5, w5 = wo.alloc (.cells #[.int .i64 kk, .int .i64 k2] 3) := ⟨_, rfl⟩
      rw [← hgN, ← hw5]
      have k5 : Keeps (fun _ => False) wo w5 := by rw [hw5]; exact (Keeps.refl _ _).alloc _
      have bN : Blk w5 gN 3 #[.int .i64 kk, .int .i64 k2] := by rw [hw5, hgN]; exact Blk.new _ _ _
      have hN : Hid (∀ j, j < 2 → ∃ v, w5.cell? ⟨gN, j, none⟩ = some (.int .i64 v) ∧ -9223372036854775808 ≤ v ∧ v < 9223372036854775808) := hide (by
        intro j hj
        rcases j with _ | _ | j
        · exact ⟨kk, bN.cell 0, kk0, kk1⟩
        · exact ⟨k2, bN.cell 1, hk2b.1, hk2b.2⟩
        · omega)
      have K5 := hide (K4.out.trans k5)
      have RX5 := hide (HRX.out.kept k5 (fun _ _ h => h))
      clear hk2 hk2b hgN hw5 k5 bN HRX hcw K4
      go_loopw [36] (fun jv wr => ∃ j : Nat, j ≤ 2 ∧ jv = .int .i64 (j : Int) ∧ Hid (Keeps (fun _ => False) w5 wr)) (fun jv _ => 2 - (intOf jv).toNat)
      case atStart => exact ⟨0, by omega, rfl, hide (Keeps.refl _ _)⟩
      case round =>
        obtain ⟨j, hj, rfl, K6⟩ := hrel
        obtain ⟨wi, rfl⟩ : ∃ wi : World, wi = wr := ⟨_, rfl⟩
        by_cases hjt : j < 2
        · have e3 : decide (j < 2) = true := by simpa using hjt
          obtain ⟨v, hc, v0, v1⟩ := hN.out j hjt
          have hcw := K6.out.cell_some hc (fun h => h)
          have R6 := hide (RX5.out.kept K6.out (fun _ _ h => h))
          have hjI : (j : Int) < 2 := by omega
          clear hc
          go_wp2_with fail
          refine (select_any _ _ _ _ _ LX v R6.out (by omega) v0 v1).mono ?_
          rintro e w7 ⟨Aa, ca, Ab, cb, rfl, ra, rb, k7⟩
          have R7 := hide (R6.out.kept k7 (fun _ _ h => h))
          have RA := hide ra
          have RB := hide rb
          have K7 := hide (K6.out.trans k7)
          clear ra rb k7 hcw
          go_wp2_with fail
          refine (rselect_any _ _ _ _ _ LX v R7.out (by omega) v0 v1).mono ?_
          rintro e w8 ⟨Ac, cc, Ad, cd, rfl, rc, rd, k8⟩
          have RA8 := hide (RA.out.kept k8 (fun _ _ h => h))
          have RB8 := hide (RB.out.kept k8 (fun _ _ h => h))
          have RC := hide rc
          have RD := hide rd
          have K8 := hide (K7.out.trans k8)
          have hq := selN_le v nX
          generalize selN v nX = q at *
          clear rc rd k8 RA RB K7 R7
          go_wp2_with fail
          refine (sameLines_any _ _ _ _ _ _ _ _ _ RA8.out RC.out (by omega)).mono ?_
          rintro e w9 ⟨rfl, kd, rfl⟩
          go_wp2_with fail
          refine (sameLines_any _ _ _ _ _ _ _ _ _ (RB8.out.drewN kd) (RD.out.drewN kd) (by omega)).mono ?_
          rintro e w10 ⟨rfl, kd2, rfl⟩
          have K10 := hide (K8.out.drewN (kd + kd2))
          go_wp2_with fail
          go_roundw
          case rel => exact ⟨j + 1, by omega, by go_num, K10⟩
          case measure => simp [intOf]; omega
        · have e3 : decide (j < 2) = false := by simpa using hjt
          have K7 := hide (K5.out.trans K6.out)
          go_wp2_with fail
          go_roundw
          case rel => exact ⟨i + 1, by omega, by go_num, K7⟩
          case measure => simp [intOf]; omega
    · have e2 : decide (i < 2) = false := by simpa using hlt
      have K5 := hide (K3.out.trans K4.out)
      go_wp2_with fail
      refine (awake23 _).mono ?_
      rintro e w6 ⟨rfl, k6⟩
      have K6 := hide (K5.out.trans k6)
      clear k6
      go_wp2_with fail
      go_ret
      exact ⟨rfl, K6.out⟩
theorem walk (w : World) (A1 : Option Addr) (n1 c1 : Nat) (L : List Ln) (r1 : Rd w w.heap.size A1 3 n1 (lnCs L)) (b1 : ∀ x ∈ L, U x.lo ∧ U x.hi) (s1 : n1 * 32 ≤ 140737488351232) (l1 : n1 ≤ c1)
    (A2 : Option Addr) (n2 c2 : Nat) (z2 : List Int) (r2 : Rd w w.heap.size A2 1 n2 (z2.map (.int .i64))) (b2 : ∀ z ∈ z2, -9223372036854775808 ≤ z ∧ z < 9223372036854775808) (s2 : n2 * 8 ≤ 140737488351232) (l2 : n2 ≤ c2)
    (u : Int) (u0 : -9223372036854775808 ≤ u) (u1 : u < 9223372036854775808) :
    Calls Try.prog 3 #[.slice A1 n1 c1, .slice A2 n2 c2, .int .i64 u] w fun e w' => e = .returned (.bool true) ∧ Below w.heap.size w w' :=
  (main w A1 n1 c1 L r1 A2 n2 c2 z2 r2 b2 (by omega) (by omega) u u0 u1).mono fun e w' ⟨he, hk⟩ => ⟨he, hk.done⟩
end topSelect
end Go.Proofs.Ytmbgnekilgobaaa
