/-
  BoundsHold: for every input the law returns true. No conditions beyond those of the statement.
-/
import Derived.Test.YtmbgnekilgobaaaLx
import Derived.Test.YtmbgnekilgobaaaArgT
import Derived.Laws.BitsAllLaws
set_option linter.unusedVariables false
set_option linter.unusedSimpArgs false
namespace Go.Proofs.Ytmbgnekilgobaaa
open Go.RowKit
namespace boundsHold
theorem or7 (M : Int) (h : U M) : M ≤ bits .or .u64 M 7 := by
  rw [u64_or M 7 h.1 h.2 (by omega) (by omega)]
  have := @Nat.left_le_or M.toNat (7 : Int).toNat
  omega
theorem andNot7 (M : Int) (h : U M) : bits .andNot .u64 M 7 ≤ M := by
  rw [u64_andNot M 7 h.1 h.2 (by omega) (by omega)]
  have := @Nat.and_le_left M.toNat (18446744073709551615 - (7 : Int).toNat)
  omega
theorem add_le {a b m n : Int} (h1 : a ≤ m) (h2 : b ≤ n) (hm : m < 9223372036854775808) (hn : n < 9223372036854775808) : Sat.add a b ≤ m + n := by unfold Sat.add; split <;> omega
theorem le_add {a b m n : Int} (h1 : m ≤ a) (h2 : n ≤ b) (hm : m < 9223372036854775808) (hn : n < 9223372036854775808) : m + n ≤ Sat.add a b := by unfold Sat.add; split <;> omega
theorem cont_add {p1 p2 q1 q2 M N : Int} (h1 : cont p1 p2 M = true) (h2 : cont q1 q2 N = true) (hm : M < 9223372036854775808) (hn : N < 9223372036854775808) : cont (Sat.add p1 q1) (Sat.add p2 q2) (M + N) = true := by
  simp only [cont, Bool.and_eq_true, decide_eq_true_eq] at *
  exact ⟨add_le h1.1 h2.1 hm hn, le_add h1.2 h2.2 hm hn⟩
theorem cont_cap {p1 p2 M t : Int} (h1 : cont p1 p2 M = true) (h : ¬ t < M) : cont (imin p1 t) (imin p2 t) M = true := by
  simp only [cont, Bool.and_eq_true, decide_eq_true_eq] at h1
  obtain ⟨u, v⟩ := h1
  have e1 : imin p1 t = p1 := if_pos (by omega)
  have e2 : M ≤ imin p2 t := by unfold imin; split <;> omega
  rw [e1]
  simp only [cont, Bool.and_eq_true, decide_eq_true_eq]
  exact ⟨u, e2⟩
/-- what stands ahead of the last line -/
def Mid (w : World) (g : Nat) (M N : Int) (wx : World) : Prop :=
  ∃ p1 p2 q1 q2, U p1 ∧ U p2 ∧ U q1 ∧ U q2 ∧ cont p1 p2 M = true ∧ cont q1 q2 N = true ∧ Blk wx g 46 (bndC p1 p2) ∧ Blk wx (g + 1) 46 (bndC q1 q2) ∧ Keeps (fun k => g ≤ k) w wx
theorem mid_new {w w2 : World} {g : Nat} {M N a1 a2 b1 b2 : Int} (hg : g = w.heap.size) (hM : 0 ≤ M ∧ M < 9223372036854775808) (hN : 0 ≤ N ∧ N < 9223372036854775808) (Y1 : Blk w2 g 46 (bndC a1 a2)) (Y2 : Blk w2 (g + 1) 46 (bndC b1 b2)) (K : Keeps (fun k => g ≤ k) w w2) :
    Mid w g M N ((((w2.setCell ⟨g, 0, none⟩ (.int .u64 (M / 2))).setCell ⟨g, 1, none⟩ (.int .u64 (bits .or .u64 M 7))).setCell ⟨g + 1, 0, none⟩ (.int .u64 (bits .andNot .u64 N 7))).setCell ⟨g + 1, 1, none⟩ (.int .u64 N)) := by
  have uM : U M := ⟨hM.1, by omega⟩
  have uN : U N := ⟨hN.1, by omega⟩
  refine ⟨M / 2, bits .or .u64 M 7, bits .andNot .u64 N 7, N, ⟨by omega, by omega⟩, wf_u64 (wf_bits _ _ _ _), wf_u64 (wf_bits _ _ _ _), uN, ?_, ?_, ?_, ?_, ?_⟩
  · have := or7 M uM
    simp only [cont, Bool.and_eq_true, decide_eq_true_eq]
    omega
  · have := andNot7 N uN
    simp only [cont, Bool.and_eq_true, decide_eq_true_eq]
    omega
  · exact ((((Y1.set 0 _).set 1 _).far (p := ⟨g + 1, 0, none⟩) (by simp) _).far (p := ⟨g + 1, 1, none⟩) (by simp) _)
  · exact ((((Y2.far (p := ⟨g, 0, none⟩) (by simp) _).far (p := ⟨g, 1, none⟩) (by simp) _).set 0 _).set 1 _)
  · exact (((K.setCell (p := ⟨g, 0, none⟩) (.inl (Nat.le_refl _)) _).setCell (p := ⟨g, 1, none⟩) (.inl (Nat.le_refl _)) _).setCell (p := ⟨g + 1, 0, none⟩) (.inl (Nat.le_succ _)) _).setCell (p := ⟨g + 1, 1, none⟩) (.inl (Nat.le_succ _)) _
set_option maxRecDepth 100000 in
set_option maxHeartbeats 2000000 in
theorem main (w : World) (a1 a2 b1 b2 m n most : Int) (ha1 : U a1) (ha2 : U a2) (hb1 : U b1) (hb2 : U b2) (hm : U m) (hn : U n) :
    Calls Try.prog 9 #[bnd a1 a2, bnd b1 b2, .int .u64 m, .int .u64 n, .int .u64 most] w fun e w' => e = .returned (.bool true) ∧ Keeps (fun _ => False) w w' := by
  obtain ⟨w1, hw1⟩ : ∃ w1, w1 = (w.alloc (.cells (bndC a1 a2) 46)).alloc (.cells (bndC b1 b2) 46) := ⟨_, rfl⟩
  obtain ⟨g, hg⟩ : ∃ g, g = w.heap.size := ⟨_, rfl⟩
  have K1 : Hid (Keeps (fun k => g ≤ k) w w1) := hide (by rw [hw1]; exact ((Keeps.refl _ _).alloc _).alloc _)
  have x1 : Hid (Blk w1 g 46 (bndC a1 a2)) := hide (by rw [hw1, hg]; exact (Blk.new _ _ _).alloc _)
  have x2 : Hid (Blk w1 (g + 1) 46 (bndC b1 b2)) := hide (by rw [hw1, hg]; exact Blk.new_at _ _ _ _ (by simp))
  have HW1 := hide hw1
  have HG := hide hg
  clear hw1 hg
  obtain ⟨M, hM⟩ : ∃ M, M = m / 2 := ⟨_, rfl⟩
  obtain ⟨N, hN⟩ : ∃ N, N = n / 2 := ⟨_, rfl⟩
  have hM' : 0 ≤ M ∧ M < 9223372036854775808 := by have := hm.1; have := hm.2; omega
  have hN' : 0 ≤ N ∧ N < 9223372036854775808 := by have := hn.1; have := hn.2; omega
  have HM := hide hM
  have HN := hide hN
  clear hM hN
  go_enter Try.func9, Try.ntmps9
  go_upto_region 2 with fail
  rw [← HG.out, ← HW1.out, ← HM.out, ← HN.out]
  obtain ⟨c0, c1⟩ := (x1.out).two.1
  go_wp2_with fail
  refine (bcont_any _ _ _ _).mono ?_
  rintro e w2 ⟨rfl, k2⟩
  have y1 := x1.out.kept k2 (fun h => h)
  have y2 := x2.out.kept k2 (fun h => h)
  obtain ⟨⟨d0, d1⟩, ⟨f0, f1⟩, _⟩ := y2.two
  obtain ⟨⟨c0', c1'⟩, ⟨f0', f1'⟩, _⟩ := y1.two
  have K2 := hide (K1.out.step0 k2)
  have Y1 := hide y1
  have Y2 := hide y2
  clear c0 c1 y1 y2
  rcases h1 : cont a1 a2 M with _ | _
  · have hcut := mid_new HG.out hM' hN' Y1.out Y2.out K2.out
    go_upto_region 4 with fail
    generalize World.setCell _ _ _ = wx at *
    clear h1
    obtain ⟨p1, p2, q1, q2, up1, up2, uq1, uq2, h1, h2, X1, X2, KX⟩ := hcut
    obtain ⟨⟨c0, c1⟩, _⟩ := X1.two
    obtain ⟨⟨d0, d1⟩, _⟩ := X2.two
    have Y1 := hide X1
    have Y2 := hide X2
    have KX := hide KX
    have HC := hide h1
    have HD := hide h2
    clear X1 X2 x1 x2 K1 HW1
    go_wp2_with fail
    refine (bcont_any _ _ _ _).mono ?_
    rintro e w3 ⟨rfl, k3⟩
    rw [HC.out]
    have z1 := Y1.out.kept k3 (fun h => h)
    have z2 := Y2.out.kept k3 (fun h => h)
    obtain ⟨⟨c0, c1⟩, _⟩ := z1.two
    obtain ⟨⟨d0, d1⟩, _⟩ := z2.two
    have Z1 := hide z1
    have Z2 := hide z2
    have K3 := hide (KX.out.step0 k3)
    clear z1 z2 k3
    go_wp2_with fail
    refine (bcont_any _ _ _ _).mono ?_
    rintro e w4 ⟨rfl, k4⟩
    rw [HD.out]
    have z1 := Z1.out.kept k4 (fun h => h)
    have z2 := Z2.out.kept k4 (fun h => h)
    obtain ⟨⟨c0, c1⟩, _⟩ := z1.two
    obtain ⟨⟨d0, d1⟩, _⟩ := z2.two
    have V1 := hide z1
    have K4 := hide (K3.out.step0 k4)
    clear z1 z2 k4
    go_wp2_with fail
    refine (badd_any p1 p2 q1 q2 up1 up2 uq1 uq2 _).mono ?_
    rintro e w5 ⟨rfl, k5⟩
    have z1 := V1.out.kept k5 (fun h => h)
    obtain ⟨⟨c0, c1⟩, _⟩ := z1.two
    have V5 := hide z1
    have K5 := hide (K4.out.step0 k5)
    have wMN : IntKind.u64.wrap (M + N) = M + N := by rw [IntKind.wrap_u64]; omega
    clear z1 k5
    go_wp2_with fail
    refine (bcont_any _ _ _ _).mono ?_
    rintro e w6 ⟨rfl, k6⟩
    rw [cont_add HC.out HD.out hM'.2 hN'.2]
    have z1 := V5.out.kept k6 (fun h => h)
    obtain ⟨⟨c0, c1⟩, _⟩ := z1.two
    have V6 := hide z1
    have K6 := hide (K5.out.step0 k6)
    clear z1 k6
    by_cases hmo : most < M
    · have e1 : decide (most < M) = true := by simpa using hmo
      go_wp2_with fail
      refine (awake18 _).mono ?_
      rintro e w9 ⟨rfl, k9⟩
      have K9 := hide (K6.out.step0 k9)
      clear k9
      go_wp2_with fail
      go_ret
      exact ⟨rfl, K9.out.weak (fun k hk h => by have := HG.out; omega)⟩
    · have e1 : decide (most < M) = false := by simpa using hmo
      go_wp2_with fail
      refine (bcap_any _ _ _ _).mono ?_
      rintro e w7 ⟨rfl, k7⟩
      have K7 := hide (K6.out.step0 k7)
      clear k7
      go_wp2_with fail
      refine (bcont_any _ _ _ _).mono ?_
      rintro e w8 ⟨rfl, k8⟩
      rw [cont_cap HC.out (by omega)]
      have K8 := hide (K7.out.step0 k8)
      clear k8
      go_wp2_with fail
      refine (awake18 _).mono ?_
      rintro e w9 ⟨rfl, k9⟩
      have K9 := hide (K8.out.step0 k9)
      clear k9
      go_wp2_with fail
      go_ret
      exact ⟨rfl, K9.out.weak (fun k hk h => by have := HG.out; omega)⟩
  · go_wp2_with fail
    refine (bcont_any _ _ _ _).mono ?_
    rintro e w3 ⟨rfl, k3⟩
    have z1 := Y1.out.kept k3 (fun h => h)
    have z2 := Y2.out.kept k3 (fun h => h)
    have Z1 := hide z1
    have Z2 := hide z2
    have K3 := hide (K2.out.step0 k3)
    clear d0 d1 f0 f1 c0' c1' f0' f1' k2
    obtain ⟨⟨d0, d1⟩, ⟨f0, f1⟩, _⟩ := z2.two
    obtain ⟨⟨c0', c1'⟩, ⟨f0', f1'⟩, _⟩ := z1.two
    clear z1 z2 k3
    rcases h2 : cont b1 b2 N with _ | _
    · have hcut := mid_new HG.out hM' hN' Z1.out Z2.out K3.out
      go_upto_region 4 with fail
      generalize World.setCell _ _ _ = wx at *
      clear h1 h2
      obtain ⟨p1, p2, q1, q2, up1, up2, uq1, uq2, h1, h2, X1, X2, KX⟩ := hcut
      obtain ⟨⟨c0, c1⟩, _⟩ := X1.two
      obtain ⟨⟨d0, d1⟩, _⟩ := X2.two
      have Y1 := hide X1
      have Y2 := hide X2
      have KX := hide KX
      have HC := hide h1
      have HD := hide h2
      clear X1 X2 x1 x2 K1 HW1
      go_wp2_with fail
      refine (bcont_any _ _ _ _).mono ?_
      rintro e w3 ⟨rfl, k3⟩
      rw [HC.out]
      have z1 := Y1.out.kept k3 (fun h => h)
      have z2 := Y2.out.kept k3 (fun h => h)
      obtain ⟨⟨c0, c1⟩, _⟩ := z1.two
      obtain ⟨⟨d0, d1⟩, _⟩ := z2.two
      have Z1 := hide z1
      have Z2 := hide z2
      have K3 := hide (KX.out.step0 k3)
      clear z1 z2 k3
      go_wp2_with fail
      refine (bcont_any _ _ _ _).mono ?_
      rintro e w4 ⟨rfl, k4⟩
      rw [HD.out]
      have z1 := Z1.out.kept k4 (fun h => h)
      have z2 := Z2.out.kept k4 (fun h => h)
      obtain ⟨⟨c0, c1⟩, _⟩ := z1.two
      obtain ⟨⟨d0, d1⟩, _⟩ := z2.two
      have V1 := hide z1
      have K4 := hide (K3.out.step0 k4)
      clear z1 z2 k4
      go_wp2_with fail
      refine (badd_any p1 p2 q1 q2 up1 up2 uq1 uq2 _).mono ?_
      rintro e w5 ⟨rfl, k5⟩
      have z1 := V1.out.kept k5 (fun h => h)
      obtain ⟨⟨c0, c1⟩, _⟩ := z1.two
      have V5 := hide z1
      have K5 := hide (K4.out.step0 k5)
      have wMN : IntKind.u64.wrap (M + N) = M + N := by rw [IntKind.wrap_u64]; omega
      clear z1 k5
      go_wp2_with fail
      refine (bcont_any _ _ _ _).mono ?_
      rintro e w6 ⟨rfl, k6⟩
      rw [cont_add HC.out HD.out hM'.2 hN'.2]
      have z1 := V5.out.kept k6 (fun h => h)
      obtain ⟨⟨c0, c1⟩, _⟩ := z1.two
      have V6 := hide z1
      have K6 := hide (K5.out.step0 k6)
      clear z1 k6
      by_cases hmo : most < M
      · have e1 : decide (most < M) = true := by simpa using hmo
        go_wp2_with fail
        refine (awake18 _).mono ?_
        rintro e w9 ⟨rfl, k9⟩
        have K9 := hide (K6.out.step0 k9)
        clear k9
        go_wp2_with fail
        go_ret
        exact ⟨rfl, K9.out.weak (fun k hk h => by have := HG.out; omega)⟩
      · have e1 : decide (most < M) = false := by simpa using hmo
        go_wp2_with fail
        refine (bcap_any _ _ _ _).mono ?_
        rintro e w7 ⟨rfl, k7⟩
        have K7 := hide (K6.out.step0 k7)
        clear k7
        go_wp2_with fail
        refine (bcont_any _ _ _ _).mono ?_
        rintro e w8 ⟨rfl, k8⟩
        rw [cont_cap HC.out (by omega)]
        have K8 := hide (K7.out.step0 k8)
        clear k8
        go_wp2_with fail
        refine (awake18 _).mono ?_
        rintro e w9 ⟨rfl, k9⟩
        have K9 := hide (K8.out.step0 k9)
        clear k9
        go_wp2_with fail
        go_ret
        exact ⟨rfl, K9.out.weak (fun k hk h => by have := HG.out; omega)⟩
    · have hcut : Mid w g M N w3 := ⟨a1, a2, b1, b2, ha1, ha2, hb1, hb2, h1, h2, Z1.out, Z2.out, K3.out⟩
      go_upto_region 4 with fail
      clear h1 h2 d0 d1 f0 f1 c0' c1' f0' f1'
      obtain ⟨p1, p2, q1, q2, up1, up2, uq1, uq2, h1, h2, X1, X2, KX⟩ := hcut
      obtain ⟨⟨c0, c1⟩, _⟩ := X1.two
      obtain ⟨⟨d0, d1⟩, _⟩ := X2.two
      have Y1 := hide X1
      have Y2 := hide X2
      have KX := hide KX
      have HC := hide h1
      have HD := hide h2
      clear X1 X2 x1 x2 K1 HW1
      go_wp2_with fail
      refine (bcont_any _ _ _ _).mono ?_
      rintro e w3 ⟨rfl, k3⟩
      rw [HC.out]
      have z1 := Y1.out.kept k3 (fun h => h)
      have z2 := Y2.out.kept k3 (fun h => h)
      obtain ⟨⟨c0, c1⟩, _⟩ := z1.two
      obtain ⟨⟨d0, d1⟩, _⟩ := z2.two
      have Z1 := hide z1
      have Z2 := hide z2
      have K3 := hide (KX.out.step0 k3)
      clear z1 z2 k3
      go_wp2_with fail
      refine (bcont_any _ _ _ _).mono ?_
      rintro e w4 ⟨rfl, k4⟩
      rw [HD.out]
      have z1 := Z1.out.kept k4 (fun h => h)
      have z2 := Z2.out.kept k4 (fun h => h)
      obtain ⟨⟨c0, c1⟩, _⟩ := z1.two
      obtain ⟨⟨d0, d1⟩, _⟩ := z2.two
      have V1 := hide z1
      have K4 := hide (K3.out.step0 k4)
      clear z1 z2 k4
      go_wp2_with fail
      refine (badd_any p1 p2 q1 q2 up1 up2 uq1 uq2 _).mono ?_
      rintro e w5 ⟨rfl, k5⟩
      have z1 := V1.out.kept k5 (fun h => h)
      obtain ⟨⟨c0, c1⟩, _⟩ := z1.two
      have V5 := hide z1
      have K5 := hide (K4.out.step0 k5)
      have wMN : IntKind.u64.wrap (M + N) = M + N := by rw [IntKind.wrap_u64]; omega
      clear z1 k5
      go_wp2_with fail
      refine (bcont_any _ _ _ _).mono ?_
      rintro e w6 ⟨rfl, k6⟩
      rw [cont_add HC.out HD.out hM'.2 hN'.2]
      have z1 := V5.out.kept k6 (fun h => h)
      obtain ⟨⟨c0, c1⟩, _⟩ := z1.two
      have V6 := hide z1
      have K6 := hide (K5.out.step0 k6)
      clear z1 k6
      by_cases hmo : most < M
      · have e1 : decide (most < M) = true := by simpa using hmo
        go_wp2_with fail
        refine (awake18 _).mono ?_
        rintro e w9 ⟨rfl, k9⟩
        have K9 := hide (K6.out.step0 k9)
        clear k9
        go_wp2_with fail
        go_ret
        exact ⟨rfl, K9.out.weak (fun k hk h => by have := HG.out; omega)⟩
      · have e1 : decide (most < M) = false := by simpa using hmo
        go_wp2_with fail
        refine (bcap_any _ _ _ _).mono ?_
        rintro e w7 ⟨rfl, k7⟩
        have K7 := hide (K6.out.step0 k7)
        clear k7
        go_wp2_with fail
        refine (bcont_any _ _ _ _).mono ?_
        rintro e w8 ⟨rfl, k8⟩
        rw [cont_cap HC.out (by omega)]
        have K8 := hide (K7.out.step0 k8)
        clear k8
        go_wp2_with fail
        refine (awake18 _).mono ?_
        rintro e w9 ⟨rfl, k9⟩
        have K9 := hide (K8.out.step0 k9)
        clear k9
        go_wp2_with fail
        go_ret
        exact ⟨rfl, K9.out.weak (fun k hk h => by have := HG.out; omega)⟩
theorem walk (w : World) (a1 a2 : Int) (ha1 : U a1) (ha2 : U a2) (b1 b2 : Int) (hb1 : U b1) (hb2 : U b2) (m : Int) (m0 : 0 ≤ m) (m1 : m < 18446744073709551616) (n : Int) (n0 : 0 ≤ n) (n1 : n < 18446744073709551616) (t : Int) (t0 : 0 ≤ t) (t1 : t < 18446744073709551616) :
    Calls Try.prog 9 #[bnd a1 a2, bnd b1 b2, .int .u64 m, .int .u64 n, .int .u64 t] w fun e w' => e = .returned (.bool true) ∧ Below w.heap.size w w' :=
  (main w a1 a2 b1 b2 m n t ha1 ha2 hb1 hb2 ⟨m0, m1⟩ ⟨n0, n1⟩).mono fun e w' ⟨he, hk⟩ => ⟨he, hk.done⟩
end boundsHold
end Go.Proofs.Ytmbgnekilgobaaa
