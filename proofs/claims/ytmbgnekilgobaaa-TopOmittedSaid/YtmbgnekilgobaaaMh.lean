/-
  TopOmitted: for every input the law returns true. No conditions beyond those of the statement.
-/
import Derived.Test.YtmbgnekilgobaaaMe
set_option linter.unusedVariables false
set_option linter.unusedSimpArgs false
namespace Go.Proofs.Ytmbgnekilgobaaa
open Go.RowKit
theorem imax_le (a b : Int) : a ≤ imax a b ∧ b ≤ imax a b := by unfold imax; split <;> omega
theorem fold_ge : ∀ (zs : List Int) (u : Int), u ≤ zs.foldl imax u ∧ ∀ v ∈ zs, v ≤ zs.foldl imax u
  | [], u => ⟨Int.le_refl _, fun v hv => by cases hv⟩
  | z :: zs, u => by
    obtain ⟨h1, h2⟩ := fold_ge zs (imax u z)
    have h3 := imax_le u z
    rw [List.foldl_cons]
    refine ⟨by omega, fun v hv => ?_⟩
    rcases List.mem_cons.1 hv with rfl | hv
    · omega
    · exact h2 v hv
theorem abv_ge (l : List Ln) (u : Int) : u ≤ abv l u ∧ ∀ x ∈ l, x.hi ≤ abv l u :=
  ⟨(fold_ge _ _).1, fun x hx => (fold_ge _ _).2 _ (List.mem_map_of_mem hx)⟩
namespace topOmitted
set_option maxRecDepth 100000 in
set_option maxHeartbeats 2000000 in
theorem main (w : World) (A : Option Addr) (n c : Nat) (z : List Int) (r : Rd w w.heap.size A 1 n (z.map (.int .i64))) (b : ∀ v ∈ z, -9223372036854775808 ≤ v ∧ v < 9223372036854775808) (hn : n ≤ 35184372088832)
    (A3 : Option Addr) (n3 c3 : Nat) (z3 : List Int) (r3 : Rd w w.heap.size A3 1 n3 (z3.map (.int .u8))) (b3 : ∀ v ∈ z3, 0 ≤ v ∧ v < 256) (hn3 : n3 ≤ 140737488351232)
    (y : Int) (y0 : 0 ≤ y) (y1 : y < 256) (u : Int) (u0 : 0 ≤ u) (u1 : u < 256) :
    Calls Try.prog 5 #[.slice A n c, .slice A3 n3 c3, .int .u8 y, .int .u8 u] w fun e w' => e = .returned (.bool true) ∧ Keeps (fun _ => False) w w' := by
  have wy : IntKind.i64.wrap y = y := IntWalk.i64_in _ (by omega)
  have wu : IntKind.u64.wrap u = u := by rw [IntKind.wrap_u64]; omega
  have HW3 := hide r3
  have HB3 := hide b3
  clear r3 b3
  go_enter Try.func5, Try.ntmps5
  go_wp2_with fail
  refine (new_deck A n c z w.heap.size w (Nat.le_refl _) r b hn).mono ?_
  rintro e w1 ⟨rfl, d1, k1⟩
  have D1 := hide d1
  have K1 := hide k1
  clear d1 k1
  go_wp2_with fail
  refine (lines_any 30 (by omega) (by omega) w.heap.size _ w1 D1.out).mono ?_
  rintro e w2 ⟨A1, k, c1, l, rfl, hk, hS, o1, d2, k2⟩
  have O1 := hide o1
  have HSm := hide hS
  have K2 := hide (K1.out.step k2 (fun q hq e => by omega))
  have hk30 : k ≤ 30 := by omega
  clear o1 d2 k2 hS hk D1
  go_wp2_with fail
  refine (select_any _ _ _ _ _ l (y % 10) (O1.out.rd (by omega)) (by omega) (by omega) (by omega)).mono ?_
  rintro e w3 ⟨Aa, ca, Ab, cb, rfl, ra, rb, k3⟩
  have RB := hide rb
  have K3 := hide (K2.out.trans k3)
  have hq := selN_le (y % 10) k
  generalize selN (y % 10) k = q at *
  obtain ⟨m, hm⟩ : ∃ m, m = k - q := ⟨_, rfl⟩
  rw [← hm] at RB ⊢
  have hmk : m ≤ 30 ∧ q ≤ 30 := by omega
  have wq : IntKind.i64.wrap ((q : Int) + (m : Int)) = (k : Int) := by rw [IntWalk.i64_in _ (by omega)]; omega
  obtain ⟨S, hS⟩ : ∃ S, S = (srtL l).drop q := ⟨_, rfl⟩
  rw [← hS] at RB
  have HSS : Hid (∀ x ∈ S, Small x) := hide (by
    intro x hx
    rw [hS] at hx
    exact HSm.out x ((Srt.srt_perm (lt := lnLt) l).mem_iff.1 (List.mem_of_mem_drop hx)))
  clear ra rb k3 K1 K2 O1 hm hS hq r b HSm
  go_wp2_with fail
  refine (rest_any u _ _ _ _ _ S RB.out (by omega)).mono ?_
  rintro e w4 ⟨rfl, k4⟩
  have hge := abv_ge S u
  obtain ⟨R, hR⟩ : ∃ R, R = abv S u := ⟨_, rfl⟩
  rw [← hR] at hge ⊢
  have HGe : Hid (∀ x ∈ S, x.hi ≤ R) := hide hge.2
  have eR : decide (u ≤ R) = true := by simpa using hge.1
  have RB4 := hide (RB.out.kept k4 (fun _ _ h => h))
  have K4 := hide (K3.out.trans k4)
  clear k4 hge hR RB K3
  go_upto_region 5 with fail
  go_loopw [33] (fun iv wr => ∃ i : Nat, i ≤ m ∧ iv = .int .i64 (i : Int) ∧ Hid (Keeps (fun _ => False) w4 wr)) (fun iv _ => m - (intOf iv).toNat)
  case atStart => exact ⟨0, by omega, rfl, hide (Keeps.refl _ _)⟩
  case round =>
    obtain ⟨i, hi, rfl, K5⟩ := hrel
    obtain ⟨wo, rfl⟩ : ∃ wo : World, wo = wr := ⟨_, rfl⟩
    by_cases hlt : i < m
    · have e3 : decide (i < m) = true := by simpa using hlt
      have hlB := lnRd_len RB4.out
      obtain ⟨x, hx⟩ : ∃ x, S[i]? = some x := ⟨S[i]'(by rw [hlB]; exact hlt), List.getElem?_eq_getElem _⟩
      obtain ⟨b3, off3, rfl, _, p0, p1, p2⟩ := lnRd_at (RB4.out.kept K5.out (fun _ _ h => h)) hx (by omega)
      have hxm : x ∈ S := List.mem_of_getElem? hx
      obtain ⟨x0, x1, x2⟩ := HSS.out x hxm
      have hxR := HGe.out x hxm
      have hiI : (i : Int) < (m : Int) := by omega
      clear hx hlB hxm
      by_cases hin : i < n3
      · have e4 : decide (i < n3) = true := by simpa using hin
        obtain ⟨wt, hwt⟩ : ∃ wt, z3[i]? = some wt := ⟨z3[i]'(by have := HW3.out.1; simp at this; omega), List.getElem?_eq_getElem _⟩
        have hwb := HB3.out wt (List.mem_of_getElem? hwt)
        obtain ⟨b6, off6, rfl, _, hc6⟩ := ((HW3.out.kept (K4.out.trans K5.out) (fun _ _ h => h))).2 (by omega)
        have q6 := hc6 i (.int .u8 wt) (by simp [hwt])
        have hinI : (i : Int) < (n3 : Int) := by omega
        obtain ⟨d0, hd0⟩ : ∃ d0, d0 = x.hi - x.lo := ⟨_, rfl⟩
        obtain ⟨d1, hd1⟩ : ∃ d1, d1 = d0 + 1 := ⟨_, rfl⟩
        have w0 : IntKind.u64.wrap (x.hi - x.lo) = d0 := by rw [IntKind.wrap_u64]; omega
        have w1' : IntKind.u64.wrap (d0 + 1) = d1 := by rw [IntKind.wrap_u64]; omega
        have ww : IntKind.u64.wrap wt = wt := by rw [IntKind.wrap_u64]; omega
        have hd1p : 0 < d1 := by omega
        have hmod := Int.emod_lt_of_pos wt hd1p
        have hmod0 := Int.emod_nonneg wt (show d1 ≠ 0 by omega)
        have htm : wt.tmod d1 = wt % d1 := Int.tmod_eq_emod_of_nonneg hwb.1
        obtain ⟨t, ht⟩ : ∃ t, t = x.lo + wt % d1 := ⟨_, rfl⟩
        have wt' : IntKind.u64.wrap (x.lo + wt % d1) = t := by rw [IntKind.wrap_u64]; omega
        have eT : decide (R < t) = false := by simp; omega
        have hdne : ¬ d1 = 0 := by omega
        clear hd0 hd1 ht hmod hmod0 hc6 hwt
        go_upto_region 9 with fail
        obtain ⟨gX, hgX⟩ : ∃ gX, gX = wo.heap.size := ⟨_, rfl⟩
        obtain ⟨w6, hw6⟩ : ∃ w6, w6 = wo.alloc (.cells #[.string x.key, .int .u64 x.lo, .int .u64 x.hi] 38) := ⟨_, rfl⟩
        rw [← hgX, ← hw6]
        have k6 : Keeps (fun _ => False) wo w6 := by rw [hw6]; exact (Keeps.refl _ _).alloc _
        have bX : Blk w6 gX 38 (lnC x).toArray := by rw [hw6, hgX]; exact Blk.new _ _ _
        obtain ⟨t0, t1, t2⟩ := ln_cells bX
        have q6' := k6.cell_some q6 (fun h => h)
        have K6 := hide (K5.out.trans k6)
        clear hgX hw6 k6 bX p0 p1 p2 q6
        go_quiet (fail)
        have K7 := hide (K6.out.drewN nq)
        go_wp2_with fail
        go_roundw
        case rel => exact ⟨i + 1, by omega, by go_num, K7⟩
        case measure => simp [intOf]; omega
      · have e4 : decide (i < n3) = false := by simpa using hin
        have eT : decide (R < x.lo) = false := by simp; omega
        have K6 := hide (K5.out.alloc (.cells #[.string x.key, .int .u64 x.lo, .int .u64 x.hi] 38))
        go_wp2_with fail
        go_roundw
        case rel => exact ⟨i + 1, by omega, by go_num, K6⟩
        case measure => simp [intOf]; omega
    · have e3 : decide (i < m) = false := by simpa using hlt
      have K6 := hide (K4.out.trans K5.out)
      go_wp2_with fail
      refine (awake23 _).mono ?_
      rintro e w13 ⟨rfl, k13⟩
      have K13 := hide (K6.out.trans k13)
      clear k13
      go_wp2_with fail
      go_ret
      exact ⟨rfl, K13.out⟩
theorem walk (w : World) (A1 : Option Addr) (n1 c1 : Nat) (z1 : List Int) (r1 : Rd w w.heap.size A1 1 n1 (z1.map (.int .i64))) (b1 : ∀ z ∈ z1, -9223372036854775808 ≤ z ∧ z < 9223372036854775808) (s1 : n1 * 8 ≤ 140737488351232) (l1 : n1 ≤ c1)
    (A2 : Option Addr) (n2 c2 : Nat) (z2 : List Int) (r2 : Rd w w.heap.size A2 1 n2 (z2.map (.int .u8))) (b2 : ∀ z ∈ z2, 0 ≤ z ∧ z < 256) (s2 : n2 * 1 ≤ 140737488351232) (l2 : n2 ≤ c2)
    (y : Int) (y0 : 0 ≤ y) (y1 : y < 256) (u : Int) (u0 : 0 ≤ u) (u1 : u < 256) :
    Calls Try.prog 5 #[.slice A1 n1 c1, .slice A2 n2 c2, .int .u8 y, .int .u8 u] w fun e w' => e = .returned (.bool true) ∧ Below w.heap.size w w' :=
  (main w A1 n1 c1 z1 r1 b1 (by omega) A2 n2 c2 z2 r2 b2 (by omega) y y0 y1 u u0 u1).mono fun e w' ⟨he, hk⟩ => ⟨he, hk.done⟩
end topOmitted
end Go.Proofs.Ytmbgnekilgobaaa
