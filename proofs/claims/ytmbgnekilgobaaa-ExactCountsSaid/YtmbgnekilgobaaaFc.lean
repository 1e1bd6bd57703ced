/-
  ExactCounts. No conditions beyond those of the statement.
-/
import Derived.Test.YtmbgnekilgobaaaFa
set_option linter.unusedVariables false
set_option linter.unusedSimpArgs false
namespace Go.Proofs.Ytmbgnekilgobaaa
open Go.RowKit
namespace exactCounts
theorem one_yes (y : Ln) : foundK [y] y.key = true ∧ posK [y] y.key = 0 ∧ getE [y] y.key = y := by
  have h : posK [y] y.key = 0 := by unfold posK; rw [List.takeWhile_cons, if_neg (by rw [kLt_irr y _ rfl]; decide)]; rfl
  have h2 : foundK [y] y.key = true := by unfold foundK; rw [h]; exact (cmp_zero _ _).2 rfl
  exact ⟨h2, h, by unfold getE; rw [h2, h]; rfl⟩
theorem one_no (y : Ln) (k : ByteArray) (h : y.key ≠ k) : foundK [y] k = false := pl_no (fun x hx => by rw [List.mem_singleton.1 hx]; exact h)
theorem add_yes (y : Ln) (z : Int) (h0 : 0 ≤ y.lo) (h1 : y.lo ≤ 10000000) (h2 : 0 ≤ y.hi) (h3 : y.hi < 10) (z0 : 0 ≤ z) (z1 : z < 65536) : addC [y] y.key z = 0 ∧ addL [y] y.key z = [⟨y.key, y.lo + z, y.hi⟩] := by
  obtain ⟨e1, e2, e3⟩ := one_yes y
  have hf : fit3 y.lo y.hi z = true := by unfold fit3; simp; omega
  have hC : addC [y] y.key z = 0 := by unfold addC; rw [e1, e3, hf]; rfl
  exact ⟨hC, by unfold addL; rw [if_pos hC, e2, e3]; rfl⟩
theorem add_no (y : Ln) (k : ByteArray) (z : Int) (h : y.key ≠ k) : addC [y] k z = 8 ∧ addL [y] k z = [y] := by
  have hC : addC [y] k z = 8 := by unfold addC; rw [one_no y k h]; rfl
  exact ⟨hC, by unfold addL; rw [if_neg (by rw [hC]; decide)]⟩
theorem put_one (x : Ln) (hk : 2 ≤ x.key.size) (h0 : 0 ≤ x.lo) (h1 : x.lo < 30) (h2 : 0 ≤ x.hi) (h3 : x.hi < 10) : putC 32 0 [] x = 0 ∧ putL 32 0 [] x = [x] := by
  have e1 : (x.key.toList == []) = false := by
    rcases e : (x.key.toList == []) with _ | _
    · rfl
    · rw [beq_iff_eq, ByteArray.toList_eq] at e
      have : x.key.size = 0 := by
        show x.key.data.size = 0
        rw [← Array.length_toList, e]; rfl
      omega
  have hf : fit3 x.lo x.hi 0 = true := by unfold fit3; simp; omega
  have hC : putC 32 0 [] x = 0 := by unfold putC; rw [e1, hf]; rfl
  exact ⟨hC, by unfold putL; rw [if_pos hC]; rfl⟩
set_option maxRecDepth 100000 in
set_option maxHeartbeats 1000000 in
theorem main (w : World) (A : Option Addr) (n c : Nat) (z : List Int) (r : Rd w w.heap.size A 1 n (z.map (.int .i64))) (b : ∀ v ∈ z, -9223372036854775808 ≤ v ∧ v < 9223372036854775808) (hn : n ≤ 35184372088832)
    (A2 : Option Addr) (n2 c2 : Nat) (z2 : List Int) (r2 : Rd w w.heap.size A2 1 n2 (z2.map (.int .u16))) (b2 : ∀ v ∈ z2, 0 ≤ v ∧ v < 65536) :
    Calls Try.prog 11 #[.slice A n c, .slice A2 n2 c2] w fun e w' => e = .returned (.bool true) ∧ Keeps (fun k => ¬ k < w.heap.size) w w' := by
  obtain ⟨B, hB⟩ : ∃ B, B = w.heap.size := ⟨_, rfl⟩
  rw [← hB] at r r2 ⊢
  have HB := hide hB
  have R := hide r
  have R2 := hide r2
  have HZ := hide b
  have HZ2 := hide b2
  have HL2 : Hid (z2.length = n2) := hide (by simpa using r2.1)
  clear r r2 b b2 hB
  go_enter Try.func11, Try.ntmps11
  go_wp2_with fail
  refine (enew_ok 32 w (by omega) (by omega)).mono ?_
  rintro e w1 ⟨rfl, hw1⟩
  obtain ⟨s, hs⟩ : ∃ s, s = w.heap.size := ⟨_, rfl⟩
  rw [← hs]
  have HS1 := hide (show IsS w1 (fun k => k < B) s 32 [] from by rw [hw1]; exact IsS.new w _ 32 _ hs (fun k h => by have := HB.out; omega) (by omega) (by omega))
  have K1 : Hid (Keeps (fun _ => False) w w1) := hide (by rw [hw1]; exact (Keeps.refl _ _).alloc _)
  have hBs : B ≤ s := by have := HB.out; omega
  have hz1 : s < w1.heap.size := HS1.out.lt
  have HSs := hide hs
  clear hw1 hs
  go_wp2_with fail
  refine (new_deck A n c z B w1 (by omega) (R.out.kept K1.out (fun _ _ h => h)) HZ.out hn).mono ?_
  rintro e w2 ⟨rfl, d2, k2⟩
  obtain ⟨g, hg⟩ : ∃ g, g = w1.heap.size := ⟨_, rfl⟩
  rw [← hg] at d2 ⊢
  have D2 := hide d2
  have hgl : g < w2.heap.size := d2.lt
  have hsg : s < g := by omega
  have HS2 := hide (HS1.out.grow k2 (fun _ h => h.elim))
  have K2 := hide (K1.out.trans k2)
  have HG := hide hg
  clear d2 k2 hg HS1
  go_wp2_with fail
  refine (entry_any B g w2 D2.out).mono ?_
  rintro e w3 ⟨x, rfl, x0, x1, x2, x3, x4, x5, d3, k3⟩
  obtain ⟨gx, hgx⟩ : ∃ gx, gx = w3.heap.size := ⟨_, rfl⟩
  obtain ⟨w4, hw4⟩ : ∃ w4, w4 = w3.alloc (.cells (lnC x).toArray 53) := ⟨_, rfl⟩
  have k4 : Keeps (· = g) w2 w4 := by rw [hw4]; exact k3.alloc _
  have D4 : Hid (IsDeck w4 B g) := hide (by rw [hw4]; exact d3.kept ((Keeps.refl (fun _ => False) _).alloc _) (fun h => h) (fun _ _ h => h))
  have HX4 : Hid (Blk w4 gx 53 (lnC x).toArray) := hide (by rw [hw4, hgx]; exact Blk.new _ _ _)
  have hgx2 : w2.heap.size ≤ gx ∧ gx < w4.heap.size := ⟨by rw [hgx]; exact k3.size, HX4.out.lt⟩
  have HS4 : Hid (IsS w4 (fun k => k < B ∨ k = g ∨ k = gx) s 32 []) := hide ((HS2.out.grow k4 (fun k h => by have := HG.out; omega)).less (fun k h => by have := HG.out; omega))
  have K4 := hide ((K2.out.weak (S' := fun k => ¬ k < B) (fun _ _ h => h.elim)).trans (k4.weak (fun q _ e => by omega)))
  have HGX := hide hgx
  have HW4 := hide hw4
  unfold lnC at HW4
  clear hgx hw4 k3 k4 d3 D2 HS2
  go_upto_region 6 with fail
  rw [← HGX.out, ← HW4.out]
  obtain ⟨c40, c41, c42⟩ := ln_cells HX4.out
  have hgxl := HX4.out.lt
  obtain ⟨hp1, hp2⟩ := put_one x x0 x2 x3 x4 x5
  have HP1 := hide hp1
  have HP2 := hide hp2
  clear hp1 hp2
  go_wp2_with fail
  refine (sput_any w4 _ _ _ _ x HS4.out (fun k h => by have := D4.out.lt; omega) ⟨by omega, by omega⟩).mono ?_
  rintro e w5 ⟨rfl, h5, k5⟩
  rw [show putL 32 ([] : List Ln).length [] x = [x] from HP2.out] at h5
  rw [show putC 32 ([] : List Ln).length [] x = 0 from HP1.out]
  have HS5 := hide h5
  have D5 := hide (D4.out.kept k5 (fun h => h (by omega)) (fun q hq h => h (by omega)))
  have HX5 := hide (HX4.out.kept k5 (fun h => h (by omega)))
  have K5 := hide (K4.out.trans (k5.weak (S' := fun k => ¬ k < B) (fun q _ h e => h (by omega))))
  obtain ⟨c50, c51, c52⟩ := ln_cells HX5.out
  have hgxl5 := HX5.out.lt
  have hz5 := k5.size
  clear h5 k5 c40 c41 c42 hgxl
  go_upto_region 10 with fail
  go_loopw [9, 10] (fun ov iv wr => ∃ (i : Nat) (v : Int), i ≤ n2 ∧ i ≤ 50 ∧ ov = .int .u64 v ∧ iv = .int .i64 (i : Int) ∧ 0 ≤ v ∧ v ≤ 30 + i * 65536 ∧ Hid (IsS wr (fun k => k < B ∨ k = g ∨ k = gx) s 32 [⟨x.key, v, x.hi⟩]) ∧ Hid (Blk wr gx 53 (lnC x).toArray) ∧ Hid (IsDeck wr B g) ∧ Hid (Keeps (fun k => ¬ k < B) w wr)) (fun _ iv _ => 50 - (intOf iv).toNat)
  case atStart => exact ⟨0, x.lo, by omega, by omega, rfl, rfl, by omega, by omega, HS5, HX5, D5, K5⟩
  case round =>
    obtain ⟨i, v, hi1, hi2, rfl, rfl, v0, v1, HS, HX, HD, HK⟩ := hrel
    obtain ⟨wo, rfl⟩ : ∃ wo : World, wo = wr := ⟨_, rfl⟩
    clear HS5 HX5 D5 K5 c50 c51 c52 hgxl5 D4 HX4 HS4 HW4 HGX
    by_cases hlt : i < n2 ∧ i < 50
    · have e1 : decide (i < n2) = true := by simp; omega
      have e2 : decide ((i : Int) < 50) = true := by simp; omega
      have hi3 : (i : Int) < (n2 : Int) := by omega
      obtain ⟨q, hq⟩ : ∃ q, z2[i]? = some q := ⟨z2[i]'(by rw [HL2.out]; omega), List.getElem?_eq_getElem _⟩
      have hqb := HZ2.out q (List.mem_of_getElem? hq)
      obtain ⟨b2, off2, rfl, hb2, hc2⟩ := R2.out.2 (by omega)
      have hcq0 := hc2 i (.int .u16 q) (by rw [List.getElem?_map, hq]; rfl)
      have HCq := hide hcq0
      have wq : IntKind.u64.wrap q = q := by rw [IntKind.wrap_u64]; omega
      have wvq : IntKind.u64.wrap (v + q) = v + q := by rw [IntKind.wrap_u64]; omega
      have HYl : Hid (∀ k, foundK [(⟨x.key, v, x.hi⟩ : Ln)] k = foundK [(⟨x.key, v, x.hi⟩ : Ln)] k) := hide (fun _ => rfl)
      obtain ⟨hay1, hay2⟩ := add_yes ⟨x.key, v, x.hi⟩ q v0 (by show v ≤ _; omega) x4 x5 hqb.1 hqb.2
      have HA1 := hide hay1
      have HA2 := hide hay2
      clear hc2 hcq0 hq hay1 hay2 HYl
      go_wp2_with fail
      refine (short_any B g _ HD.out).mono ?_
      rintro e w6 ⟨t, rfl, t0, t1, d6, k6⟩
      have HS6 := hide (HS.out.kept k6 (fun q h => .inr (.inl h)))
      have HX6 := hide (HX.out.kept k6 (by omega))
      have D6 := hide d6
      have K6 := hide (HK.out.trans (k6.weak (S' := fun k => ¬ k < B) (fun q _ e => by omega)))
      have cq := K6.out.cell_some HCq.out (by dsimp only; omega)
      obtain ⟨c60, c61, c62⟩ := ln_cells HX6.out
      have hgx6 := HX6.out.lt
      clear d6 k6
      rcases hk : (t.toList == x.key.toList) with _ | _
      · obtain ⟨an1, an2⟩ := add_no ⟨x.key, v, x.hi⟩ t q (fun e => by rw [key_eq.2 e.symm] at hk; cases hk)
        have HN1 := hide an1
        have HN2 := hide an2
        clear an1 an2
        go_wp2_with fail
        refine (sadd_any w6 _ _ _ _ t q HS6.out ⟨by omega, by omega⟩).mono ?_
        rintro e w7 ⟨rfl, h7, k7⟩
        rw [HN2.out] at h7
        rw [HN1.out]
        have HS7 := hide h7
        have HX7 := hide (HX6.out.kept k7 (fun h => h (by omega)))
        have D7 := hide (D6.out.kept k7 (fun h => h (by omega)) (fun q hq h => h (by omega)))
        have K7 := hide (K6.out.trans (k7.weak (S' := fun k => ¬ k < B) (fun q _ h e => h (by omega))))
        obtain ⟨c70, c71, c72⟩ := ln_cells HX7.out
        have hgx7 := HX7.out.lt
        clear h7 k7 c60 c61 c62
        go_wp2_with fail
        go_roundw
        case rel => exact ⟨i + 1, v, by omega, by omega, rfl, by go_num, by omega, by push_cast; omega, HS7, HX7, D7, K7⟩
        case measure => simp [intOf]; omega
      · obtain rfl : x.key = t := (key_eq.1 hk).symm
        go_wp2_with fail
        refine (sadd_any w6 _ _ _ _ x.key q HS6.out ⟨by omega, by omega⟩).mono ?_
        rintro e w7 ⟨rfl, h7, k7⟩
        rw [HA2.out] at h7
        rw [HA1.out]
        have HS7 := hide h7
        have HX7 := hide (HX6.out.kept k7 (fun h => h (by omega)))
        have D7 := hide (D6.out.kept k7 (fun h => h (by omega)) (fun q hq h => h (by omega)))
        have K7 := hide (K6.out.trans (k7.weak (S' := fun k => ¬ k < B) (fun q _ h e => h (by omega))))
        obtain ⟨c70, c71, c72⟩ := ln_cells HX7.out
        have hgx7 := HX7.out.lt
        clear h7 k7 c60 c61 c62
        go_wp2_with fail
        go_roundw
        case rel => exact ⟨i + 1, v + q, by omega, by omega, rfl, by go_num, by omega, by push_cast; omega, HS7, HX7, D7, K7⟩
        case measure => simp [intOf]; omega
    · obtain ⟨c50, c51, c52⟩ := ln_cells HX.out
      have hgx5 := HX.out.lt
      obtain ⟨o1, o2, o3⟩ := one_yes ⟨x.key, v, x.hi⟩
      have HO1 := hide o1
      have HO3 := hide o3
      clear o1 o2 o3
      have hee : decide (i < n2) = false ∨ (decide (i < n2) = true ∧ decide ((i : Int) < 50) = false) := by
        by_cases h1 : i < n2
        · exact .inr ⟨by simpa using h1, by simp; omega⟩
        · exact .inl (by simpa using h1)
      clear hlt
      rcases hee with e1 | ⟨e1, e2⟩
      all_goals
        go_wp2_with fail
        refine (sget_any wo _ _ _ _ x.key HS.out).mono ?_
        rintro e w6 ⟨rfl, k6⟩
        rw [show getE [(⟨x.key, v, x.hi⟩ : Ln)] x.key = ⟨x.key, v, x.hi⟩ from HO3.out, show foundK [(⟨x.key, v, x.hi⟩ : Ln)] x.key = true from HO1.out]
        have k7 := k6.alloc (.cells #[.string x.key, .int .u64 v, .int .u64 x.hi] 53)
        have HS7 := hide (HS.out.kept k7 (fun _ h => h.elim))
        have HX7 := hide (HX.out.kept k6 (fun h => h))
        have K7 := hide (HK.out.trans (k7.weak (S' := fun k => ¬ k < B) (fun _ _ h => h.elim)))
        obtain ⟨c60, c61, c62⟩ := ln_cells HX7.out
        have hgx6 := HX7.out.lt
        clear k6 k7 c50 c51 c52 hgx5
        go_wp2_with fail
        refine (slen_any _ _ _ _ _ HS7.out).mono ?_
        rintro e w8 ⟨rfl, rfl⟩
        go_wp2_with fail
        refine (awake17 _).mono ?_
        rintro e w9 ⟨rfl, k9⟩
        have K9 := hide (K7.out.trans (k9.weak (S' := fun k => ¬ k < B) (fun _ _ h => h.elim)))
        clear k9
        go_wp2_with fail
        go_ret
        exact ⟨rfl, K9.out⟩
theorem walk (w : World) (A1 : Option Addr) (n1 c1 : Nat) (z1 : List Int) (r1 : Rd w w.heap.size A1 1 n1 (z1.map (.int .i64))) (b1 : ∀ z ∈ z1, -9223372036854775808 ≤ z ∧ z < 9223372036854775808) (s1 : n1 * 8 ≤ 140737488351232) (l1 : n1 ≤ c1)
    (A2 : Option Addr) (n2 c2 : Nat) (z2 : List Int) (r2 : Rd w w.heap.size A2 1 n2 (z2.map (.int .u16))) (b2 : ∀ z ∈ z2, 0 ≤ z ∧ z < 65536) (s2 : n2 * 2 ≤ 140737488351232) (l2 : n2 ≤ c2) :
    Calls Try.prog 11 #[.slice A1 n1 c1, .slice A2 n2 c2] w fun e w' => e = .returned (.bool true) ∧ Below w.heap.size w w' :=
  (main w A1 n1 c1 z1 r1 b1 (by omega) A2 n2 c2 z2 r2 b2).mono fun e w' ⟨he, hk⟩ => ⟨he, hk.below (fun k h1 h2 => h2 h1)⟩
end exactCounts
end Go.Proofs.Ytmbgnekilgobaaa
