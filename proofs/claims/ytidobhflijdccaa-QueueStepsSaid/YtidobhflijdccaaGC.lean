/-
  QueueSteps: the walk. No conditions beyond those of the statement. QueueSteps: the walk, as the law asks for it. No conditions beyond those of the statement.
-/
import Derived.Test.YtidobhflijdccaaGB
import Derived.Test.YtidobhflijdccaaOh
import Derived.Test.YtidobhflijdccaaArgQ
import Derived.Deep.CutRange
import Derived.Deep.CutBlock
import Derived.Deep.RegionHeld3
import Derived.BigQuiet
set_option linter.unusedVariables false
set_option linter.unusedSimpArgs false
namespace Go.Proofs.Ytidobhflijdccaa
open Go.RowKit Cfp
namespace queueSteps
theorem i64_and3 (n : Int) : bits .and .i64 n 3 = n % 4 := by
  have h15 : (BitVec.ofInt 64 3).toNat = 2 ^ 2 - 1 := by decide
  have key : (BitVec.ofInt 64 n &&& BitVec.ofInt 64 3).toNat = (n % ((2 ^ 64 : Nat) : Int)).toNat % 2 ^ 2 := by
    rw [BitVec.toNat_and, BitVec.toNat_ofInt, h15, Nat.and_two_pow_sub_one_eq_mod]
  show IntKind.i64.wrap ((BitVec.ofInt 64 n &&& BitVec.ofInt 64 3).toNat : Nat) = n % 4
  rw [key, IntKind.wrap_i64]
  omega
theorem i64_and7 (n : Int) : bits .and .i64 n 7 = n % 8 := by
  have h15 : (BitVec.ofInt 64 7).toNat = 2 ^ 3 - 1 := by decide
  have key : (BitVec.ofInt 64 n &&& BitVec.ofInt 64 7).toNat = (n % ((2 ^ 64 : Nat) : Int)).toNat % 2 ^ 3 := by
    rw [BitVec.toNat_and, BitVec.toNat_ofInt, h15, Nat.and_two_pow_sub_one_eq_mod]
  show IntKind.i64.wrap ((BitVec.ofInt 64 n &&& BitVec.ofInt 64 7).toNat : Nat) = n % 8
  rw [key, IntKind.wrap_i64]
  omega
theorem i64_and15 (n : Int) : bits .and .i64 n 15 = n % 16 := by
  have h15 : (BitVec.ofInt 64 15).toNat = 2 ^ 4 - 1 := by decide
  have key : (BitVec.ofInt 64 n &&& BitVec.ofInt 64 15).toNat = (n % ((2 ^ 64 : Nat) : Int)).toNat % 2 ^ 4 := by
    rw [BitVec.toNat_and, BitVec.toNat_ofInt, h15, Nat.and_two_pow_sub_one_eq_mod]
  show IntKind.i64.wrap ((BitVec.ofInt 64 n &&& BitVec.ofInt 64 15).toNat : Nat) = n % 16
  rw [key, IntKind.wrap_i64]
  omega
set_option maxRecDepth 1000000 in
set_option maxHeartbeats 8000000 in
theorem main (w : World) (x : Int) (x0 : 0 ≤ x) (x1 : x < 256) (A1 : Option Addr) (n1 c1 : Nat) (zs : List Int) (hd : Rd w w.heap.size A1 1 n1 (zs.map (.int .i64))) (hz : ∀ z ∈ zs, -9223372036854775808 ≤ z ∧ z < 9223372036854775808) (hn1 : n1 ≤ 17592186043904)
    (A2 : Option Addr) (n2 c2 : Nat) (z2 : List Int) (hd2 : Rd w w.heap.size A2 1 n2 (z2.map (.int .i64))) (hz2 : ∀ z ∈ z2, -9223372036854775808 ≤ z ∧ z < 9223372036854775808) (hn2 : n2 ≤ 17592186043904) (tx : ByteArray) (htx : tx.size ≤ 140737488351232)
    (rk : ByteArray) (hrk : rk.size ≤ 9223372036854775807) (rt : Int) (hrt : -9223372036854775808 ≤ rt ∧ rt < 9223372036854775808) (rw_ : Int) (hrw : 0 ≤ rw_ ∧ rw_ < 18446744073709551616) :
    Calls Try.prog 14 #[.int .u8 x, .slice A1 n1 c1, .slice A2 n2 c2, .string tx, .agg #[.string rk, .int .i64 rt, .int .u64 rw_]] w fun e w' => e = .returned (.bool true) ∧ Keeps (fun _ => False) w w' := by
  obtain ⟨g9, hg9⟩ : ∃ g, g = w.heap.size := ⟨_, rfl⟩
  obtain ⟨w0, hw0⟩ : ∃ w0, w0 = w.alloc (.cells #[.string rk, .int .i64 rt, .int .u64 rw_] 92) := ⟨_, rfl⟩
  have HP0 : Hid (Blk w0 g9 92 #[.string rk, .int .i64 rt, .int .u64 rw_]) := hide (by rw [hw0, hg9]; exact Blk.new _ _ _)
  have K0 : Hid (Keeps (fun _ => False) w w0) := hide (by rw [hw0]; exact (Keeps.refl _ _).alloc _)
  have hw9 : w.heap.size ≤ g9 := by omega
  have hg90 : g9 < w0.heap.size := HP0.out.lt
  have HD := hide hd
  have HD2 := hide hd2
  have HZ2 := hide hz2
  have HL2 : Hid (z2.length = n2) := hide (by simpa using hd2.1)
  have HG := hide hg9
  have HW0 := hide hw0
  clear hd hd2 hz2 hg9 hw0
  obtain ⟨⟨r0, r1, r2⟩, _, rl⟩ := HP0.out.three
  by_cases h300 : 300 < tx.size ∨ 300 < rk.size
  · by_cases h1 : 300 < tx.size
    · have e0 : decide ((300 : Int) < (tx.size : Int)) = true := by simp; omega
      clear h300 h1
      go_enter Try.func14, Try.ntmps14
      go_upto_region 1 with fail
      rw [← HG.out, ← HW0.out]
      go_wp2_with fail
      refine (awake27 _).mono ?_
      rintro e w' ⟨rfl, k⟩
      have K1 := hide (K0.out.trans k)
      clear k
      go_wp2_with fail
      go_ret
      exact ⟨rfl, K1.out⟩
    · have e0 : decide ((300 : Int) < (tx.size : Int)) = false := by simp; omega
      have e1 : decide ((300 : Int) < (rk.size : Int)) = true := by simp; omega
      clear h300 h1
      go_enter Try.func14, Try.ntmps14
      go_upto_region 1 with fail
      rw [← HG.out, ← HW0.out]
      go_wp2_with fail
      refine (awake27 _).mono ?_
      rintro e w' ⟨rfl, k⟩
      have K1 := hide (K0.out.trans k)
      clear k
      go_wp2_with fail
      go_ret
      exact ⟨rfl, K1.out⟩
  have ht3 : tx.size ≤ 300 := by omega
  have hr3 : rk.size ≤ 300 := by omega
  have e0 : decide ((300 : Int) < (tx.size : Int)) = false := by simp; omega
  have e1 : decide ((300 : Int) < (rk.size : Int)) = false := by simp; omega
  clear h300 htx hrk
  obtain ⟨n, hn⟩ : ∃ n : Nat, 1 + x % 12 = (n : Int) := ⟨(1 + x % 12).toNat, by omega⟩
  have hn12 : 1 ≤ n ∧ n ≤ 12 := by omega
  have wx8 : IntKind.i64.wrap x = x := IntWalk.i64_in _ (by omega)
  have wn : IntKind.i64.wrap (1 + x % 12) = (n : Int) := by rw [hn]; exact IntWalk.i64_in _ (by omega)
  go_enter Try.func14, Try.ntmps14
  go_upto_region 1 with fail
  rw [← HG.out, ← HW0.out]
  clear HG HW0
  go_wp2_with fail
  trace "MEM"
  refine (memory_any w0).mono ?_
  rintro e w1 ⟨a, p, gq, mb, B, s, L, rfl, hp, ha, hi, hwB, hB1, k1⟩
  have HP1 := hide hp
  have HA1 := hide ha
  have HI1 := hide hi
  have K1 := hide (K0.out.trans k1)
  have HR1 := hide (HP0.out.kept k1 (fun h => h))
  clear hp ha hi k1 r0 r1 r2 rl e0 e1 HP0
  go_wp2_with fail
  trace "QNEW"
  refine (qnew_ok w1 a p n (by omega) (by omega)).mono ?_
  rintro e w2 ⟨q, G, rfl, hq, k2⟩
  have HQ2 := hide (Q27.new hq hB1 (HP1.out.quiet k2) (HA1.out.quiet k2) HI1.out (Nat.le_trans hB1 k2.size) (by omega))
  have K2 := hide (K1.out.trans k2)
  have HR2 := hide (HR1.out.kept k2 (fun h => h))
  clear hq k2 HP1 HA1 HI1 K1 HR1 wn
  go_wp2_with fail
  trace "DECK"
  refine (new_deck A1 n1 c1 zs w.heap.size w2 K2.out.size (HD.out.kept K2.out (fun _ _ h => h)) hz (by omega)).mono ?_
  rintro e w3 ⟨rfl, d3, k3⟩
  obtain ⟨g, hg⟩ : ∃ g, g = w2.heap.size := ⟨_, rfl⟩
  have hgw : w.heap.size ≤ g := by have := K2.out.size; omega
  have HM : Hid (Mid w B q a p mb G n g g9 #[.string rk, .int .i64 rt, .int .u64 rw_] 0 none 0 0 [] w3) := hide ⟨⟨by rw [hg]; exact d3, K2.out.trans k3, HR2.out.kept k3 (fun h => h), by omega, by have := K0.out.size; omega, hw9, hgw⟩, WL.nil _ _, Nat.le_refl _, 0, by omega, by omega, HQ2.out.quiet k3⟩
  have HG := hide hg
  clear d3 k3 hg HQ2 K2 HR2 K0 HD
  go_upto_region 11 with fail
  rw [← HG.out]
  clear HG
  trace "LOOP"
  go_loopw [18, 19, 20, 21, 22, 23, 24, 25, 26] (fun lv iv _ _ _ _ _ _ _ wr => ∃ (i : Nat) (A : Option Addr) (m c : Nat) (W : List Wt), i ≤ 50 ∧ lv = .slice A m c ∧ iv = .int .i64 (i : Int) ∧ m ≤ n ∧ Hid (Mid w B q a p mb G n g g9 #[.string rk, .int .i64 rt, .int .u64 rw_] i A m c W wr)) (fun _ iv _ _ _ _ _ _ _ _ => 50 - (intOf iv).toNat)
  case atStart => exact ⟨0, none, 0, 0, [], by omega, rfl, rfl, by omega, HM⟩
  case round =>
    obtain ⟨i, A, m, c, W, hi, rfl, rfl, hmn, HR⟩ := hrel
    obtain ⟨wo, rfl⟩ : ∃ wo : World, wo = wr := ⟨_, rfl⟩
    clear HM
    by_cases hlt : i < n2 ∧ i < 50
    · obtain ⟨hlt1, hlt2⟩ := hlt
      have e1 : decide ((i : Int) < (n2 : Int)) = true := by simpa using hlt1
      have e2 : decide ((i : Int) < 50) = true := by simp; omega
      obtain ⟨b2, off2, rfl, hb2, hcell⟩ := (HD2.out.kept HR.out.rest.k (fun _ _ h => h)).2 (by omega)
      obtain ⟨v, hv⟩ : ∃ v, z2[i]? = some v := ⟨z2[i]'(by rw [HL2.out]; omega), List.getElem?_eq_getElem _⟩
      have hc1 := hcell i (.int .i64 v) (by rw [List.getElem?_map, hv]; rfl)
      have hvb := HZ2.out v (List.mem_of_getElem? hv)
      have hi3 : (i : Int) < (n2 : Int) := by omega
      clear hcell hv
      have h7 := i64_and7
      go_upto_region 15 with fail
      go_wp2_with fail
      trace "SHORT"
      refine (short_any w.heap.size g wo HR.out.rest.deck).mono ?_
      rintro e w4 ⟨sk, rfl, sk1, sk2, d4, k4⟩
      have HM4 := hide (HR.out.dk d4 k4)
      clear d4 k4 hc1
      go_wp2_with fail
      refine (next_any 100 (by omega) (by omega) w.heap.size g w4 HM4.out.rest.deck).mono ?_
      rintro e w5 ⟨tm0, rfl, tm1, tm2, d5, k5⟩
      have HM5 := hide (HM4.out.dk d5 k5)
      clear d5 k5 HM4
      go_wp2_with fail
      trace "WEIGHT"
      refine (weightD w.heap.size g w5 HM5.out.rest.deck).mono ?_
      rintro e w6 ⟨wg0, rfl, wg1, wg2, d6, k6⟩
      have HM6 := hide (HM5.out.dk d6 k6)
      clear d6 k6 HM5
      obtain ⟨gx, hgx⟩ : ∃ gx, gx = w6.heap.size := ⟨_, rfl⟩
      obtain ⟨w7, hw7⟩ : ∃ x, x = w6.alloc (.cells #[.string sk, .int .i64 tm0, .int .u64 wg0] 92) := ⟨_, rfl⟩
      have k7 : Keeps (fun _ => False) w6 w7 := by rw [hw7]; exact (Keeps.refl _ _).alloc _
      have HX7 : Hid (Blk w7 gx 92 #[.string sk, .int .i64 tm0, .int .u64 wg0]) := hide (by rw [hw7, hgx]; exact Blk.new _ _ _)
      have HM7 := hide (HM6.out.quiet k7)
      have h9x : g9 < gx := by have := HM6.out.rest.raw.lt; omega
      have HGX := hide hgx
      have HW7 := hide hw7
      clear hgx hw7 k7 HM6
      have h15 := i64_and15
      go_upto_block 2 with fail
      rw [← HGX.out, ← HW7.out]
      clear HGX HW7
      trace "B2"
      have hm16 : 0 ≤ v / 32 % 16 ∧ v / 32 % 16 < 16 := by omega
      generalize v / 32 % 16 = r at *
      have hnn : 0 ≤ v / 4 % 8 ∧ v / 4 % 8 < 8 := by omega
      generalize v / 4 % 8 = nn at *
      go_cut [21] from 93 to 101 (fun wv wx => ∃ (t : ByteArray) (z tm wg : Int), wv = .int .i64 z ∧ Blk wx gx 92 #[.string t, .int .i64 tm, .int .u64 wg] ∧ t.size ≤ 300 ∧ (0 ≤ wg ∧ wg < 18446744073709551616) ∧ Mid w B q a p mb G n g g9 #[.string rk, .int .i64 rt, .int .u64 rw_] i A m c W wx)
      case first =>
        by_cases r0 : r = 0
        · subst r0
          have f0 := HX7.out.frozen 0
          obtain ⟨⟨y0, y1, y2⟩, _, yl⟩ := HX7.out.three
          have HF : Hid (Blk (w7.setCell ⟨gx, 0, none⟩ (.string tx)) gx 92 #[.string tx, .int .i64 tm0, .int .u64 wg0] ∧ Mid w B q a p mb G n g g9 #[.string rk, .int .i64 rt, .int .u64 rw_] i A m c W (w7.setCell ⟨gx, 0, none⟩ (.string tx))) := hide ⟨HX7.out.set 0 _, HM7.out.item HX7.out (keepsOne w7 gx 0 _) h9x⟩
          go_wp2_with fail
          go_meet
          exact ⟨tx, nn, tm0, wg0, rfl, HF.out.1, ht3, ⟨wg1, wg2⟩, HF.out.2⟩
        have f0 : (r == 0) = false := by simpa using r0
        by_cases r1 : r = 1
        · subst r1
          go_upto_region 20 with fail
          trace "R20"
          obtain ⟨⟨y0, y1, y2⟩, ⟨fy0, fy1, fy2⟩, yl⟩ := HX7.out.three
          obtain ⟨⟨z0, z1, z2⟩, _, zl⟩ := HM7.out.rest.raw.three
          obtain ⟨wn, hwn⟩ : ∃ x, x = (((w7.setCell ⟨gx, 0, none⟩ (.string rk)).setCell ⟨gx, 1, none⟩ (.int .i64 rt)).setCell ⟨gx, 2, none⟩ (.int .u64 rw_)).drew := ⟨_, rfl⟩
          have kn : Keeps (· = gx) w7 wn := by rw [hwn]; exact (((keepsOne w7 gx 0 _).trans (keepsOne _ gx 1 _)).trans (keepsOne _ gx 2 _)).drew
          have bn : Blk wn gx 92 #[.string rk, .int .i64 rt, .int .u64 rw_] := by rw [hwn]; exact (((HX7.out.set 0 _).set 1 _).set 2 _).drew
          have HF : Hid (Blk wn gx 92 #[.string rk, .int .i64 rt, .int .u64 rw_] ∧ Mid w B q a p mb G n g g9 #[.string rk, .int .i64 rt, .int .u64 rw_] i A m c W wn) := hide ⟨bn, HM7.out.item HX7.out kn h9x⟩
          have hne9 : ¬ g9 = gx := by omega
          have HSn : Hid (wn.cell? ⟨g9, 0, none⟩ = some (.string rk) ∧ wn.cell? ⟨g9, 1, none⟩ = some (.int .i64 rt) ∧ wn.cell? ⟨g9, 2, none⟩ = some (.int .u64 rw_)) := hide ⟨kn.cell_some z0 hne9, kn.cell_some z1 hne9, kn.cell_some z2 hne9⟩
          have HWn := hide hwn
          clear kn bn hwn
          refine wp_region_held_drew (S := fun V => V.cell? ⟨g9, 0, none⟩ = some (.string rk) ∧ V.cell? ⟨g9, 1, none⟩ = some (.int .i64 rt) ∧ V.cell? ⟨g9, 2, none⟩ = some (.int .u64 rw_)) (by kernel_rfl) ⟨z0, z1, z2⟩ (fun hHeld => ?_)
          refine wpAnyH_take (i := 0) (v := ?_) rfl (by kernel_rfl) (by kernel_rfl) (by kernel_rfl) (fun _ _ _ h => h) (Or.inl ⟨by first | kernel_rfl | rfl, ?_⟩) (by assumption) ?_; rotate_left; focus (intro w hSw; (try dsimp only at hSw); go_simp; try (with_reducible rfl)); (try simp only [Act.put, List.getElem_toArray, List.getElem_cons_succ, List.getElem_cons_zero, List.setIfInBounds_toArray, List.set_cons_zero, List.set_cons_succ])
          refine wpAnyH_take (i := 1) (v := ?_) rfl (by kernel_rfl) (by kernel_rfl) (by kernel_rfl) (fun _ _ _ h => h) (Or.inl ⟨by first | kernel_rfl | rfl, ?_⟩) (by assumption) ?_; rotate_left; focus (intro w hSw; (try dsimp only at hSw); go_simp; try (with_reducible rfl)); (try simp only [Act.put, List.getElem_toArray, List.getElem_cons_succ, List.getElem_cons_zero, List.setIfInBounds_toArray, List.set_cons_zero, List.set_cons_succ])
          refine wpAnyH_take (i := 2) (v := ?_) rfl (by kernel_rfl) (by kernel_rfl) (by kernel_rfl) (fun _ _ _ h => h) (Or.inl ⟨by first | kernel_rfl | rfl, ?_⟩) (by assumption) ?_; rotate_left; focus (intro w hSw; (try dsimp only at hSw); go_simp; try (with_reducible rfl)); (try simp only [Act.put, List.getElem_toArray, List.getElem_cons_succ, List.getElem_cons_zero, List.setIfInBounds_toArray, List.set_cons_zero, List.set_cons_succ])
          refine wpAnyH_ready (rs := [3]) (by kernel_rfl) (by simp) ?_
          refine AllReadyH.cons rfl (fun K hK => ?_) AllReadyH.nil
          go_simp
          rw [← HWn.out]
          refine hK.out _ _ HSn.out (fun _ => ?_)
          clear hK K
          (try simp only [Act.put, List.getElem_toArray, List.getElem_cons_succ, List.getElem_cons_zero, List.setIfInBounds_toArray, List.set_cons_zero, List.set_cons_succ])
          refine wpAnyH_take (i := 4) (v := ?_) rfl (by kernel_rfl) (by kernel_rfl) (by kernel_rfl) (fun _ _ _ h => h) (Or.inl ⟨by first | kernel_rfl | rfl, ?_⟩) (by assumption) ?_; rotate_left; focus (intro w hSw; (try dsimp only at hSw); go_simp; try (with_reducible rfl)); (try simp only [Act.put, List.getElem_toArray, List.getElem_cons_succ, List.getElem_cons_zero, List.setIfInBounds_toArray, List.set_cons_zero, List.set_cons_succ])
          refine wpAnyH_done (by kernel_rfl) ?_ _
          (try simp only [Act.put, List.getElem_toArray, List.getElem_cons_succ, List.getElem_cons_zero, List.setIfInBounds_toArray, List.set_cons_zero, List.set_cons_succ])
          clear y0 y1 y2 fy0 fy1 fy2 yl z0 z1 z2 zl HWn HSn
          go_wp2_with fail
          go_meet
          exact ⟨rk, rt, rt, rw_, rfl, HF.out.1, hr3, hrw, HF.out.2⟩
        have f1 : (r == 1) = false := by simpa using r1
        go_wp2_with fail
        go_meet
        exact ⟨sk, nn, tm0, wg0, rfl, HX7.out, by omega, ⟨wg1, wg2⟩, HM7.out⟩
      case rest =>
      obtain ⟨t, z, tm, wg, rfl, hx, ht, hwg, hm⟩ := hcut
      obtain ⟨w8, rfl⟩ : ∃ w8 : World, w8 = wc := ⟨_, rfl⟩
      have HX8 := hide hx
      have HM8 := hide hm
      clear hx hm HX7 HM7 hm16 hnn h7 h15 sk1 sk2 tm1 tm2 wg1 wg2 HR
      have h3 := i64_and3
      go_upto_if 104 with fail
      trace "IF"
      have hm4 : 0 ≤ v % 4 ∧ v % 4 < 4 := by omega
      generalize v % 4 = r at *
      clear hvb
      have HMst := hide HM8.out.q27
      go_cut [18, 23, 24, 25, 26] from 104 to 180 (fun lv _ _ _ _ wx => ∃ (A' : Option Addr) (m' c' : Nat) (W' : List Wt), lv = .slice A' m' c' ∧ Blk wx gx 92 #[.string t, .int .i64 tm, .int .u64 wg] ∧ Mid w B q a p mb G n g g9 #[.string rk, .int .i64 rt, .int .u64 rw_] (i + 1) A' m' c' W' wx)
      case first =>
        obtain ⟨M, hM0, hM1, hq27⟩ := HMst.out
        have HQ8 := hide hq27
        have hlm : Hid (W.length = m) := hide HM8.out.wl.len
        have hmc := HM8.out.mc
        clear hq27 HMst
        obtain ⟨⟨x0, x1, x2⟩, _, xl⟩ := HX8.out.three
        by_cases hr0 : r = 0
        · subst hr0
          rcases W with _ | ⟨y, W⟩
          · obtain rfl : m = 0 := hlm.out.symm
            go_wp2_with fail
            trace "POP0"
            refine (popnone27 HQ8.out).mono ?_
            rintro e wa ⟨rfl, ka⟩
            have HMA := hide ((HM8.out.quiet ka).more (Nat.le_succ i))
            have HXA := hide (HX8.out.kept ka (fun h => h))
            obtain ⟨gy, hgy⟩ : ∃ x, x = wa.heap.size := ⟨_, rfl⟩
            obtain ⟨wb, hwb⟩ : ∃ x, x = wa.alloc (.cells #[.string ⟨#[]⟩, .int .i64 0, .int .u64 0] 92) := ⟨_, rfl⟩
            have kb : Keeps (fun _ => False) wa wb := by rw [hwb]; exact (Keeps.refl _ _).alloc _
            have HY : Hid (Blk wb gy 92 #[.string ⟨#[]⟩, .int .i64 0, .int .u64 0]) := hide (by rw [hwb, hgy]; exact Blk.new _ _ _)
            have HMB := hide (HMA.out.quiet kb)
            have HXB := hide (HXA.out.kept kb (fun h => h))
            have HGY := hide hgy
            have HWB := hide hwb
            clear ka kb hgy hwb HMA HXA x0 x1 x2 xl HQ8
            go_upto_region 23 with fail
            rw [← HGY.out, ← HWB.out]
            refine Code.wp_mono ?_ (reg23n wb A c gy HY _ _ _ _ _ _ _ _ _ _ _ _ _ _ _ _ _ _ _ _ _ _ _ _ _ _ _ _ _ _ _ _ _ _ _ _ _ _ _ _ _ _ _ _ _ _ _ _ _ _ _ _ _ _ _ _ _ _ _ _ _ _ _ _ _ _ _ _ _ _ _ _ _ _ _ _ _ _ _ _ _ _ _ _ _ _ _ _ _ _ _ _ _ _ _ _ _ _ _ _ _ _ _ _ _ _ _ _ _ _ _ _ _ _ _ _ _ _ _ _ _ _ _ _ _ _ _ _ _ _ _ _ _ _ _ _ _ _ _ _ _ _ _ _ _ _ _ _ _ _ _ _ _ _ _ _ _ _ _ _ _ _ _ _ _ _ _ _ _ _ _ _ _ _ _ _ _ _ _ _ _ _ _ _ _ _ _ _ _ _ _ _ _ _ _ _ _ _ _ _ _ _ _ _ _ _ _ _ _ _ _ _ _ _ _ _ _ _ _ _)
            intro e a' wz hex
            cases e <;> (first | exact hex.elim | skip)
            obtain ⟨⟨u111, u112, u113, u114, u115, u116, u117, u118, u119, u120, u121, u122, u123, u124, u125, u126, u127, u128, u129, u130, u131, u132, u133, u134, u135, u136, u137, u138, u139, u140, u141, u142, u143, u144, u145, u146, rfl⟩, kz⟩ := hex
            have HMZ := hide (HMB.out.quiet kz)
            have HXZ := hide (HXB.out.kept kz (fun h => h))
            clear kz HMB HXB
            dsimp only
            trace "R23"
            go_wp2_with fail
            go_meet
            exact ⟨A, 0, c, [], rfl, HXZ.out, HMZ.out⟩
          · have hm1 : 1 ≤ m := by have := hlm.out; simp at this; omega
            go_wp2_with fail
            trace "POP1"
            refine (pop27 HQ8.out (by omega)).mono ?_
            rintro e wa ⟨rfl, hqa, ka⟩
            have RA := hide (HM8.out.rest.qs ka)
            have WA := hide (WL.qs HM8.out.wl ka)
            have HXA := hide (HX8.out.kept ka (QuS.not HX8.out (by decide) (by decide) (by decide) (by decide) (by decide) (by decide) (by decide)))
            have HQA := hide hqa
            obtain ⟨gy, hgy⟩ : ∃ x, x = wa.heap.size := ⟨_, rfl⟩
            obtain ⟨wb, hwb⟩ : ∃ x, x = wa.alloc (.cells #[.string ⟨y.text.toArray⟩, .int .i64 y.time, .int .u64 y.wgt] 92) := ⟨_, rfl⟩
            have kb : Keeps (fun _ => False) wa wb := by rw [hwb]; exact (Keeps.refl _ _).alloc _
            have HY : Hid (Blk wb gy 92 #[.string ⟨y.text.toArray⟩, .int .i64 y.time, .int .u64 y.wgt]) := hide (by rw [hwb, hgy]; exact Blk.new _ _ _)
            have RB := hide (RA.out.quiet kb)
            have WB := hide (WA.out.quiet kb)
            have HXB := hide (HXA.out.kept kb (fun h => h))
            have HQB := hide (HQA.out.quiet kb)
            have HGY := hide hgy
            have HWB := hide hwb
            obtain ⟨A', hsl, hrd, hbl⟩ := sub_lo (P := Try.prog) elemRw A m c .i64 1 (by omega) (by omega) hmc
            rw [show (1 : Int).toNat = 1 from rfl] at hsl hrd
            have HW2 : Hid (∀ V, WL V w.heap.size A m (y :: W) → WL V w.heap.size A' (m - 1) W) := hide (fun V h => ⟨by have := hlm.out; simp at this; omega, hrd V V.heap.size (rwCs (y :: W)) h.rd, fun k hk => h.bl k (hbl k hk)⟩)
            obtain ⟨lb, lo, rfl, hlb, l0, l1, l2, l3⟩ := WB.out.at (i := 0) (x := y) rfl
            simp only [Nat.zero_mul, Nat.add_zero] at l0 l1 l2 l3
            have hm1I : decide ((0 : Int) < (m : Int)) = true := by simp; omega
            have hm1N : decide (0 < m) = true := by simp; omega
            have hm0I : (0 : Int) < (m : Int) := by omega
            clear ka kb hgy hwb RA WA HXA HQA x0 x1 x2 xl HQ8 hqa hrd hbl
            go_upto_region 23 with fail
            rw [← HGY.out, ← HWB.out]
            refine Code.wp_mono ?_ (reg23s wb m c gy lb lo y hm1 HY l0 l1 l2 l3 hlb _ _ _ _ _ _ _ _ _ _ _ _ _ _ _ _ _ _ _ _ _ _ _ _ _ _ _ _ _ _ _ _ _ _ _ _ _ _ _ _ _ _ _ _ _ _ _ _ _ _ _ _ _ _ _ _ _ _ _ _ _ _ _ _ _ _ _ _ _ _ _ _ _ _ _ _ _ _ _ _ _ _ _ _ _ _ _ _ _ _ _ _ _ _ _ _ _ _ _ _ _ _ _ _ _ _ _ _ _ _ _ _ _ _ _ _ _ _ _ _ _ _ _ _ _ _ _ _ _ _ _ _ _ _ _ _ _ _ _ _ _ _ _ _ _ _ _ _ _ _ _ _ _ _ _ _ _ _ _ _ _ _ _ _ _ _ _ _ _ _ _ _ _ _ _ _ _ _ _ _ _ _ _ _ _ _ _ _ _ _ _ _ _ _ _ _ _ _ _ _ _ _ _ _ _ _ _ _ _ _ _ _ _ _ _ _ _ _ _ _)
            intro e a' wz hex
            cases e <;> (first | exact hex.elim | skip)
            obtain ⟨⟨u111, u112, u113, u114, u115, u116, u117, u118, u119, u120, u121, u122, u123, u124, u125, u126, u127, u128, u129, u130, u131, u132, u133, u134, u135, u136, u137, u138, u139, u140, u141, u142, u143, u144, u145, u146, rfl⟩, kz⟩ := hex
            have KZ := hide kz
            clear kz l0 l1 l2 l3
            dsimp only
            trace "R23b"
            go_wp2_with fail
            trace "R26"
            go_meet
            have kz := KZ.out
            exact ⟨A', m - 1, c - 1, W, rfl, HXB.out.kept kz (fun h => h), ⟨RB.out.quiet kz, HW2.out _ (WB.out.quiet kz), by omega, M, hM0, by omega, HQB.out.quiet kz⟩⟩
        · have hrb : (r == 0) = false := by simpa using hr0
          have hlen8 : t.data.toList.length = t.size := by rw [Array.length_toList]; rfl
          by_cases hfull : m = n
          · have q1 : ((m : Int) == (n : Int)) = true := by rw [beq_iff_eq]; omega
            have q1n : (m == n) = true := by simpa using hfull
            have hfl : W.length = n := by rw [hlm.out]; exact hfull
            have HC := hide (pushfull27 HQ8.out hfl t z tm wg)
            clear hfull hfl
            go_wp2_with fail
            refine HC.out.mono ?_
            rintro e wa ⟨rfl, ka⟩
            have HMA := hide ((HM8.out.quiet ka).more (Nat.le_succ i))
            have HXA := hide (HX8.out.kept ka (fun h => h))
            clear ka x0 x1 x2 xl HC
            go_wp2_with fail
            trace "FULL"
            go_meet
            exact ⟨A, m, c, W, rfl, HXA.out, HMA.out⟩
          have hlt8 : W.length < n := by rw [hlm.out]; omega
          have q1 : ((m : Int) == (n : Int)) = false := by rw [beq_eq_false_iff_ne]; omega
          have q1n : (m == n) = false := by simpa using hfull
          by_cases h0 : t.size = 0
          · have hne : t.toList.isEmpty = true := by rw [ByteArray.toList_eq, List.eq_nil_of_length_eq_zero (by omega : t.data.toList.length = 0)]; rfl
            have HC := pushkey27 HQ8.out hlt8 t (by omega) (.inl h0) z tm wg
            rw [if_pos h0] at HC
            have HC := hide HC
            clear hfull hlt8 h0 hlen8
            go_wp2_with fail
            refine HC.out.mono ?_
            rintro e wa ⟨rfl, ka⟩
            have HMA := hide ((HM8.out.quiet ka).more (Nat.le_succ i))
            have HXA := hide (HX8.out.kept ka (fun h => h))
            clear ka x0 x1 x2 xl HC
            go_wp2_with fail
            trace "EMPTY"
            go_meet
            exact ⟨A, m, c, W, rfl, HXA.out, HMA.out⟩
          have hne : t.toList.isEmpty = false := by
            rw [ByteArray.toList_eq]
            rcases hx : t.data.toList with _ | _
            · rw [hx] at hlen8; simp at hlen8; omega
            · rfl
          by_cases h255 : 255 < t.size
          · have q2 : decide ((255 : Int) < (t.size : Int)) = true := by simp; omega
            have HC := pushkey27 HQ8.out hlt8 t (by omega) (.inr h255) z tm wg
            rw [if_neg h0] at HC
            have HC := hide HC
            clear hfull hlt8 h0 hlen8 h255
            go_wp2_with fail
            refine HC.out.mono ?_
            rintro e wa ⟨rfl, ka⟩
            have HMA := hide ((HM8.out.quiet ka).more (Nat.le_succ i))
            have HXA := hide (HX8.out.kept ka (fun h => h))
            clear ka x0 x1 x2 xl HC
            go_wp2_with fail
            trace "LONG"
            go_meet
            exact ⟨A, m, c, W, rfl, HXA.out, HMA.out⟩
          have q2 : decide ((255 : Int) < (t.size : Int)) = false := by simp; omega
          have HC := hide (push27 HQ8.out ⟨hM0, by omega⟩ hlt8 (fun s E L D h j => by have := h.livesB j; omega) t (by omega) (by omega) z tm wg hwg)
          clear hfull h0 h255
          go_wp2_with fail
          trace "PUSH"
          refine HC.out.mono ?_
          rintro e wa ⟨rfl, ⟨hh, idn, hqa⟩, ka⟩
          have RA := hide (HM8.out.rest.qs ka)
          have WA := hide (WL.qs HM8.out.wl ka)
          have HXA := hide (HX8.out.kept ka (QuS.not HX8.out (by decide) (by decide) (by decide) (by decide) (by decide) (by decide) (by decide)))
          have HQA := hide hqa
          clear ka hqa HC x0 x1 x2 xl HQ8
          obtain ⟨⟨x0, x1, x2⟩, _, xl⟩ := HXA.out.three
          go_upto_region 37 with fail
          trace "R37"
          obtain ⟨b5, hb5⟩ : ∃ b5, b5 = wa.heap.size := ⟨_, rfl⟩
          have htt : (⟨t.data.toList.toArray⟩ : ByteArray) = t := bytes_eqQ (by simp)
          have HFin : Hid (∀ (V : World) (A7 : Option Addr) (c7 : Nat), Keeps (fun _ => False) wa V → Own V b5 102 4 A7 (m + 1) c7 (rwCs W ++ [.int .i64 z, .string t, .int .i64 tm, .int .u64 wg]) → ∃ (A' : Option Addr) (m' c' : Nat) (W' : List Wt), Value.slice A7 (m + 1) c7 = .slice A' m' c' ∧ Blk V gx 92 #[.string t, .int .i64 tm, .int .u64 wg] ∧ Mid w B q a p mb G n g g9 #[.string rk, .int .i64 rt, .int .u64 rw_] (i + 1) A' m' c' W' V) := hide (fun V A7 c7 kV oV => by
            have hcs : rwCs (W ++ [⟨z, tm, wg, hh, idn, t.data.toList⟩]) = rwCs W ++ [.int .i64 z, .string t, .int .i64 tm, .int .u64 wg] := by
              rw [rwCs_app]
              show rwCs W ++ [Value.int .i64 z, .string ⟨t.data.toList.toArray⟩, .int .i64 tm, .int .u64 wg] = _
              rw [htt]
            rw [← hcs] at oV
            exact ⟨A7, m + 1, c7, _, rfl, HXA.out.kept kV (fun h => h), ⟨RA.out.quiet kV, WL.own (oV.base_le (by have := RA.out.k.size; omega)), oV.le, M + 1, by omega, by push_cast; omega, HQA.out.quiet kV⟩⟩)
          have HSg : Hid (∀ V, Keeps (fun _ => False) wa V → (V.cell? ⟨gx, 0, none⟩ = some (.string t) ∧ V.cell? ⟨gx, 1, none⟩ = some (.int .i64 tm) ∧ V.cell? ⟨gx, 2, none⟩ = some (.int .u64 wg))) := hide (fun V kV => ⟨kV.cell_some x0 (fun h => h), kV.cell_some x1 (fun h => h), kV.cell_some x2 (fun h => h)⟩)
          have RW := hide (WA.out.rd.drew)
          have KC : Hid (Keeps (fun _ => False) wa wa.drew) := hide ((Keeps.refl _ _).drew)
          have hmb : m ≤ 12 := by omega
          refine wp_region_held_drew (S := fun V => V.cell? ⟨gx, 0, none⟩ = some (.string t) ∧ V.cell? ⟨gx, 1, none⟩ = some (.int .i64 tm) ∧ V.cell? ⟨gx, 2, none⟩ = some (.int .u64 wg)) (by kernel_rfl) (HSg.out _ KC.out) (fun hHeld => ?_)
          refine wpAnyH_take (i := 1) (v := ?_) rfl (by kernel_rfl) (by kernel_rfl) (by kernel_rfl) (fun _ _ _ h => h) (Or.inl ⟨by first | kernel_rfl | rfl, ?_⟩) (by assumption) ?_; rotate_left; focus (intro w hSw; (try dsimp only at hSw); go_simp; try (with_reducible rfl)); (try simp only [Act.put, List.getElem_toArray, List.getElem_cons_succ, List.getElem_cons_zero, List.setIfInBounds_toArray, List.set_cons_zero, List.set_cons_succ])
          refine wpAnyH_take (i := 3) (v := ?_) rfl (by kernel_rfl) (by kernel_rfl) (by kernel_rfl) (fun _ _ _ h => h) (Or.inl ⟨by first | kernel_rfl | rfl, ?_⟩) (by assumption) ?_; rotate_left; focus (intro w hSw; (try dsimp only at hSw); go_simp; try (with_reducible rfl)); (try simp only [Act.put, List.getElem_toArray, List.getElem_cons_succ, List.getElem_cons_zero, List.setIfInBounds_toArray, List.set_cons_zero, List.set_cons_succ])
          refine wpAnyH_take (i := 4) (v := ?_) rfl (by kernel_rfl) (by kernel_rfl) (by kernel_rfl) (fun _ _ _ h => h) (Or.inl ⟨by first | kernel_rfl | rfl, ?_⟩) (by assumption) ?_; rotate_left; focus (intro w hSw; (try dsimp only at hSw); go_simp; try (with_reducible rfl)); (try simp only [Act.put, List.getElem_toArray, List.getElem_cons_succ, List.getElem_cons_zero, List.setIfInBounds_toArray, List.set_cons_zero, List.set_cons_succ])
          refine wpAnyH_take (i := 5) (v := ?_) rfl (by kernel_rfl) (by kernel_rfl) (by kernel_rfl) (fun _ _ _ h => h) (Or.inl ⟨by first | kernel_rfl | rfl, ?_⟩) (by assumption) ?_; rotate_left; focus (intro w hSw; (try dsimp only at hSw); go_simp; try (with_reducible rfl)); (try simp only [Act.put, List.getElem_toArray, List.getElem_cons_succ, List.getElem_cons_zero, List.setIfInBounds_toArray, List.set_cons_zero, List.set_cons_succ])
          obtain ⟨wc, hwc⟩ : ∃ x, x = wa.drew := ⟨_, rfl⟩
          have RW : Hid (Rd wc wc.heap.size A 4 m (rwCs W)) := hide (by rw [hwc]; exact RW.out)
          rw [← hwc] at KC
          rw [← hwc]
          clear hwc hHeld x0 x1 x2 xl htt
          refine wpAnyH_ready (rs := [0, 6]) (by kernel_rfl) (by simp) (AllReadyH.cons rfl (fun K hK => ?_) (AllReadyH.cons rfl (fun K hK => ?_) AllReadyH.nil))
          ·
            go_simp
            obtain ⟨g0, hg⟩ : ∃ x, x = wc.heap.size := ⟨_, rfl⟩
            obtain ⟨wn, hwn⟩ : ∃ x, x = wc.alloc (.cells #[] 102) := ⟨_, rfl⟩
            have k0 : Keeps (fun _ => False) wc wn := by rw [hwn]; exact (Keeps.refl _ _).alloc _
            have RW := hide (RW.out.keptB k0 (fun _ _ h => h))
            try (have N06 : Hid (g6 ≠ g0) := hide (fun e => by have := (L6.out.inB ((inB_some g6 0 g6).2 rfl)).2; omega))
            try (have L6 := hide (L6.out.kept k0 (fun _ _ h => h)))
            have L0 : Hid (Own wn b5 102 4 (some ⟨g0, 0, none⟩) 0 0 []) := hide (by rw [hwn]; exact Own.new0 wc b5 102 4 g0 hg (by have := KC.out.size; omega))
            have KC := hide (KC.out.trans k0)
            rw [← hwn, ← hg]
            refine hK.out _ _ (HSg.out _ KC.out) (fun _ => ?_)
            clear hK K hg hwn k0
            obtain ⟨wc, rfl⟩ : ∃ x : World, x = wn := ⟨_, rfl⟩
            (try simp only [Act.put, List.getElem_toArray, List.getElem_cons_succ, List.getElem_cons_zero, List.setIfInBounds_toArray, List.set_cons_zero, List.set_cons_succ])
            refine wpAnyH_ready (rs := [2, 6]) (by kernel_rfl) (by simp) (AllReadyH.cons rfl (fun K hK => ?_) (AllReadyH.cons rfl (fun K hK => ?_) AllReadyH.nil))
            ·
              refine step_app _ elemRw (by rfl) (.tmp 173) (.tmp 174) (by rfl) b5 (A := some ⟨g0, 0, none⟩) (n := 0) (c := 0) [] (by simp [Act.eval, Act.put]) L0.out _ (A2 := A) (m := m) (c2 := c) (rwCs W) (by simp [Act.eval, Act.put]) RW.out (rwCs_one _) (by simp only [maxLen]; omega) (by omega) (by have := KC.out.size; omega) ?_
              intro A2 c2 wn o8 k8 hA8
              rw [Nat.zero_add, List.nil_append] at o8
              try (have L6 := hide (L6.out.kept k8 (fun q hq e => N06.out (((inB_some _ _ _).1 hq).trans ((inB_some _ _ _).1 e).symm))))
              have KC := hide (KC.out.step k8 (fun q hq e => by have := (L0.out.inB e).1; have := (inB_some _ _ _).1 e; omega))
              have O2 := hide o8
              rw [Nat.zero_add]
              clear o8 k8 hA8 L0
              refine hK.out _ _ (HSg.out _ KC.out) (fun _ => ?_)
              clear hK K
              have RW : Hid (Rd wn wn.heap.size none 4 0 []) := hide (Rd.zero rfl)
              obtain ⟨wc, rfl⟩ : ∃ x : World, x = wn := ⟨_, rfl⟩
              (try simp only [Act.put, List.getElem_toArray, List.getElem_cons_succ, List.getElem_cons_zero, List.setIfInBounds_toArray, List.set_cons_zero, List.set_cons_succ])
              refine wpAnyH_ready (rs := [6]) (by kernel_rfl) (by simp) (AllReadyH.cons rfl (fun K hK => ?_) AllReadyH.nil)
              go_simp
              obtain ⟨g6, hg⟩ : ∃ x, x = wc.heap.size := ⟨_, rfl⟩
              obtain ⟨wn, hwn⟩ : ∃ x, x = wc.alloc (.cells #[.int .i64 z, .string t, .int .i64 tm, .int .u64 wg] 102) := ⟨_, rfl⟩
              have k0 : Keeps (fun _ => False) wc wn := by rw [hwn]; exact (Keeps.refl _ _).alloc _
              have RW := hide (RW.out.keptB k0 (fun _ _ h => h))
              try (have N06 : Hid (g6 ≠ g0) := hide (fun e => by have := (L0.out.inB ((inB_some g0 0 g0).2 rfl)).2; omega))
              try (have L0 := hide (L0.out.kept k0 (fun _ _ h => h)))
              try (have O2 := hide (O2.out.kept k0 (fun _ _ h => h)))
              have L6 : Hid (Own wn b5 102 4 (some ⟨g6, 0, none⟩) 1 1 [.int .i64 z, .string t, .int .i64 tm, .int .u64 wg]) := hide (by rw [hwn]; exact Own.new_at wc b5 _ #[.int .i64 z, .string t, .int .i64 tm, .int .u64 wg] 1 4 g6 hg (by have := KC.out.size; omega) (by simp [maxLen]) rfl)
              have KC := hide (KC.out.trans k0)
              rw [← hwn, ← hg]
              refine hK.out _ _ (HSg.out _ KC.out) (fun _ => ?_)
              clear hK K hg hwn k0
              obtain ⟨wc, rfl⟩ : ∃ x : World, x = wn := ⟨_, rfl⟩
              (try simp only [Act.put, List.getElem_toArray, List.getElem_cons_succ, List.getElem_cons_zero, List.setIfInBounds_toArray, List.set_cons_zero, List.set_cons_succ])
              refine wpAnyH_ready (rs := [7]) (by kernel_rfl) (by simp) (AllReadyH.cons rfl (fun K hK => ?_) AllReadyH.nil)
              refine step_app _ elemRw (by rfl) (.tmp 175) (.tmp 179) (by rfl) b5 (A := A2) (n := m) (c := c2) (rwCs W) (by simp [Act.eval, Act.put]) O2.out _ (A2 := some ⟨g6, 0, none⟩) (m := 1) (c2 := 1) [.int .i64 z, .string t, .int .i64 tm, .int .u64 wg] (by simp [Act.eval, Act.put]) (L6.out.rd (by omega)) (by simp [Value.oneCell']) (by simp only [maxLen]; omega) (by omega) (by have := KC.out.size; omega) ?_
              intro A7 c7 wn o8 k8 hA8
              have KC := hide (KC.out.step k8 (fun q hq e => by have := (O2.out.inB e).1; omega))
              have O7 := hide o8
              clear o8 k8 hA8
              refine hK.out _ _ (HSg.out _ KC.out) (fun _ => ?_)
              clear hK K
              obtain ⟨wc, rfl⟩ : ∃ x : World, x = wn := ⟨_, rfl⟩
              (try simp only [Act.put, List.getElem_toArray, List.getElem_cons_succ, List.getElem_cons_zero, List.setIfInBounds_toArray, List.set_cons_zero, List.set_cons_succ])
              refine wpAnyH_take (i := 8) (v := ?_) rfl (by kernel_rfl) (by kernel_rfl) (by kernel_rfl) (fun _ _ _ h => h) (Or.inl ⟨by first | kernel_rfl | rfl, ?_⟩) (by assumption) ?_; rotate_left; focus (intro w hSw; (try dsimp only at hSw); go_simp; try (with_reducible rfl)); (try simp only [Act.put, List.getElem_toArray, List.getElem_cons_succ, List.getElem_cons_zero, List.setIfInBounds_toArray, List.set_cons_zero, List.set_cons_succ])
              refine wpAnyH_done (by kernel_rfl) ?_ _
              (try simp only [Act.put, List.getElem_toArray, List.getElem_cons_succ, List.getElem_cons_zero, List.setIfInBounds_toArray, List.set_cons_zero, List.set_cons_succ])
              have HF := hide (HFin.out wc A7 c7 KC.out O7.out)
              clear HSg KC O7 O2 L6 RW
              go_wp2_with fail
              go_meet
              exact HF.out
            ·
              go_simp
              obtain ⟨g6, hg⟩ : ∃ x, x = wc.heap.size := ⟨_, rfl⟩
              obtain ⟨wn, hwn⟩ : ∃ x, x = wc.alloc (.cells #[.int .i64 z, .string t, .int .i64 tm, .int .u64 wg] 102) := ⟨_, rfl⟩
              have k0 : Keeps (fun _ => False) wc wn := by rw [hwn]; exact (Keeps.refl _ _).alloc _
              have RW := hide (RW.out.keptB k0 (fun _ _ h => h))
              try (have N06 : Hid (g6 ≠ g0) := hide (fun e => by have := (L0.out.inB ((inB_some g0 0 g0).2 rfl)).2; omega))
              try (have L0 := hide (L0.out.kept k0 (fun _ _ h => h)))
              try (have O2 := hide (O2.out.kept k0 (fun _ _ h => h)))
              have L6 : Hid (Own wn b5 102 4 (some ⟨g6, 0, none⟩) 1 1 [.int .i64 z, .string t, .int .i64 tm, .int .u64 wg]) := hide (by rw [hwn]; exact Own.new_at wc b5 _ #[.int .i64 z, .string t, .int .i64 tm, .int .u64 wg] 1 4 g6 hg (by have := KC.out.size; omega) (by simp [maxLen]) rfl)
              have KC := hide (KC.out.trans k0)
              rw [← hwn, ← hg]
              refine hK.out _ _ (HSg.out _ KC.out) (fun _ => ?_)
              clear hK K hg hwn k0
              obtain ⟨wc, rfl⟩ : ∃ x : World, x = wn := ⟨_, rfl⟩
              (try simp only [Act.put, List.getElem_toArray, List.getElem_cons_succ, List.getElem_cons_zero, List.setIfInBounds_toArray, List.set_cons_zero, List.set_cons_succ])
              refine wpAnyH_ready (rs := [2]) (by kernel_rfl) (by simp) (AllReadyH.cons rfl (fun K hK => ?_) AllReadyH.nil)
              refine step_app _ elemRw (by rfl) (.tmp 173) (.tmp 174) (by rfl) b5 (A := some ⟨g0, 0, none⟩) (n := 0) (c := 0) [] (by simp [Act.eval, Act.put]) L0.out _ (A2 := A) (m := m) (c2 := c) (rwCs W) (by simp [Act.eval, Act.put]) RW.out (rwCs_one _) (by simp only [maxLen]; omega) (by omega) (by have := KC.out.size; omega) ?_
              intro A2 c2 wn o8 k8 hA8
              rw [Nat.zero_add, List.nil_append] at o8
              try (have L6 := hide (L6.out.kept k8 (fun q hq e => N06.out (((inB_some _ _ _).1 hq).trans ((inB_some _ _ _).1 e).symm))))
              have KC := hide (KC.out.step k8 (fun q hq e => by have := (L0.out.inB e).1; have := (inB_some _ _ _).1 e; omega))
              have O2 := hide o8
              rw [Nat.zero_add]
              clear o8 k8 hA8 L0
              refine hK.out _ _ (HSg.out _ KC.out) (fun _ => ?_)
              clear hK K
              have RW : Hid (Rd wn wn.heap.size none 4 0 []) := hide (Rd.zero rfl)
              obtain ⟨wc, rfl⟩ : ∃ x : World, x = wn := ⟨_, rfl⟩
              (try simp only [Act.put, List.getElem_toArray, List.getElem_cons_succ, List.getElem_cons_zero, List.setIfInBounds_toArray, List.set_cons_zero, List.set_cons_succ])
              refine wpAnyH_ready (rs := [7]) (by kernel_rfl) (by simp) (AllReadyH.cons rfl (fun K hK => ?_) AllReadyH.nil)
              refine step_app _ elemRw (by rfl) (.tmp 175) (.tmp 179) (by rfl) b5 (A := A2) (n := m) (c := c2) (rwCs W) (by simp [Act.eval, Act.put]) O2.out _ (A2 := some ⟨g6, 0, none⟩) (m := 1) (c2 := 1) [.int .i64 z, .string t, .int .i64 tm, .int .u64 wg] (by simp [Act.eval, Act.put]) (L6.out.rd (by omega)) (by simp [Value.oneCell']) (by simp only [maxLen]; omega) (by omega) (by have := KC.out.size; omega) ?_
              intro A7 c7 wn o8 k8 hA8
              have KC := hide (KC.out.step k8 (fun q hq e => by have := (O2.out.inB e).1; omega))
              have O7 := hide o8
              clear o8 k8 hA8
              refine hK.out _ _ (HSg.out _ KC.out) (fun _ => ?_)
              clear hK K
              obtain ⟨wc, rfl⟩ : ∃ x : World, x = wn := ⟨_, rfl⟩
              (try simp only [Act.put, List.getElem_toArray, List.getElem_cons_succ, List.getElem_cons_zero, List.setIfInBounds_toArray, List.set_cons_zero, List.set_cons_succ])
              refine wpAnyH_take (i := 8) (v := ?_) rfl (by kernel_rfl) (by kernel_rfl) (by kernel_rfl) (fun _ _ _ h => h) (Or.inl ⟨by first | kernel_rfl | rfl, ?_⟩) (by assumption) ?_; rotate_left; focus (intro w hSw; (try dsimp only at hSw); go_simp; try (with_reducible rfl)); (try simp only [Act.put, List.getElem_toArray, List.getElem_cons_succ, List.getElem_cons_zero, List.setIfInBounds_toArray, List.set_cons_zero, List.set_cons_succ])
              refine wpAnyH_done (by kernel_rfl) ?_ _
              (try simp only [Act.put, List.getElem_toArray, List.getElem_cons_succ, List.getElem_cons_zero, List.setIfInBounds_toArray, List.set_cons_zero, List.set_cons_succ])
              have HF := hide (HFin.out wc A7 c7 KC.out O7.out)
              clear HSg KC O7 O2 L6 RW
              go_wp2_with fail
              go_meet
              exact HF.out
          ·
            go_simp
            obtain ⟨g6, hg⟩ : ∃ x, x = wc.heap.size := ⟨_, rfl⟩
            obtain ⟨wn, hwn⟩ : ∃ x, x = wc.alloc (.cells #[.int .i64 z, .string t, .int .i64 tm, .int .u64 wg] 102) := ⟨_, rfl⟩
            have k0 : Keeps (fun _ => False) wc wn := by rw [hwn]; exact (Keeps.refl _ _).alloc _
            have RW := hide (RW.out.keptB k0 (fun _ _ h => h))
            try (have N06 : Hid (g6 ≠ g0) := hide (fun e => by have := (L0.out.inB ((inB_some g0 0 g0).2 rfl)).2; omega))
            try (have L0 := hide (L0.out.kept k0 (fun _ _ h => h)))
            try (have O2 := hide (O2.out.kept k0 (fun _ _ h => h)))
            have L6 : Hid (Own wn b5 102 4 (some ⟨g6, 0, none⟩) 1 1 [.int .i64 z, .string t, .int .i64 tm, .int .u64 wg]) := hide (by rw [hwn]; exact Own.new_at wc b5 _ #[.int .i64 z, .string t, .int .i64 tm, .int .u64 wg] 1 4 g6 hg (by have := KC.out.size; omega) (by simp [maxLen]) rfl)
            have KC := hide (KC.out.trans k0)
            rw [← hwn, ← hg]
            refine hK.out _ _ (HSg.out _ KC.out) (fun _ => ?_)
            clear hK K hg hwn k0
            obtain ⟨wc, rfl⟩ : ∃ x : World, x = wn := ⟨_, rfl⟩
            (try simp only [Act.put, List.getElem_toArray, List.getElem_cons_succ, List.getElem_cons_zero, List.setIfInBounds_toArray, List.set_cons_zero, List.set_cons_succ])
            refine wpAnyH_ready (rs := [0]) (by kernel_rfl) (by simp) (AllReadyH.cons rfl (fun K hK => ?_) AllReadyH.nil)
            go_simp
            obtain ⟨g0, hg⟩ : ∃ x, x = wc.heap.size := ⟨_, rfl⟩
            obtain ⟨wn, hwn⟩ : ∃ x, x = wc.alloc (.cells #[] 102) := ⟨_, rfl⟩
            have k0 : Keeps (fun _ => False) wc wn := by rw [hwn]; exact (Keeps.refl _ _).alloc _
            have RW := hide (RW.out.keptB k0 (fun _ _ h => h))
            try (have N06 : Hid (g6 ≠ g0) := hide (fun e => by have := (L6.out.inB ((inB_some g6 0 g6).2 rfl)).2; omega))
            try (have L6 := hide (L6.out.kept k0 (fun _ _ h => h)))
            have L0 : Hid (Own wn b5 102 4 (some ⟨g0, 0, none⟩) 0 0 []) := hide (by rw [hwn]; exact Own.new0 wc b5 102 4 g0 hg (by have := KC.out.size; omega))
            have KC := hide (KC.out.trans k0)
            rw [← hwn, ← hg]
            refine hK.out _ _ (HSg.out _ KC.out) (fun _ => ?_)
            clear hK K hg hwn k0
            obtain ⟨wc, rfl⟩ : ∃ x : World, x = wn := ⟨_, rfl⟩
            (try simp only [Act.put, List.getElem_toArray, List.getElem_cons_succ, List.getElem_cons_zero, List.setIfInBounds_toArray, List.set_cons_zero, List.set_cons_succ])
            refine wpAnyH_ready (rs := [2]) (by kernel_rfl) (by simp) (AllReadyH.cons rfl (fun K hK => ?_) AllReadyH.nil)
            refine step_app _ elemRw (by rfl) (.tmp 173) (.tmp 174) (by rfl) b5 (A := some ⟨g0, 0, none⟩) (n := 0) (c := 0) [] (by simp [Act.eval, Act.put]) L0.out _ (A2 := A) (m := m) (c2 := c) (rwCs W) (by simp [Act.eval, Act.put]) RW.out (rwCs_one _) (by simp only [maxLen]; omega) (by omega) (by have := KC.out.size; omega) ?_
            intro A2 c2 wn o8 k8 hA8
            rw [Nat.zero_add, List.nil_append] at o8
            try (have L6 := hide (L6.out.kept k8 (fun q hq e => N06.out (((inB_some _ _ _).1 hq).trans ((inB_some _ _ _).1 e).symm))))
            have KC := hide (KC.out.step k8 (fun q hq e => by have := (L0.out.inB e).1; have := (inB_some _ _ _).1 e; omega))
            have O2 := hide o8
            rw [Nat.zero_add]
            clear o8 k8 hA8 L0
            refine hK.out _ _ (HSg.out _ KC.out) (fun _ => ?_)
            clear hK K
            have RW : Hid (Rd wn wn.heap.size none 4 0 []) := hide (Rd.zero rfl)
            obtain ⟨wc, rfl⟩ : ∃ x : World, x = wn := ⟨_, rfl⟩
            (try simp only [Act.put, List.getElem_toArray, List.getElem_cons_succ, List.getElem_cons_zero, List.setIfInBounds_toArray, List.set_cons_zero, List.set_cons_succ])
            refine wpAnyH_ready (rs := [7]) (by kernel_rfl) (by simp) (AllReadyH.cons rfl (fun K hK => ?_) AllReadyH.nil)
            refine step_app _ elemRw (by rfl) (.tmp 175) (.tmp 179) (by rfl) b5 (A := A2) (n := m) (c := c2) (rwCs W) (by simp [Act.eval, Act.put]) O2.out _ (A2 := some ⟨g6, 0, none⟩) (m := 1) (c2 := 1) [.int .i64 z, .string t, .int .i64 tm, .int .u64 wg] (by simp [Act.eval, Act.put]) (L6.out.rd (by omega)) (by simp [Value.oneCell']) (by simp only [maxLen]; omega) (by omega) (by have := KC.out.size; omega) ?_
            intro A7 c7 wn o8 k8 hA8
            have KC := hide (KC.out.step k8 (fun q hq e => by have := (O2.out.inB e).1; omega))
            have O7 := hide o8
            clear o8 k8 hA8
            refine hK.out _ _ (HSg.out _ KC.out) (fun _ => ?_)
            clear hK K
            obtain ⟨wc, rfl⟩ : ∃ x : World, x = wn := ⟨_, rfl⟩
            (try simp only [Act.put, List.getElem_toArray, List.getElem_cons_succ, List.getElem_cons_zero, List.setIfInBounds_toArray, List.set_cons_zero, List.set_cons_succ])
            refine wpAnyH_take (i := 8) (v := ?_) rfl (by kernel_rfl) (by kernel_rfl) (by kernel_rfl) (fun _ _ _ h => h) (Or.inl ⟨by first | kernel_rfl | rfl, ?_⟩) (by assumption) ?_; rotate_left; focus (intro w hSw; (try dsimp only at hSw); go_simp; try (with_reducible rfl)); (try simp only [Act.put, List.getElem_toArray, List.getElem_cons_succ, List.getElem_cons_zero, List.setIfInBounds_toArray, List.set_cons_zero, List.set_cons_succ])
            refine wpAnyH_done (by kernel_rfl) ?_ _
            (try simp only [Act.put, List.getElem_toArray, List.getElem_cons_succ, List.getElem_cons_zero, List.setIfInBounds_toArray, List.set_cons_zero, List.set_cons_succ])
            have HF := hide (HFin.out wc A7 c7 KC.out O7.out)
            clear HSg KC O7 O2 L6 RW
            go_wp2_with fail
            go_meet
            exact HF.out
      case rest =>
      obtain ⟨A', m', c', W', rfl, hx, hm⟩ := hcut
      obtain ⟨w9, rfl⟩ : ∃ w9 : World, w9 = wc := ⟨_, rfl⟩
      have HX9 := hide hx
      have HM9 := hide hm
      clear hx hm HX8 HM8 HMst
      obtain ⟨M, hM0, hM1, hq27⟩ := HM9.out.q27
      have HQ9 := hide hq27
      have hlm : Hid (W'.length = m') := hide HM9.out.wl.len
      have hmn' : m' ≤ n := by have := HQ9.out.most.1; have := hlm.out; omega
      clear hq27
      obtain ⟨⟨x0, x1, x2⟩, _, xl⟩ := HX9.out.three
      have hu := untilN_le z W'
      go_upto_region 38 with fail
      trace "R38"
      refine Code.wp_mono ?_ (reg38 w w9 B q a p mb G n g g9 (i + 1) gx m' c' #[.string rk, .int .i64 rt, .int .u64 rw_] A' W' t z tm wg (by omega) (by omega) HM9 HX9 _ _ _ _ _ _ _ _ _ _ _ _ _ _ _ _ _ _ _ _ _ _ _ _ _ _ _ _ _ _ _ _ _ _ _ _ _ _ _ _ _ _ _ _ _ _ _ _ _ _ _ _ _ _ _ _ _ _ _ _ _ _ _ _ _ _ _ _ _ _ _ _ _ _ _ _ _ _ _ _ _ _ _ _ _ _ _ _ _ _ _ _ _ _ _ _ _ _ _ _ _ _ _ _ _ _ _ _ _ _ _ _ _ _ _ _ _ _ _ _ _ _ _ _ _ _ _ _ _ _ _ _ _ _ _ _ _ _ _ _ _ _ _ _ _ _ _ _ _ _ _ _ _ _ _ _ _ _ _ _ _ _ _ _ _ _ _ _ _ _ _ _ _ _ _ _ _ _ _ _ _ _ _ _ _ _ _ _ _ _ _ _ _ _ _ _ _ _ _ _ _ _ _ _ _ _ _ _ _ _ _ _ _ _ _ _ _ _ _ _)
      intro e a' wz hex
      cases e <;> (first | exact hex.elim | skip)
      obtain ⟨⟨u181, u182, u183, u184, u185, u186, u187, u188, u189, u190, u191, u192, u193, u194, u195, u196, u197, u198, u199, u200, u201, u202, u203, u204, u205, u206, rfl⟩, kz⟩ := hex
      have KC := hide kz
      clear kz
      dsimp only
      have HMD := hide (HM9.out.quiet KC.out)
      clear KC x0 x1 x2 xl HQ9 HM9 HX9 hu
      go_wp2_with fail
      trace "END"
      go_roundw
      case rel => exact ⟨i + 1, A', m', c', W', by omega, rfl, by go_num, hmn', HMD⟩
      case measure => simp [intOf]; omega
    · by_cases hlt1 : (i : Int) < (n2 : Int)
      · have e1 : decide ((i : Int) < (n2 : Int)) = true := by simpa using hlt1
        have e2 : decide ((i : Int) < 50) = false := by simp; omega
        clear hlt
        have HM := HR
        clear HR
        obtain ⟨M, hM0, hM1, hq27⟩ := HM.out.q27
        have hmb : m ≤ 12 := by omega
        have HTx := hide hq27.most.2
        have HQ := hide hq27
        have HWl := hide HM.out.wl
        have HKw := hide HM.out.rest.k
        obtain ⟨shb, hshb⟩ : ∃ x, x = wo.heap.size := ⟨_, rfl⟩
        obtain ⟨wS, hwS⟩ : ∃ x, x = wo.alloc (.cells #[.int .i64 0, .int .i64 0, .int .i64 0, .int .i64 0, .int .i64 0, .int .i64 0, .int .i64 0, .int .i64 0, .int .i64 0, .int .u64 0, .int .i64 0, .int .i64 0, .int .i64 0, .int .i64 0, .slice none 0 0, .slice none 0 0, .int .u64 0, .slice A m c, .slice none 0 0, .slice none 0 0] 111) := ⟨_, rfl⟩
        have kS : Keeps (fun _ => False) wo wS := by rw [hwS]; exact (Keeps.refl _ _).alloc _
        have bS : Blk wS shb 111 #[.int .i64 0, .int .i64 0, .int .i64 0, .int .i64 0, .int .i64 0, .int .i64 0, .int .i64 0, .int .i64 0, .int .i64 0, .int .u64 0, .int .i64 0, .int .i64 0, .int .i64 0, .int .i64 0, .slice none 0 0, .slice none 0 0, .int .u64 0, .slice A m c, .slice none 0 0, .slice none 0 0] := by rw [hwS, hshb]; exact Blk.new _ _ _
        have s17 : wS.cell? ⟨shb, 17, none⟩ = some (.slice A m c) := bS.cell 17
        have s19 : wS.cell? ⟨shb, 19, none⟩ = some (.slice none 0 0) := bS.cell 19
        have hsl := bS.lt
        have HQS := hide (HQ.out.quiet kS)
        have HWS := hide (HWl.out.quiet kS)
        have HKS := hide (HKw.out.trans kS)
        have HSB := hide hshb
        have HWs := hide hwS
        clear kS bS hshb hwS hq27 HQ HWl HKw HM
        go_upto_region 41 with fail
        rw [← HSB.out, ← HWs.out]
        clear HSB HWs
        trace "R41"
        go_wp2_with fail
        refine (usage27 HQS.out).mono ?_
        rintro e w5 ⟨DU, mu, rfl, o5, k5⟩
        obtain ⟨gC, hgC⟩ : ∃ x, x = w5.heap.size := ⟨_, rfl⟩
        obtain ⟨gs, hgs⟩ : ∃ x, x = w5.heap.size + 1 := ⟨_, rfl⟩
        obtain ⟨w7, hw7⟩ : ∃ x, x = (w5.alloc (.cells #[.int .i64 8, .int .i64 0, .int .i64 24, .int .i64 0, .int .i64 256, .int .i64 0] 37)).alloc (.cells #[.pointer (some ⟨shb, 0, none⟩)] 105) := ⟨_, rfl⟩
        have k7 : Keeps (fun _ => False) w5 w7 := by rw [hw7]; exact ((Keeps.refl _ _).alloc _).alloc _
        have bC : Blk w7 gC 37 (prs sh0).toArray := by rw [hw7, hgC]; exact (Blk.new w5 37 (prs sh0).toArray).alloc _
        have bs : Blk w7 gs 105 #[.pointer (some ⟨shb, 0, none⟩)] := by rw [hw7, hgs]; exact Blk.new_at _ _ _ _ (by simp)
        have HU := hide (rusageQ w7 w.heap.size shb gs A m c 3 1 w7.heap.size (some ⟨gC, 0, none⟩) W ((HWS.out.quiet k5).quiet k7) (by omega) HTx.out (k7.cell_some (k5.cell_some s17 (fun h => h)) (fun h => h)) (k7.cell_some (k5.cell_some s19 (fun h => h)) (fun h => h)) (by have := k5.size; have := k7.size; omega) (bC.rd (n := 3) (sz := 2) rfl) (Nat.le_refl _) (bs.cell 0) bs.lt)
        have O5 := hide (o5.kept k7 (fun _ _ h => h))
        have K7 := hide ((HKS.out.trans k5).trans k7)
        have HGC := hide hgC
        have HGS := hide hgs
        have HW7 := hide hw7
        clear o5 k5 k7 bC bs hgC hgs hw7 HQS HWS HKS s17 s19 hsl
        go_wp2_with fail
        rw [← HGS.out, ← HGC.out, ← HW7.out]
        clear HGS HGC HW7
        trace "RUSAGE"
        refine HU.out.mono ?_
        rintro e w8 ⟨DV, mv, rfl, o8, k8⟩
        have O58 := hide (O5.out.kept k8 (fun _ _ h => h))
        have O8 := hide o8
        have K8 := hide (K7.out.trans k8)
        clear o8 k8 HU O5 K7
        go_wp2_with fail
        trace "SAME"
        refine (sameUsage_any (lvK W.length (keysOf W)) DU DV 3 mu mv _ _ _ 0 w8 (O58.out.rd (by omega)) (O8.out.rd (by omega)) (by omega)).mono ?_
        rintro e wz ⟨rfl, k9⟩
        have K9 := hide (K8.out.trans k9)
        clear k9 O58 O8 K8
        go_wp2_with fail
        refine (awake27 _).mono ?_
        rintro e wy ⟨rfl, k18⟩
        have K18 := hide (K9.out.trans k18)
        clear k18
        go_wp2_with fail
        go_ret
        exact ⟨rfl, K18.out⟩
      · have e1 : decide ((i : Int) < (n2 : Int)) = false := by simpa using hlt1
        clear hlt
        have HM := HR
        clear HR
        obtain ⟨M, hM0, hM1, hq27⟩ := HM.out.q27
        have hmb : m ≤ 12 := by omega
        have HTx := hide hq27.most.2
        have HQ := hide hq27
        have HWl := hide HM.out.wl
        have HKw := hide HM.out.rest.k
        obtain ⟨shb, hshb⟩ : ∃ x, x = wo.heap.size := ⟨_, rfl⟩
        obtain ⟨wS, hwS⟩ : ∃ x, x = wo.alloc (.cells #[.int .i64 0, .int .i64 0, .int .i64 0, .int .i64 0, .int .i64 0, .int .i64 0, .int .i64 0, .int .i64 0, .int .i64 0, .int .u64 0, .int .i64 0, .int .i64 0, .int .i64 0, .int .i64 0, .slice none 0 0, .slice none 0 0, .int .u64 0, .slice A m c, .slice none 0 0, .slice none 0 0] 111) := ⟨_, rfl⟩
        have kS : Keeps (fun _ => False) wo wS := by rw [hwS]; exact (Keeps.refl _ _).alloc _
        have bS : Blk wS shb 111 #[.int .i64 0, .int .i64 0, .int .i64 0, .int .i64 0, .int .i64 0, .int .i64 0, .int .i64 0, .int .i64 0, .int .i64 0, .int .u64 0, .int .i64 0, .int .i64 0, .int .i64 0, .int .i64 0, .slice none 0 0, .slice none 0 0, .int .u64 0, .slice A m c, .slice none 0 0, .slice none 0 0] := by rw [hwS, hshb]; exact Blk.new _ _ _
        have s17 : wS.cell? ⟨shb, 17, none⟩ = some (.slice A m c) := bS.cell 17
        have s19 : wS.cell? ⟨shb, 19, none⟩ = some (.slice none 0 0) := bS.cell 19
        have hsl := bS.lt
        have HQS := hide (HQ.out.quiet kS)
        have HWS := hide (HWl.out.quiet kS)
        have HKS := hide (HKw.out.trans kS)
        have HSB := hide hshb
        have HWs := hide hwS
        clear kS bS hshb hwS hq27 HQ HWl HKw HM
        go_upto_region 41 with fail
        rw [← HSB.out, ← HWs.out]
        clear HSB HWs
        trace "R41"
        go_wp2_with fail
        refine (usage27 HQS.out).mono ?_
        rintro e w5 ⟨DU, mu, rfl, o5, k5⟩
        obtain ⟨gC, hgC⟩ : ∃ x, x = w5.heap.size := ⟨_, rfl⟩
        obtain ⟨gs, hgs⟩ : ∃ x, x = w5.heap.size + 1 := ⟨_, rfl⟩
        obtain ⟨w7, hw7⟩ : ∃ x, x = (w5.alloc (.cells #[.int .i64 8, .int .i64 0, .int .i64 24, .int .i64 0, .int .i64 256, .int .i64 0] 37)).alloc (.cells #[.pointer (some ⟨shb, 0, none⟩)] 105) := ⟨_, rfl⟩
        have k7 : Keeps (fun _ => False) w5 w7 := by rw [hw7]; exact ((Keeps.refl _ _).alloc _).alloc _
        have bC : Blk w7 gC 37 (prs sh0).toArray := by rw [hw7, hgC]; exact (Blk.new w5 37 (prs sh0).toArray).alloc _
        have bs : Blk w7 gs 105 #[.pointer (some ⟨shb, 0, none⟩)] := by rw [hw7, hgs]; exact Blk.new_at _ _ _ _ (by simp)
        have HU := hide (rusageQ w7 w.heap.size shb gs A m c 3 1 w7.heap.size (some ⟨gC, 0, none⟩) W ((HWS.out.quiet k5).quiet k7) (by omega) HTx.out (k7.cell_some (k5.cell_some s17 (fun h => h)) (fun h => h)) (k7.cell_some (k5.cell_some s19 (fun h => h)) (fun h => h)) (by have := k5.size; have := k7.size; omega) (bC.rd (n := 3) (sz := 2) rfl) (Nat.le_refl _) (bs.cell 0) bs.lt)
        have O5 := hide (o5.kept k7 (fun _ _ h => h))
        have K7 := hide ((HKS.out.trans k5).trans k7)
        have HGC := hide hgC
        have HGS := hide hgs
        have HW7 := hide hw7
        clear o5 k5 k7 bC bs hgC hgs hw7 HQS HWS HKS s17 s19 hsl
        go_wp2_with fail
        rw [← HGS.out, ← HGC.out, ← HW7.out]
        clear HGS HGC HW7
        trace "RUSAGE"
        refine HU.out.mono ?_
        rintro e w8 ⟨DV, mv, rfl, o8, k8⟩
        have O58 := hide (O5.out.kept k8 (fun _ _ h => h))
        have O8 := hide o8
        have K8 := hide (K7.out.trans k8)
        clear o8 k8 HU O5 K7
        go_wp2_with fail
        trace "SAME"
        refine (sameUsage_any (lvK W.length (keysOf W)) DU DV 3 mu mv _ _ _ 0 w8 (O58.out.rd (by omega)) (O8.out.rd (by omega)) (by omega)).mono ?_
        rintro e wz ⟨rfl, k9⟩
        have K9 := hide (K8.out.trans k9)
        clear k9 O58 O8 K8
        go_wp2_with fail
        refine (awake27 _).mono ?_
        rintro e wy ⟨rfl, k18⟩
        have K18 := hide (K9.out.trans k18)
        clear k18
        go_wp2_with fail
        go_ret
        exact ⟨rfl, K18.out⟩
end queueSteps
end Go.Proofs.Ytidobhflijdccaa

set_option linter.unusedVariables false
set_option linter.unusedSimpArgs false
namespace Go.Proofs.Ytidobhflijdccaa
open Go.RowKit Cfp
namespace queueSteps
theorem walk (w : World) (x : Int) (x0 : 0 ≤ x) (x1 : x < 256) (A1 : Option Addr) (n1 c1 : Nat) (z1 : List Int) (r1 : Rd w w.heap.size A1 1 n1 (z1.map (.int .i64))) (b1 : ∀ z ∈ z1, -9223372036854775808 ≤ z ∧ z < 9223372036854775808) (s1 : n1 * 8 ≤ 140737488351232) (l1 : n1 ≤ c1)
    (A2 : Option Addr) (n2 c2 : Nat) (z2 : List Int) (r2 : Rd w w.heap.size A2 1 n2 (z2.map (.int .i64))) (b2 : ∀ z ∈ z2, -9223372036854775808 ≤ z ∧ z < 9223372036854775808) (s2 : n2 * 8 ≤ 140737488351232) (l2 : n2 ≤ c2) (s : ByteArray) (hs : s.size ≤ maxLen) (hs' : s.size ≤ 140737488351232)
    (rk : ByteArray) (hrk : rk.size ≤ maxLen) (rt : Int) (hrt : -9223372036854775808 ≤ rt ∧ rt < 9223372036854775808) (rg : Int) (hrg : 0 ≤ rg ∧ rg < 18446744073709551616) :
    Calls Try.prog 14 #[.int .u8 x, .slice A1 n1 c1, .slice A2 n2 c2, .string s, .agg #[.string rk, .int .i64 rt, .int .u64 rg]] w fun e w' => e = .returned (.bool true) ∧ Below w.heap.size w w' :=
  (main w x x0 x1 A1 n1 c1 z1 r1 b1 (by omega) A2 n2 c2 z2 r2 b2 (by omega) s hs' rk (by simp only [maxLen] at hrk; omega) rt hrt rg hrg).mono fun e w' ⟨he, hk⟩ => ⟨he, hk.done⟩
end queueSteps
end Go.Proofs.Ytidobhflijdccaa
