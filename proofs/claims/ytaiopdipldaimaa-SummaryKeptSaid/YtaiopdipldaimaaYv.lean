/-
  SummaryKept: by a valid summary no bounds exceed the total weight, and the entries of a key that has one are within them; the walk. No conditions beyond those of the statement.
-/
import Derived.Test.YtaiopdipldaimaaGI
import Derived.Test.YtaiopdipldaimaaYt
import Derived.Test.YtaiopdipldaimaaLe
import Derived.Test.YtaiopdipldaimaaMem2
set_option linter.unusedVariables false
set_option linter.unusedSimpArgs false
namespace Go.Proofs.Ytaiopdipldaimaa
open Go.RowKit Cfp
namespace summaryKept
set_option maxRecDepth 100000 in
set_option maxHeartbeats 3000000 in
theorem main (w : World) (A1 : Option Addr) (n1 c1 : Nat) (zs0 : List Int) (hd : Rd w w.heap.size A1 1 n1 (zs0.map (.int .i64))) (hz : ∀ z ∈ zs0, -9223372036854775808 ≤ z ∧ z < 9223372036854775808) (hn1 : n1 ≤ 17592186043904) (s : ByteArray) (hs : s.size ≤ 140737488351232) :
    Calls Try.prog 13 #[.slice A1 n1 c1, .string s] w fun e w' => e = .returned (.bool true) ∧ Keeps (fun _ => False) w w' := by
  have HD := hide hd
  clear hd
  by_cases h3 : (300 : Int) < (s.size : Int)
  · go_enter Try.func13, Try.ntmps13
    go_wp2_with fail
    refine (awake21 _).mono ?_
    rintro e w1 ⟨rfl, k1⟩
    have K1 := hide k1
    clear k1
    go_wp2_with fail
    go_ret
    exact ⟨rfl, K1.out⟩
  go_enter Try.func13, Try.ntmps13
  go_wp2_with fail
  refine (new_deck A1 n1 c1 zs0 _ w (Nat.le_refl _) HD.out hz (by omega)).mono ?_
  rintro e w1 ⟨rfl, d1, k1⟩
  have K1 := hide k1
  clear k1
  go_wp2_with fail
  refine (config_any _ w.heap.size w1 d1).mono ?_
  rintro e w2 ⟨c, lc, G, b, ts, rfl, hm, hl, hsn, hG, bG, tl, tb, bt, hb, d2, k2⟩
  have K2 := hide (K1.out.step k2 (fun b hb e => by omega))
  have hw2 : w.heap.size < w2.heap.size := by have := d2.lt; omega
  have HM := hide hm
  obtain ⟨nl, hnl⟩ : ∃ nl, nl = lc.length := ⟨_, rfl⟩
  rw [← hnl]
  have BX := hide (Blk.new w2 51 #[.int .i64 c.length, .int .i64 c.lateness, .int .i64 c.windows, .int .i64 c.shards, .int .i64 c.spread, .int .i64 c.queue, .int .i64 c.mode, .int .i64 c.slots, .int .i64 c.exact_, .int .u64 c.promote, .int .i64 c.depth, .int .i64 c.width, .int .i64 c.top, .int .i64 c.key, .slice (some ⟨G, 0, none⟩) nl nl, .slice (some ⟨b, 0, none⟩) 16 16, .int .u64 c.seed])
  have kX := (Keeps.refl (fun _ => False) w2).alloc (.cells #[.int .i64 c.length, .int .i64 c.lateness, .int .i64 c.windows, .int .i64 c.shards, .int .i64 c.spread, .int .i64 c.queue, .int .i64 c.mode, .int .i64 c.slots, .int .i64 c.exact_, .int .u64 c.promote, .int .i64 c.depth, .int .i64 c.width, .int .i64 c.top, .int .i64 c.key, .slice (some ⟨G, 0, none⟩) nl nl, .slice (some ⟨b, 0, none⟩) 16 16, .int .u64 c.seed] 51)
  have BT := hide (bt.kept kX (fun h => h))
  have K3 := hide (K2.out.trans kX)
  have D3 := hide (d2.kept kX (fun h => h) (fun _ _ h => h))
  have HTL := hide tl
  have HTB := hide tb
  have hgw := d2.lt
  have hbw := bt.lt
  have hgb := hb
  have hgl := d1.lt
  clear hl hsn hG bG bt hb d2 k2 hm hnl K2 K1 d1 kX tl tb
  go_upto_region 5 with (refine cfg_st _ _ rfl (by rfl) (by rfl) (by rfl) (by rfl) ?_; simp only [Act.put, List.setIfInBounds_toArray, List.set_cons_zero, List.set_cons_succ])
  generalize w2.alloc _ = w3 at *
  generalize w2.heap.size = X1 at *
  have hX13 : X1 < w3.heap.size := BX.out.lt
  trace "R5"
  go_wp2_with (refine cfg_ld _ rfl BX.out rfl (by rfl) ?_; simp only [Act.put, List.setIfInBounds_toArray, List.set_cons_zero, List.set_cons_succ])
  refine (dsummary_any w.heap.size w.heap.size w3 D3.out c HM.out _ _ nl nl 16 16).mono ?_
  rintro e w4 ⟨tot, un, left, kb, l, P, A, cA, R, cR, rfl, ht, hu, hl4, hok, oA, hPd, oR, hP, d4, k4⟩
  have BX4 := hide (BX.out.kept k4 (by omega))
  have BT4 := hide (BT.out.kept k4 (by omega))
  have K4 := hide (K3.out.step k4 (fun b hb e => by omega))
  have hP4 : P.length ≤ 4 := by have := HM.out.depth; rcases hPd with h | h; (rw [h]; simp); omega
  obtain ⟨wd, hwd⟩ : ∃ wd : Nat, wd = c.width.toNat := ⟨_, rfl⟩
  rw [← hwd] at oR hP
  have hwd9 : wd ≤ 9 ∧ 0 < wd ∧ (wd : Int) = c.width := by have h1 := HM.out.width; have h2 := HM.out.fine.width.1; omega
  have SI4 := hide (sum_in ht.2 hl4 hP4 hwd9.1 hok oA oR (fun p hp => (hP p hp).2))
  have HP : Hid (∀ p ∈ P, p.2.length = wd ∧ (∀ z ∈ p.2, 0 ≤ z ∧ z ≤ tot)) := hide (fun p hp => ⟨(hP p hp).2.1, (hP p hp).2.2.1⟩)
  have HOK := hide hok
  have HPd := hide hPd
  have HHu := hide hu
  have HHt := hide ht
  have HL4 := hide hl4
  obtain ⟨F, hF⟩ : ∃ F, F = rowP wd P := ⟨_, rfl⟩
  rw [← hF] at SI4
  obtain ⟨n, hn⟩ : ∃ n, n = l.length := ⟨_, rfl⟩
  obtain ⟨m, hm⟩ : ∃ m, m = P.length := ⟨_, rfl⟩
  rw [← hn, ← hm] at SI4 ⊢
  have HN := hide hn
  have HMm := hide hm
  have HF := hide hF
  have HWd := hide hwd9
  clear hP oA oR d4 k4 hok hPd hu ht hwd hwd9 hF hn hm hP4 hl4 BX BT K3 D3
  have BY := hide (Blk.new w4 45 (smC tot A n cA un R m cR))
  have kY := (Keeps.refl (fun _ => False) w4).alloc (.cells (smC tot A n cA un R m cR) 45)
  have BX5 := hide (BX4.out.kept kY (fun h => h))
  have BT5 := hide (BT4.out.kept kY (fun h => h))
  have K5 := hide (K4.out.trans kY)
  have SI5 := hide ((SI4.out.kept kY (fun _ _ h => h)))
  have hX14 := BX4.out.lt
  clear kY BX4 BT4 K4 SI4
  go_upto_region 6 with fail
  trace "R6"
  generalize w4.alloc _ = w5 at *
  generalize w4.heap.size = X7 at *
  have hX75 : X7 < w5.heap.size := BY.out.lt
  obtain ⟨ks, hks⟩ : ∃ ks : List ByteArray, ks = [s, ⟨#[97]⟩, ⟨#[98]⟩, ⟨#[99]⟩, ⟨#[100]⟩] := ⟨_, rfl⟩
  have hkl : ks.length = 5 := by rw [hks]; rfl
  have HKs : Hid (∀ k ∈ ks, k.size ≤ 140737488351232) := hide (by
    rw [hks]
    intro k hk
    simp only [List.mem_cons, List.not_mem_nil, or_false] at hk
    rcases hk with rfl | rfl | rfl | rfl | rfl
    · exact hs
    all_goals decide)
  have HKL := hide hkl
  have BK := hide (Blk.new w5 9 (ks.map Value.string).toArray)
  have kK := (Keeps.refl (fun _ => False) w5).alloc (.cells (ks.map Value.string).toArray 9)
  have HW6 := hide (show w5.alloc (.cells (ks.map Value.string).toArray 9) = w5.alloc (.cells #[.string s, .string ⟨#[97]⟩, .string ⟨#[98]⟩, .string ⟨#[99]⟩, .string ⟨#[100]⟩] 9) by rw [hks]; rfl)
  have BX6 := hide (BX5.out.kept kK (fun h => h))
  have BT6 := hide (BT5.out.kept kK (fun h => h))
  have BY6 := hide (BY.out.kept kK (fun h => h))
  have K6 := hide (K5.out.trans kK)
  have SI6 := hide (SI5.out.kept kK (fun _ _ h => h))
  have hsz := kK.size
  clear hks hkl kK BX5 BT5 BY K5 SI5
  go_wp2_with fail
  rw [← HW6.out]
  clear HW6
  generalize w5.alloc _ = w6 at *
  generalize w5.heap.size = GK at *
  trace "LOOP"
  go_loopw [26] (fun iv wr => ∃ i : Nat, i ≤ 5 ∧ iv = .int .i64 i ∧ Hid (Keeps (fun _ => False) w6 wr)) (fun iv _ => 5 - (intOf iv).toNat)
  case atStart => exact ⟨0, by omega, rfl, hide (Keeps.refl _ _)⟩
  case round =>
    obtain ⟨i, hi, rfl, KR⟩ := hrel
    have bxr := hide (BX6.out.kept KR.out (fun h => h))
    have byr := hide (BY6.out.kept KR.out (fun h => h))
    have SIr := hide (SI6.out.kept KR.out (fun _ _ h => h))
    have y0 : wr.cell? ⟨X7, 0, none⟩ = some (.int .u64 tot) := byr.out.cell 0
    have y1 : wr.cell? ⟨X7, 1, none⟩ = some (.slice A n cA) := byr.out.cell 1
    have y2 : wr.cell? ⟨X7, 2, none⟩ = some (.int .u64 un) := byr.out.cell 2
    have y3 : wr.cell? ⟨X7, 3, none⟩ = some (.slice R m cR) := byr.out.cell 3
    have hsr := KR.out.size
    by_cases hlt : i < 5
    · have HLT : Hid (i + 1 ≤ 5) := hlt
      obtain ⟨k, hk⟩ : ∃ k, ks[i]? = some k := ⟨ks[i]'(by rw [HKL.out]; exact hlt), List.getElem?_eq_getElem _⟩
      have hk0 : wr.cell? ⟨GK, i, none⟩ = some (.string k) := by rw [(BK.out.kept KR.out (fun h => h)).cell]; simp [hk]
      have hks := HKs.out k (List.mem_of_getElem? hk)
      have hiI : (i : Int) < 5 := by omega
      have hi0 : (0 : Int) ≤ (i : Int) := by omega
      have hBt := BT6.out.kept KR.out (fun h => h)
      have RTr : Rd wr wr.heap.size (some ⟨b, 0, none⟩) 1 16 (ts.map (.int .u64)) := hBt.rd (n := 16) (sz := 1) (by simp [HTL.out])
      have HBd := hide (sbounds_any wr wr.heap.size c (some ⟨G, 0, none⟩) (some ⟨b, 0, none⟩) nl nl 16 16 ts RTr HTB.out HM.out.fine.seed tot un A R n cA m cR l F (SIr.out.more (by omega)) (Nat.le_refl _) k hks)
      obtain ⟨est, hest⟩ : ∃ est, est = estS tot m F ts c.seed k.data.toList := ⟨_, rfl⟩
      have heb : 0 ≤ est ∧ est ≤ tot := by rw [hest, HF.out, HMm.out]; exact est_bd HHt.out.1 wd HWd.out.2.1 P HP.out ts HTL.out c.seed k.data.toList
      have hkb := kept_bd HHt.out.1 HOK.out HHu.out HHt.out.2 heb k
      rw [← HN.out] at hkb
      rw [← hest] at HBd
      obtain ⟨lo, hlo⟩ : ∃ lo, lo = imin (loS l k) est := ⟨_, rfl⟩
      obtain ⟨hv, hhv⟩ : ∃ hv, hv = imin (hiS l un k) est := ⟨_, rfl⟩
      rw [← hlo, ← hhv] at HBd hkb
      obtain ⟨hb1, hb2, hb3⟩ := hkb
      have g1 : ¬ (hv < lo) := by omega
      have g2 : ¬ (tot < hv) := by omega
      clear hk hBt RTr hest heb hlo hhv hks
      go_wp2_with (refine cfg_ld _ rfl bxr.out rfl (by rfl) ?_; simp only [Act.put, List.setIfInBounds_toArray, List.set_cons_zero, List.set_cons_succ])
      trace "BOUNDS"
      refine HBd.out.mono ?_
      rintro e w7 ⟨rfl, k7⟩
      have K7 := hide (KR.out.trans k7)
      have by7 := byr.out.kept k7 (fun h => h)
      have y0 : w7.cell? ⟨X7, 0, none⟩ = some (.int .u64 tot) := by7.cell 0
      have y2 : w7.cell? ⟨X7, 2, none⟩ = some (.int .u64 un) := by7.cell 2
      have hx7 := by7.lt
      clear k7 by7 HBd y1 y3 hk0
      rcases hfb : decide (keyAt l k < n) with _ | _
      · obtain ⟨hb4, hb5⟩ := hb3 (by simpa using hfb)
        subst hb4
        have g3 : ¬ (un < hv) := by omega
        clear hb3 hfb
        go_wp2_with fail
        go_roundw
        case rel => exact ⟨i + 1, HLT.out, by go_num, by first | exact K7 | exact hide (K7.out.alloc _)⟩
        case measure => have := HLT.out; simp [intOf]; omega
      · clear hb3 hfb
        go_wp2_with fail
        go_roundw
        case rel => exact ⟨i + 1, HLT.out, by go_num, by first | exact K7 | exact hide (K7.out.alloc _)⟩
        case measure => have := HLT.out; simp [intOf]; omega
    · obtain rfl : i = 5 := by omega
      have HCk := hide (check_any21 wr wr.heap.size c (some ⟨G, 0, none⟩) (some ⟨b, 0, none⟩) nl nl 16 16 tot un A R n cA m cR l F (SIr.out.more (by omega)) (Nat.le_refl _))
      have hc0 : checkE c.depth c.width tot un l (Cmp.rowsL F m) = 0 := by
        rw [HF.out, HMm.out, rowP_L]
        refine check_made HHt.out.1 HHt.out.2 HHu.out HL4.out HOK.out _ _ _ ?_
        rcases HPd.out with h | h
        · left; rw [h]; rfl
        · right
          refine ⟨by rw [List.length_map]; exact h, fun r hr => ?_⟩
          obtain ⟨p, hp, rfl⟩ := List.mem_map.1 hr
          exact ⟨by rw [(HP.out p hp).1]; exact HWd.out.2.2, fun z hz => ((HP.out p hp).2 z hz).2⟩
      rw [hc0] at HCk
      have KX := hide (K6.out.trans KR.out)
      clear hc0 hsr
      go_wp2_with (refine cfg_ld _ rfl bxr.out rfl (by rfl) ?_; simp only [Act.put, List.setIfInBounds_toArray, List.set_cons_zero, List.set_cons_succ])
      trace "CHECK"
      refine HCk.out.mono ?_
      rintro e w7 ⟨rfl, k7⟩
      have K7 := hide (KX.out.trans k7)
      clear k7
      go_wp2_with fail
      trace "AWAKE"
      refine (awake21 _).mono ?_
      rintro e w8 ⟨rfl, k8⟩
      have K8 := hide (K7.out.trans k8)
      clear k8
      go_wp2_with fail
      go_ret
      exact ⟨rfl, K8.out⟩
theorem walk (w : World) (A1 : Option Addr) (n1 c1 : Nat) (z1 : List Int) (r1 : Rd w w.heap.size A1 1 n1 (z1.map (.int .i64))) (b1 : ∀ z ∈ z1, -9223372036854775808 ≤ z ∧ z < 9223372036854775808) (s1 : n1 * 8 ≤ 140737488351232) (l1 : n1 ≤ c1)
    (s : ByteArray) (ws : s.size ≤ maxLen) (hs : s.size ≤ 140737488351232) :
    Calls Try.prog 13 #[.slice A1 n1 c1, .string s] w fun e w' => e = .returned (.bool true) ∧ Below w.heap.size w w' :=
  (main w A1 n1 c1 z1 r1 b1 (by omega) s hs).mono fun e w' ⟨he, hk⟩ => ⟨he, hk.done⟩
end summaryKept
end Go.Proofs.Ytaiopdipldaimaa
