
/-
  ExactSteps: the walk. No conditions beyond those of the statement.
-/
import Derived.Test.YtmbgnekilgobaaaFh
import Derived.Deep.CutRange
import Derived.Deep.CutBlock
set_option linter.unusedVariables false
set_option linter.unusedSimpArgs false
namespace Go.Proofs.Ytmbgnekilgobaaa
open Go.RowKit
namespace exactSteps
set_option maxRecDepth 1000000 in
set_option maxHeartbeats 4000000 in
theorem main (w : World) (n : Int) (n0 : 0 ≤ n) (n1 : n < 256) (A : Option Addr) (nd cd : Nat) (z : List Int) (r : Rd w w.heap.size A 1 nd (z.map (.int .i64))) (b : ∀ v ∈ z, -9223372036854775808 ≤ v ∧ v < 9223372036854775808) (hn : nd ≤ 35184372088832)
    (A2 : Option Addr) (n2 c2 : Nat) (z2 : List Int) (r2 : Rd w w.heap.size A2 1 n2 (z2.map (.int .i64))) (b2 : ∀ v ∈ z2, -9223372036854775808 ≤ v ∧ v < 9223372036854775808) (raw : Int) (hraw : U raw) (x : Ln) (hx : U x.lo ∧ U x.hi) :
    Calls Try.prog 14 #[.int .u8 n, .slice A nd cd, .slice A2 n2 c2, .int .u64 raw, enV x] w fun e w' => e = .returned (.bool true) ∧ Keeps (fun k => ¬ k < w.heap.size) w w' := by
  obtain ⟨B, hB⟩ : ∃ B, B = w.heap.size := ⟨_, rfl⟩
  rw [← hB] at r r2 ⊢
  obtain ⟨gp, hgp⟩ : ∃ gp, gp = w.heap.size := ⟨_, rfl⟩
  obtain ⟨w0, hw0⟩ : ∃ w0, w0 = w.alloc (.cells #[.string x.key, .int .u64 x.lo, .int .u64 x.hi] 53) := ⟨_, rfl⟩
  have HP0 : Hid (Blk w0 gp 53 (lnC x).toArray) := hide (by rw [hw0, hgp]; exact Blk.new _ _ _)
  have K0 : Hid (Keeps (fun _ => False) w w0) := hide (by rw [hw0]; exact (Keeps.refl _ _).alloc _)
  have hz0 : w0.heap.size = gp + 1 := by rw [hw0, hgp]; simp
  have hBp : B = gp := by rw [hB, hgp]
  have HB := hide hB
  have HGP := hide hgp
  have HW0 := hide hw0
  have R := hide r
  have R2 := hide r2
  have HZ := hide b
  have HZ2 := hide b2
  have HL2 : Hid (z2.length = n2) := hide (by simpa using r2.1)
  have HZ0 := hide hz0
  have HBP := hide hBp
  have hN0 : 0 ≤ n % 6 ∧ n % 6 ≤ 32 := by omega
  obtain ⟨N, hN⟩ : ∃ N, N = n % 6 := ⟨_, rfl⟩
  rw [← hN] at hN0
  have HN := hide hN
  clear r r2 b b2 hB hgp hw0 hz0 hBp hN
  go_enter Try.func14, Try.ntmps14
  go_upto_region 1 with fail
  rw [← HGP.out, ← HW0.out]
  go_wp2_with fail
  rw [← HN.out]
  refine (enew_ok N w0 hN0.1 hN0.2).mono ?_
  rintro e w1 ⟨rfl, hw1⟩
  obtain ⟨s, hs⟩ : ∃ s, s = w0.heap.size := ⟨_, rfl⟩
  rw [← hs]
  have HW1 := hide hw1
  have HSs := hide hs
  clear hw1 hs
  go_wp2_with fail
  try rw [← HN.out]
  refine (rsnew_ok N w1 hN0.1 hN0.2).mono ?_
  rintro e w2 ⟨rfl, hw2⟩
  obtain ⟨q, hq⟩ : ∃ q, q = w1.heap.size := ⟨_, rfl⟩
  rw [← hq]
  have hq2 : q = w0.heap.size + 1 := by rw [hq, HW1.out]; simp
  have HT2 : Hid (Two w2 (fun k => k < B ∨ k = gp) s q N [] []) := hide (by
    rw [hw2, HW1.out]
    exact Two.new w0 _ N s q HSs.out hq2 (fun k h => by have := HP0.out.lt; have := HBP.out; omega) hN0.1 hN0.2)
  have K2 : Hid (Keeps (fun _ => False) w w2) := hide (by rw [hw2, HW1.out]; exact (K0.out.alloc _).alloc _)
  have HP2 : Hid (Blk w2 gp 53 (lnC x).toArray) := hide (by rw [hw2, HW1.out]; exact (HP0.out.alloc _).alloc _)
  clear hw2 hq hq2 HW1 HSs
  go_wp2_with fail
  refine (new_deck A nd cd z B w2 (by have := K2.out.size; have := HB.out; omega) (R.out.kept K2.out (fun _ _ h => h)) HZ.out hn).mono ?_
  rintro e w3 ⟨rfl, d3, k3⟩
  obtain ⟨g, hg⟩ : ∃ g, g = w2.heap.size := ⟨_, rfl⟩
  rw [← hg] at d3 ⊢
  have D3 := hide d3
  have HT3 : Hid (Two w3 (fun k => k < B ∨ k = g ∨ k = gp) s q N [] []) := hide ((HT2.out.grow k3 (fun _ h => h.elim)).less (fun k h => by have := d3.lt; omega))
  have HP3 := hide (HP2.out.kept k3 (fun h => h))
  have K3 := hide ((K2.out.trans k3).weak (S' := fun k => ¬ k < B) (fun _ _ h => h.elim))
  have hgB : B ≤ gp ∧ gp < g := by have := HBP.out; have := HP2.out.lt; omega
  clear d3 k3 hg
  go_upto_region 7 with fail
  go_loopw [16] (fun iv wr => ∃ (i : Nat) (l : List Ln), i ≤ n2 ∧ i ≤ 60 ∧ iv = .int .i64 (i : Int) ∧ Hid (Two wr (fun k => k < B ∨ k = g ∨ k = gp) s q N l l) ∧ Hid (Blk wr gp 53 (lnC x).toArray) ∧ Hid (IsDeck wr B g) ∧ Hid (Keeps (fun k => ¬ k < B) w wr)) (fun iv _ => 60 - (intOf iv).toNat)
  case atStart => exact ⟨0, [], by omega, by omega, rfl, HT3, HP3, D3, K3⟩
  case round =>
    obtain ⟨i, l, hi1, hi2, rfl, HT, HP, HD, HK⟩ := hrel
    obtain ⟨wo, rfl⟩ : ∃ wo : World, wo = wr := ⟨_, rfl⟩
    clear HT3 HP3 D3 K3 HT2 HP2 K2 HP0 K0 HW0 HZ0
    by_cases hlt : i < n2 ∧ i < 60
    · obtain ⟨hl1, hl2⟩ := hlt
      have e1 : decide (i < n2) = true := by simp; omega
      have e2 : decide ((i : Int) < 60) = true := by simp; omega
      have hi3 : (i : Int) < (n2 : Int) := by omega
      obtain ⟨v, hv⟩ : ∃ v, z2[i]? = some v := ⟨z2[i]'(by rw [HL2.out]; omega), List.getElem?_eq_getElem _⟩
      have hvb := HZ2.out v (List.mem_of_getElem? hv)
      obtain ⟨b2, off2, rfl, hb2, hc2⟩ := R2.out.2 (by omega)
      have cv0 := HK.out.cell_some (hc2 i (.int .i64 v) (by rw [List.getElem?_map, hv]; rfl)) (by dsimp only; omega)
      have HCv := hide cv0
      have hb2l : b2 < wo.heap.size := by have := HK.out.size; have := HB.out; omega
      have hb2l' : b2 < wo.heap.size + 1 := by omega
      clear hc2 hv
      go_upto_region 9 with fail
      go_cut [17, 18] from 57 to 197 (fun a b wx => CutY w B g gp s q N x l v a b wx)
      case first =>
        refine Code.wp_mono then_false (reg9 w wo B g gp s q n2 c2 i b2 off2 N v x l _ _ _ _ _ _ _ _ _ _ _ _ _ _ _ _ _ _ _ _ _ _ _ _ _ _ _ _ _ _ _ _ _ _ _ _ _ _ _ _ _ _ _ _ _ _ _ _ _ _ _ _ _ _ _ _ _ _ _ _ _ _ _ _ _ _ _ _ _ _ _ _ _ _ _ _ _ _ _ _ _ _ _ _ _ _ _ _ _ _ _ _ _ _ _ _ _ _ _ _ _ _ _ _ _ _ _ _ _ _ _ _ _ _ _ _ _ _ _ _ _ _ _ _ _ _ _ _ _ _ _ _ _ _ _ _ _ _ _ _ _ _ _ _ _ _ _ _ _ _ _ _ _ _ _ _ _ _ _ _ _ _ _ _ _ _ _ _ _ _ _ _ _ _ _ _ _ _ _ _ _ _ _ _ _ _ _ _ _ _ _ _ _ _ _ _ _ _ (by assumption) (by assumption) HT HP HD HK hgB HB cv0 hb2 hb2l hb2l' hi3 hl1 hl2 hvb)
      case rest =>
      obtain ⟨gy, rfl, rfl, hZ⟩ := hcut
      have HZ5 := hide hZ
      clear hZ HT HP HD HK cv0 HCv hb2l hb2l' e1 e2 hi3
      obtain ⟨w5, rfl⟩ : ∃ w5 : World, w5 = wc := ⟨_, rfl⟩
      go_upto_if 76 with fail
      go_cut [] from 57 to 197 (fun wx => CutZ w B g gp gy s q N x l wx)
      case first =>
        have hC := HZ5.out
        have hC2 := hC
        obtain ⟨y, h1, h2, h3, h4, h5, h6, h7, h8, h9⟩ := hC2
        obtain ⟨c0, c1, c2⟩ := ln_cells h1
        obtain ⟨d0, d1, d2⟩ := ln_cells h4
        have f0 := h1.frozen 0
        have f1 := h1.frozen 1
        have f2 := h1.frozen 2
        have l1 := h1.lt
        have l2 := h4.lt
        have H1 := hide h1
        clear h1 h2 h3 h4 h5 h6 h7 h8 h9 hC
        go_wp2_with fail
        all_goals
          go_meet
          first
            | exact HZ5.out
            | exact HZ5.out.store x hx _ (set_en H1.out x).2 (set_en H1.out x).1
      case rest =>
      have HZ6 := hide hcut
      clear hcut HZ5
      obtain ⟨w6, rfl⟩ : ∃ w6 : World, w6 = wc := ⟨_, rfl⟩
      go_upto_if 81 with fail
      go_cut [] from 57 to 197 (fun wx => CutZ w B g gp gy s q N x l wx)
      case first =>
        have hC2 := HZ6.out
        obtain ⟨y, h1, h2, h3, h4, h5, h6, h7, h8, h9⟩ := hC2
        obtain ⟨c0, c1, c2⟩ := ln_cells h1
        have f1 := h1.frozen 1
        have l1 := h1.lt
        have H1 := hide h1
        have H2 := hide h2
        clear h1 h2 h3 h4 h5 h6 h7 h8 h9
        go_wp2_with fail
        all_goals
          go_meet
          first
            | exact HZ6.out
            | exact HZ6.out.store ⟨y.key, raw, y.hi⟩ ⟨hraw, H2.out.2⟩ _ (Keeps.setCell (S := (· = gy)) (p := ⟨gy, 1, none⟩) (Keeps.refl _ _) (.inl rfl) _) (H1.out.set 1 _)
      case rest =>
      have HZ7 := hide hcut
      clear hcut HZ6
      obtain ⟨w7, rfl⟩ : ∃ w7 : World, w7 = wc := ⟨_, rfl⟩
      go_upto_block 2 with fail
      generalize bits BinOp.and IntKind.i64 v 7 = d at *
      go_cut [] from 57 to 197 (fun wx => CutD w B g gp gy s q N x wx)
      case first =>
        refine Code.wp_mono then_false (blk2 w w7 B g gp gy s q N d x l _ _ _ _ _ _ _ _ _ _ _ _ _ _ _ _ _ _ _ _ _ _ _ _ _ _ _ _ _ _ _ _ _ _ _ _ _ _ _ _ _ _ _ _ _ _ _ _ _ _ _ _ _ _ _ _ _ _ _ _ _ _ _ _ _ _ _ _ _ _ _ _ _ _ _ _ _ _ _ _ _ _ _ _ _ _ _ _ _ _ _ _ _ _ _ _ _ _ _ _ _ _ _ _ _ _ _ _ _ _ _ _ _ _ _ _ _ _ _ _ _ _ _ _ _ _ _ _ _ _ _ _ _ _ _ _ _ _ _ _ _ _ _ _ _ _ _ _ _ _ _ _ _ _ _ _ _ _ _ _ _ _ _ _ _ _ _ _ _ _ _ _ _ _ _ _ _ _ _ _ _ _ _ _ _ _ _ _ _ _ _ _ _ _ _ _ _ (by assumption) (by assumption) HZ7)
      case rest =>
      obtain ⟨l2, hZ⟩ := hcut
      obtain ⟨w8, rfl⟩ : ∃ w8 : World, w8 = wc := ⟨_, rfl⟩
      obtain ⟨y, h1, h2, h3, h4, h5, h6, h7, h8, h9⟩ := hZ
      obtain ⟨c0, c1, c2⟩ := ln_cells h1
      have l1 := h1.lt
      have H1 := hide h1
      have T8 := hide h3
      have HP8 := hide h4
      have HD8 := hide h5
      have HK8 := hide h6
      have hln : l2.length ≤ 32 := h3.fine.2.2.1
      obtain ⟨u, hu⟩ : ∃ u, u = getE l2 y.key := ⟨_, rfl⟩
      obtain ⟨fb, hfb⟩ : ∃ fb, fb = foundK l2 y.key := ⟨_, rfl⟩
      obtain ⟨t, ht⟩ : ∃ t, t = leastL l2 := ⟨_, rfl⟩
      obtain ⟨lb, hlb⟩ : ∃ lb, lb = decide (0 < l2.length) := ⟨_, rfl⟩
      obtain ⟨ln, hln2⟩ : ∃ ln, ln = l2.length := ⟨_, rfl⟩
      have HU := hide hu
      have HFB := hide hfb
      have HTL := hide ht
      have HLB := hide hlb
      have HLN := hide hln2
      rw [← hln2] at hln
      have hy := h2
      clear h1 h2 h3 h4 h5 h6 h7 h8 h9 HZ7 hu hfb ht hlb hln2
      go_wp2_with fail
      refine (tget_any T8.out y.key).mono ?_
      rintro e w9 ⟨rfl, k9⟩
      rw [← HU.out, ← HFB.out]
      obtain ⟨ga, hga⟩ : ∃ ga, ga = w9.heap.size := ⟨_, rfl⟩
      obtain ⟨w10, hw10⟩ : ∃ w10, w10 = w9.alloc (.cells (lnC u).toArray 53) := ⟨_, rfl⟩
      have kw10 : Hid (Keeps (fun _ => False) w9 w10) := hide (by rw [hw10]; exact (Keeps.refl _ _).alloc _)
      have Ega : Hid (Blk w10 ga 53 (lnC u).toArray) := hide (by rw [hw10, hga]; exact Blk.new _ _ _)
      have Hga := hide hga
      have Hw10 := hide hw10
      unfold lnC at Hw10
      clear hga hw10
      have K10 := hide (k9.trans kw10.out)
      have c10 := K10.out.cell_some c0 (fun h => h)
      have l10 : gy < w10.heap.size := by have := K10.out.size; omega
      have T10 := hide (T8.out.kept K10.out (fun _ h => h.elim))
      clear k9
      go_upto_region 30 with fail
      rw [← Hga.out, ← Hw10.out]
      clear c0 c1 c2 l1
      go_wp2_with fail
      refine (trget_any T10.out y.key).mono ?_
      rintro e w11 ⟨rfl, k11⟩
      rw [← HU.out, ← HFB.out]
      obtain ⟨gb, hgb⟩ : ∃ gb, gb = w11.heap.size := ⟨_, rfl⟩
      obtain ⟨w12, hw12⟩ : ∃ w12, w12 = w11.alloc (.cells (lnC u).toArray 53) := ⟨_, rfl⟩
      have kw12 : Hid (Keeps (fun _ => False) w11 w12) := hide (by rw [hw12]; exact (Keeps.refl _ _).alloc _)
      have Egb : Hid (Blk w12 gb 53 (lnC u).toArray) := hide (by rw [hw12, hgb]; exact Blk.new _ _ _)
      have Hgb := hide hgb
      have Hw12 := hide hw12
      unfold lnC at Hw12
      clear hgb hw12
      have K12 := hide (k11.trans kw12.out)
      have T12 := hide (T10.out.kept K12.out (fun _ h => h.elim))
      clear k11 c10 l10
      go_upto_region 31 with fail
      rw [← Hgb.out, ← Hw12.out]
      go_wp2_with fail
      refine (tleast_any T12.out).mono ?_
      rintro e w13 ⟨rfl, k13⟩
      rw [← HTL.out, ← HLB.out]
      obtain ⟨gc, hgc⟩ : ∃ gc, gc = w13.heap.size := ⟨_, rfl⟩
      obtain ⟨w14, hw14⟩ : ∃ w14, w14 = w13.alloc (.cells (lnC t).toArray 53) := ⟨_, rfl⟩
      have kw14 : Hid (Keeps (fun _ => False) w13 w14) := hide (by rw [hw14]; exact (Keeps.refl _ _).alloc _)
      have Egc : Hid (Blk w14 gc 53 (lnC t).toArray) := hide (by rw [hw14, hgc]; exact Blk.new _ _ _)
      have Hgc := hide hgc
      have Hw14 := hide hw14
      unfold lnC at Hw14
      clear hgc hw14
      have K14 := hide (k13.trans kw14.out)
      have T14 := hide (T12.out.kept K14.out (fun _ h => h.elim))
      clear k13
      go_upto_region 32 with fail
      rw [← Hgc.out, ← Hw14.out]
      go_wp2_with fail
      refine (trleast_any T14.out).mono ?_
      rintro e w15 ⟨rfl, k15⟩
      rw [← HTL.out, ← HLB.out]
      obtain ⟨gd, hgd⟩ : ∃ gd, gd = w15.heap.size := ⟨_, rfl⟩
      obtain ⟨w16, hw16⟩ : ∃ w16, w16 = w15.alloc (.cells (lnC t).toArray 53) := ⟨_, rfl⟩
      have kw16 : Hid (Keeps (fun _ => False) w15 w16) := hide (by rw [hw16]; exact (Keeps.refl _ _).alloc _)
      have Egd : Hid (Blk w16 gd 53 (lnC t).toArray) := hide (by rw [hw16, hgd]; exact Blk.new _ _ _)
      have Hgd := hide hgd
      have Hw16 := hide hw16
      unfold lnC at Hw16
      clear hgd hw16
      have K16 := hide (k15.trans kw16.out)
      have T16 := hide (T14.out.kept K16.out (fun _ h => h.elim))
      clear k15
      go_upto_region 33 with fail
      rw [← Hgd.out, ← Hw16.out]
      have KA := hide (((K10.out.trans K12.out).trans K14.out).trans K16.out)
      obtain ⟨A3, c3, cq, lq, rq⟩ := T16.out.list
      rw [← HLN.out] at cq rq
      have RQ := hide rq
      obtain ⟨pa0, pa1, pa2⟩ := ln_cells (Ega.out.kept ((K12.out.trans K14.out).trans K16.out) (fun h => h))
      obtain ⟨pb0, pb1, pb2⟩ := ln_cells (Egb.out.kept (K14.out.trans K16.out) (fun h => h))
      obtain ⟨pc0, pc1, pc2⟩ := ln_cells (Egc.out.kept K16.out (fun h => h))
      obtain ⟨pd0, pd1, pd2⟩ := ln_cells Egd.out
      have HSg : Hid (∀ W, Keeps (fun _ => False) w16 W → (Keeps (fun _ => False) w16 W ∧ W.cell? ⟨ga, 0, none⟩ = some (.string u.key) ∧ W.cell? ⟨ga, 1, none⟩ = some (.int .u64 u.lo) ∧ W.cell? ⟨ga, 2, none⟩ = some (.int .u64 u.hi) ∧ W.cell? ⟨gb, 0, none⟩ = some (.string u.key) ∧ W.cell? ⟨gb, 1, none⟩ = some (.int .u64 u.lo) ∧ W.cell? ⟨gb, 2, none⟩ = some (.int .u64 u.hi) ∧ W.cell? ⟨gc, 0, none⟩ = some (.string t.key) ∧ W.cell? ⟨gc, 1, none⟩ = some (.int .u64 t.lo) ∧ W.cell? ⟨gc, 2, none⟩ = some (.int .u64 t.hi) ∧ W.cell? ⟨gd, 0, none⟩ = some (.string t.key) ∧ W.cell? ⟨gd, 1, none⟩ = some (.int .u64 t.lo) ∧ W.cell? ⟨gd, 2, none⟩ = some (.int .u64 t.hi) ∧ W.cell? ⟨q, 1, none⟩ = some (.slice A3 ln c3))) := hide (fun W kW => ⟨kW, kW.cell_some pa0 (fun h => h), kW.cell_some pa1 (fun h => h), kW.cell_some pa2 (fun h => h), kW.cell_some pb0 (fun h => h), kW.cell_some pb1 (fun h => h), kW.cell_some pb2 (fun h => h), kW.cell_some pc0 (fun h => h), kW.cell_some pc1 (fun h => h), kW.cell_some pc2 (fun h => h), kW.cell_some pd0 (fun h => h), kW.cell_some pd1 (fun h => h), kW.cell_some pd2 (fun h => h), kW.cell_some cq (fun h => h)⟩)
      clear rq lq pa0 pa1 pa2 pb0 pb1 pb2 pc0 pc1 pc2 pd0 pd1 pd2 cq
      refine wp_region_held_drew (S := fun W => Keeps (fun _ => False) w16 W ∧ W.cell? ⟨ga, 0, none⟩ = some (.string u.key) ∧ W.cell? ⟨ga, 1, none⟩ = some (.int .u64 u.lo) ∧ W.cell? ⟨ga, 2, none⟩ = some (.int .u64 u.hi) ∧ W.cell? ⟨gb, 0, none⟩ = some (.string u.key) ∧ W.cell? ⟨gb, 1, none⟩ = some (.int .u64 u.lo) ∧ W.cell? ⟨gb, 2, none⟩ = some (.int .u64 u.hi) ∧ W.cell? ⟨gc, 0, none⟩ = some (.string t.key) ∧ W.cell? ⟨gc, 1, none⟩ = some (.int .u64 t.lo) ∧ W.cell? ⟨gc, 2, none⟩ = some (.int .u64 t.hi) ∧ W.cell? ⟨gd, 0, none⟩ = some (.string t.key) ∧ W.cell? ⟨gd, 1, none⟩ = some (.int .u64 t.lo) ∧ W.cell? ⟨gd, 2, none⟩ = some (.int .u64 t.hi) ∧ W.cell? ⟨q, 1, none⟩ = some (.slice A3 ln c3)) (by kernel_rfl) (HSg.out _ ((Keeps.refl _ _).drew)) (fun hHeld => ?_)
      refine wpAnyH_take (i := 0) (v := ?_) rfl (by kernel_rfl) (by kernel_rfl) (by kernel_rfl) (fun _ _ _ h => h) (Or.inl ⟨by first | kernel_rfl | rfl, ?_⟩) (by assumption) ?_; rotate_left; focus (intro w hSw; (try dsimp only at hSw); go_simp; try (with_reducible rfl)); (try simp only [Act.put, List.getElem_toArray, List.getElem_cons_succ, List.getElem_cons_zero, List.setIfInBounds_toArray, List.set_cons_zero, List.set_cons_succ])
      refine wpAnyH_take (i := 1) (v := ?_) rfl (by kernel_rfl) (by kernel_rfl) (by kernel_rfl) (fun _ _ _ h => h) (Or.inl ⟨by first | kernel_rfl | rfl, ?_⟩) (by assumption) ?_; rotate_left; focus (intro w hSw; (try dsimp only at hSw); go_simp; try (with_reducible rfl)); (try simp only [Act.put, List.getElem_toArray, List.getElem_cons_succ, List.getElem_cons_zero, List.setIfInBounds_toArray, List.set_cons_zero, List.set_cons_succ])
      refine wpAnyH_take (i := 2) (v := ?_) rfl (by kernel_rfl) (by kernel_rfl) (by kernel_rfl) (fun _ _ _ h => h) (Or.inl ⟨by first | kernel_rfl | rfl, ?_⟩) (by assumption) ?_; rotate_left; focus (intro w hSw; (try dsimp only at hSw); go_simp; try (with_reducible rfl)); (try simp only [Act.put, List.getElem_toArray, List.getElem_cons_succ, List.getElem_cons_zero, List.setIfInBounds_toArray, List.set_cons_zero, List.set_cons_succ])
      refine wpAnyH_take (i := 3) (v := ?_) rfl (by kernel_rfl) (by kernel_rfl) (by kernel_rfl) (fun _ _ _ h => h) (Or.inl ⟨by first | kernel_rfl | rfl, ?_⟩) (by assumption) ?_; rotate_left; focus (intro w hSw; (try dsimp only at hSw); go_simp; try (with_reducible rfl)); (try simp only [Act.put, List.getElem_toArray, List.getElem_cons_succ, List.getElem_cons_zero, List.setIfInBounds_toArray, List.set_cons_zero, List.set_cons_succ])
      refine wpAnyH_take (i := 4) (v := ?_) rfl (by kernel_rfl) (by kernel_rfl) (by kernel_rfl) (fun _ _ _ h => h) (Or.inl ⟨by first | kernel_rfl | rfl, ?_⟩) (by assumption) ?_; rotate_left; focus (intro w hSw; (try dsimp only at hSw); go_simp; try (with_reducible rfl)); (try simp only [Act.put, List.getElem_toArray, List.getElem_cons_succ, List.getElem_cons_zero, List.setIfInBounds_toArray, List.set_cons_zero, List.set_cons_succ])
      refine wpAnyH_take (i := 5) (v := ?_) rfl (by kernel_rfl) (by kernel_rfl) (by kernel_rfl) (fun _ _ _ h => h) (Or.inl ⟨by first | kernel_rfl | rfl, ?_⟩) (by assumption) ?_; rotate_left; focus (intro w hSw; (try dsimp only at hSw); go_simp; try (with_reducible rfl)); (try simp only [Act.put, List.getElem_toArray, List.getElem_cons_succ, List.getElem_cons_zero, List.setIfInBounds_toArray, List.set_cons_zero, List.set_cons_succ])
      refine wpAnyH_take (i := 6) (v := ?_) rfl (by kernel_rfl) (by kernel_rfl) (by kernel_rfl) (fun _ _ _ h => h) (Or.inl ⟨by first | kernel_rfl | rfl, ?_⟩) (by assumption) ?_; rotate_left; focus (intro w hSw; (try dsimp only at hSw); go_simp; try (with_reducible rfl)); (try simp only [Act.put, List.getElem_toArray, List.getElem_cons_succ, List.getElem_cons_zero, List.setIfInBounds_toArray, List.set_cons_zero, List.set_cons_succ])
      refine wpAnyH_take (i := 7) (v := ?_) rfl (by kernel_rfl) (by kernel_rfl) (by kernel_rfl) (fun _ _ _ h => h) (Or.inl ⟨by first | kernel_rfl | rfl, ?_⟩) (by assumption) ?_; rotate_left; focus (intro w hSw; (try dsimp only at hSw); go_simp; try (with_reducible rfl)); (try simp only [Act.put, List.getElem_toArray, List.getElem_cons_succ, List.getElem_cons_zero, List.setIfInBounds_toArray, List.set_cons_zero, List.set_cons_succ])
      refine wpAnyH_take (i := 8) (v := ?_) rfl (by kernel_rfl) (by kernel_rfl) (by kernel_rfl) (fun _ _ _ h => h) (Or.inl ⟨by first | kernel_rfl | rfl, ?_⟩) (by assumption) ?_; rotate_left; focus (intro w hSw; (try dsimp only at hSw); go_simp; try (with_reducible rfl)); (try simp only [Act.put, List.getElem_toArray, List.getElem_cons_succ, List.getElem_cons_zero, List.setIfInBounds_toArray, List.set_cons_zero, List.set_cons_succ])
      refine wpAnyH_take (i := 9) (v := ?_) rfl (by kernel_rfl) (by kernel_rfl) (by kernel_rfl) (fun _ _ _ h => h) (Or.inl ⟨by first | kernel_rfl | rfl, ?_⟩) (by assumption) ?_; rotate_left; focus (intro w hSw; (try dsimp only at hSw); go_simp; try (with_reducible rfl)); (try simp only [Act.put, List.getElem_toArray, List.getElem_cons_succ, List.getElem_cons_zero, List.setIfInBounds_toArray, List.set_cons_zero, List.set_cons_succ])
      refine wpAnyH_take (i := 10) (v := ?_) rfl (by kernel_rfl) (by kernel_rfl) (by kernel_rfl) (fun _ _ _ h => h) (Or.inl ⟨by first | kernel_rfl | rfl, ?_⟩) (by assumption) ?_; rotate_left; focus (intro w hSw; (try dsimp only at hSw); go_simp; try (with_reducible rfl)); (try simp only [Act.put, List.getElem_toArray, List.getElem_cons_succ, List.getElem_cons_zero, List.setIfInBounds_toArray, List.set_cons_zero, List.set_cons_succ])
      refine wpAnyH_take (i := 11) (v := ?_) rfl (by kernel_rfl) (by kernel_rfl) (by kernel_rfl) (fun _ _ _ h => h) (Or.inl ⟨by first | kernel_rfl | rfl, ?_⟩) (by assumption) ?_; rotate_left; focus (intro w hSw; (try dsimp only at hSw); go_simp; try (with_reducible rfl)); (try simp only [Act.put, List.getElem_toArray, List.getElem_cons_succ, List.getElem_cons_zero, List.setIfInBounds_toArray, List.set_cons_zero, List.set_cons_succ])
      refine wpAnyH_take (i := 12) (v := ?_) rfl (by kernel_rfl) (by kernel_rfl) (by kernel_rfl) (fun _ _ _ h => h) (Or.inl ⟨by first | kernel_rfl | rfl, ?_⟩) (by assumption) ?_; rotate_left; focus (intro w hSw; (try dsimp only at hSw); go_simp; try (with_reducible rfl)); (try simp only [Act.put, List.getElem_toArray, List.getElem_cons_succ, List.getElem_cons_zero, List.setIfInBounds_toArray, List.set_cons_zero, List.set_cons_succ])
      refine wpAnyH_take (i := 13) (v := ?_) rfl (by kernel_rfl) (by kernel_rfl) (by kernel_rfl) (fun _ _ _ h => h) (Or.inl ⟨by first | kernel_rfl | rfl, ?_⟩) (by assumption) ?_; rotate_left; focus (intro w hSw; (try dsimp only at hSw); go_simp; try (with_reducible rfl)); (try simp only [Act.put, List.getElem_toArray, List.getElem_cons_succ, List.getElem_cons_zero, List.setIfInBounds_toArray, List.set_cons_zero, List.set_cons_succ])
      refine wpAnyH_take (i := 14) (v := ?_) rfl (by kernel_rfl) (by kernel_rfl) (by kernel_rfl) (fun _ _ _ h => h) (Or.inl ⟨by first | kernel_rfl | rfl, ?_⟩) (by assumption) ?_; rotate_left; focus (intro w hSw; (try dsimp only at hSw); go_simp; try (with_reducible rfl)); (try simp only [Act.put, List.getElem_toArray, List.getElem_cons_succ, List.getElem_cons_zero, List.setIfInBounds_toArray, List.set_cons_zero, List.set_cons_succ])
      refine wpAnyH_take (i := 15) (v := ?_) rfl (by kernel_rfl) (by kernel_rfl) (by kernel_rfl) (fun _ _ _ h => h) (Or.inl ⟨by first | kernel_rfl | rfl, ?_⟩) (by assumption) ?_; rotate_left; focus (intro w hSw; (try dsimp only at hSw); go_simp; try (with_reducible rfl)); (try simp only [Act.put, List.getElem_toArray, List.getElem_cons_succ, List.getElem_cons_zero, List.setIfInBounds_toArray, List.set_cons_zero, List.set_cons_succ])
      refine wpAnyH_take (i := 16) (v := ?_) rfl (by kernel_rfl) (by kernel_rfl) (by kernel_rfl) (fun _ _ _ h => h) (Or.inl ⟨by first | kernel_rfl | rfl, ?_⟩) (by assumption) ?_; rotate_left; focus (intro w hSw; (try dsimp only at hSw); go_simp; try (with_reducible rfl)); (try simp only [Act.put, List.getElem_toArray, List.getElem_cons_succ, List.getElem_cons_zero, List.setIfInBounds_toArray, List.set_cons_zero, List.set_cons_succ])
      refine wpAnyH_take (i := 17) (v := ?_) rfl (by kernel_rfl) (by kernel_rfl) (by kernel_rfl) (fun _ _ _ h => h) (Or.inl ⟨by first | kernel_rfl | rfl, ?_⟩) (by assumption) ?_; rotate_left; focus (intro w hSw; (try dsimp only at hSw); go_simp; try (with_reducible rfl)); (try simp only [Act.put, List.getElem_toArray, List.getElem_cons_succ, List.getElem_cons_zero, List.setIfInBounds_toArray, List.set_cons_zero, List.set_cons_succ])
      refine wpAnyH_take (i := 18) (v := ?_) rfl (by kernel_rfl) (by kernel_rfl) (by kernel_rfl) (fun _ _ _ h => h) (Or.inl ⟨by first | kernel_rfl | rfl, ?_⟩) (by assumption) ?_; rotate_left; focus (intro w hSw; (try dsimp only at hSw); go_simp; try (with_reducible rfl)); (try simp only [Act.put, List.getElem_toArray, List.getElem_cons_succ, List.getElem_cons_zero, List.setIfInBounds_toArray, List.set_cons_zero, List.set_cons_succ])
      refine wpAnyH_take (i := 19) (v := ?_) rfl (by kernel_rfl) (by kernel_rfl) (by kernel_rfl) (fun _ _ _ h => h) (Or.inl ⟨by first | kernel_rfl | rfl, ?_⟩) (by assumption) ?_; rotate_left; focus (intro w hSw; (try dsimp only at hSw); go_simp; try (with_reducible rfl)); (try simp only [Act.put, List.getElem_toArray, List.getElem_cons_succ, List.getElem_cons_zero, List.setIfInBounds_toArray, List.set_cons_zero, List.set_cons_succ])
      refine wpAnyH_take (i := 21) (v := ?_) rfl (by kernel_rfl) (by kernel_rfl) (by kernel_rfl) (fun _ _ _ h => h) (Or.inl ⟨by first | kernel_rfl | rfl, ?_⟩) (by assumption) ?_; rotate_left; focus (intro w hSw; (try dsimp only at hSw); go_simp; try (with_reducible rfl)); (try simp only [Act.put, List.getElem_toArray, List.getElem_cons_succ, List.getElem_cons_zero, List.setIfInBounds_toArray, List.set_cons_zero, List.set_cons_succ])
      refine wpAnyH_take (i := 22) (v := ?_) rfl (by kernel_rfl) (by kernel_rfl) (by kernel_rfl) (fun _ _ _ h => h) (Or.inl ⟨by first | kernel_rfl | rfl, ?_⟩) (by assumption) ?_; rotate_left; focus (intro w hSw; (try dsimp only at hSw); go_simp; try (with_reducible rfl)); (try simp only [Act.put, List.getElem_toArray, List.getElem_cons_succ, List.getElem_cons_zero, List.setIfInBounds_toArray, List.set_cons_zero, List.set_cons_succ])
      refine wpAnyH_take (i := 23) (v := ?_) rfl (by kernel_rfl) (by kernel_rfl) (by kernel_rfl) (fun _ _ _ h => h) (Or.inl ⟨by first | kernel_rfl | rfl, ?_⟩) (by assumption) ?_; rotate_left; focus (intro w hSw; (try dsimp only at hSw); go_simp; try (with_reducible rfl)); (try simp only [Act.put, List.getElem_toArray, List.getElem_cons_succ, List.getElem_cons_zero, List.setIfInBounds_toArray, List.set_cons_zero, List.set_cons_succ])
      refine wpAnyH_take (i := 24) (v := ?_) rfl (by kernel_rfl) (by kernel_rfl) (by kernel_rfl) (fun _ _ _ h => h) (Or.inl ⟨by first | kernel_rfl | rfl, ?_⟩) (by assumption) ?_; rotate_left; focus (intro w hSw; (try dsimp only at hSw); go_simp; try (with_reducible rfl)); (try simp only [Act.put, List.getElem_toArray, List.getElem_cons_succ, List.getElem_cons_zero, List.setIfInBounds_toArray, List.set_cons_zero, List.set_cons_succ])
      refine wpAnyH_ready (rs := [20]) (by kernel_rfl) (by simp) ?_
      refine AllReadyH.cons rfl (fun K hK => ?_) AllReadyH.nil
      go_simp
      go_at_call 46
      refine (tentries_any (T16.out.kept ((Keeps.refl (fun _ => False) w16).drew) (fun _ h => h.elim))).mono ?_
      rintro e w17 ⟨A9, c9, rfl, o9, k9⟩
      rw [← HLN.out] at o9 ⊢
      have O9 := hide o9
      have K17 := hide (((Keeps.refl (fun _ => False) w16).drew).trans k9)
      clear o9 k9
      (try go_wp2_with fail)
      refine hK.out _ _ (HSg.out _ K17.out) (fun _ => ?_)
      clear hK K
      (try simp only [Act.put, List.getElem_toArray, List.getElem_cons_succ, List.getElem_cons_zero, List.setIfInBounds_toArray, List.set_cons_zero, List.set_cons_succ])
      refine wpAnyH_ready (rs := [25]) (by kernel_rfl) (by simp) ?_
      refine AllReadyH.cons rfl (fun K hK => ?_) AllReadyH.nil
      go_simp
      go_at_call 54
      refine (sameEntries_any l2 A9 A3 ln c9 c3 _ _ w17 (O9.out.rd (by omega)) (RQ.out.kept K17.out (fun _ _ h => h)) (by omega)).mono ?_
      rintro e w18 ⟨rfl, nq, rfl⟩
      have K18 := hide (K17.out.drewN nq)
      (try go_wp2_with fail)
      refine hK.out _ _ (HSg.out _ K18.out) (fun _ => ?_)
      clear hK K
      (try simp only [Act.put, List.getElem_toArray, List.getElem_cons_succ, List.getElem_cons_zero, List.setIfInBounds_toArray, List.set_cons_zero, List.set_cons_succ])
      refine wpAnyH_take (i := 26) (v := ?_) rfl (by kernel_rfl) (by kernel_rfl) (by kernel_rfl) (fun _ _ _ h => h) (Or.inl ⟨by first | kernel_rfl | rfl, ?_⟩) (by assumption) ?_; rotate_left; focus (intro w hSw; (try dsimp only at hSw); go_simp; try (with_reducible rfl)); (try simp only [Act.put, List.getElem_toArray, List.getElem_cons_succ, List.getElem_cons_zero, List.setIfInBounds_toArray, List.set_cons_zero, List.set_cons_succ])
      refine wpAnyH_take (i := 27) (v := ?_) rfl (by kernel_rfl) (by kernel_rfl) (by kernel_rfl) (fun _ _ _ h => h) (Or.inl ⟨by first | kernel_rfl | rfl, ?_⟩) (by assumption) ?_; rotate_left; focus (intro w hSw; (try dsimp only at hSw); go_simp; try (with_reducible rfl)); (try simp only [Act.put, List.getElem_toArray, List.getElem_cons_succ, List.getElem_cons_zero, List.setIfInBounds_toArray, List.set_cons_zero, List.set_cons_succ])
      refine wpAnyH_take (i := 28) (v := ?_) rfl (by kernel_rfl) (by kernel_rfl) (by kernel_rfl) (fun _ _ _ h => h) (Or.inl ⟨by first | kernel_rfl | rfl, ?_⟩) (by assumption) ?_; rotate_left; focus (intro w hSw; (try dsimp only at hSw); go_simp; try (with_reducible rfl)); (try simp only [Act.put, List.getElem_toArray, List.getElem_cons_succ, List.getElem_cons_zero, List.setIfInBounds_toArray, List.set_cons_zero, List.set_cons_succ])
      refine wpAnyH_take (i := 29) (v := ?_) rfl (by kernel_rfl) (by kernel_rfl) (by kernel_rfl) (fun _ _ _ h => h) (Or.inl ⟨by first | kernel_rfl | rfl, ?_⟩) (by assumption) ?_; rotate_left; focus (intro w hSw; (try dsimp only at hSw); go_simp; try (with_reducible rfl)); (try simp only [Act.put, List.getElem_toArray, List.getElem_cons_succ, List.getElem_cons_zero, List.setIfInBounds_toArray, List.set_cons_zero, List.set_cons_succ])
      refine wpAnyH_take (i := 31) (v := ?_) rfl (by kernel_rfl) (by kernel_rfl) (by kernel_rfl) (fun _ _ _ h => h) (Or.inl ⟨by first | kernel_rfl | rfl, ?_⟩) (by assumption) ?_; rotate_left; focus (intro w hSw; (try dsimp only at hSw); go_simp; try (with_reducible rfl)); (try simp only [Act.put, List.getElem_toArray, List.getElem_cons_succ, List.getElem_cons_zero, List.setIfInBounds_toArray, List.set_cons_zero, List.set_cons_succ])
      refine wpAnyH_take (i := 32) (v := ?_) rfl (by kernel_rfl) (by kernel_rfl) (by kernel_rfl) (fun _ _ _ h => h) (Or.inl ⟨by first | kernel_rfl | rfl, ?_⟩) (by assumption) ?_; rotate_left; focus (intro w hSw; (try dsimp only at hSw); go_simp; try (with_reducible rfl)); (try simp only [Act.put, List.getElem_toArray, List.getElem_cons_succ, List.getElem_cons_zero, List.setIfInBounds_toArray, List.set_cons_zero, List.set_cons_succ])
      refine wpAnyH_take (i := 33) (v := ?_) rfl (by kernel_rfl) (by kernel_rfl) (by kernel_rfl) (fun _ _ _ h => h) (Or.inl ⟨by first | kernel_rfl | rfl, ?_⟩) (by assumption) ?_; rotate_left; focus (intro w hSw; (try dsimp only at hSw); go_simp; try (with_reducible rfl)); (try simp only [Act.put, List.getElem_toArray, List.getElem_cons_succ, List.getElem_cons_zero, List.setIfInBounds_toArray, List.set_cons_zero, List.set_cons_succ])
      refine wpAnyH_take (i := 34) (v := ?_) rfl (by kernel_rfl) (by kernel_rfl) (by kernel_rfl) (fun _ _ _ h => h) (Or.inl ⟨by first | kernel_rfl | rfl, ?_⟩) (by assumption) ?_; rotate_left; focus (intro w hSw; (try dsimp only at hSw); go_simp; try (with_reducible rfl)); (try simp only [Act.put, List.getElem_toArray, List.getElem_cons_succ, List.getElem_cons_zero, List.setIfInBounds_toArray, List.set_cons_zero, List.set_cons_succ])
      refine wpAnyH_take (i := 35) (v := ?_) rfl (by kernel_rfl) (by kernel_rfl) (by kernel_rfl) (fun _ _ _ h => h) (Or.inl ⟨by first | kernel_rfl | rfl, ?_⟩) (by assumption) ?_; rotate_left; focus (intro w hSw; (try dsimp only at hSw); go_simp; try (with_reducible rfl)); (try simp only [Act.put, List.getElem_toArray, List.getElem_cons_succ, List.getElem_cons_zero, List.setIfInBounds_toArray, List.set_cons_zero, List.set_cons_succ])
      refine wpAnyH_ready (rs := [30]) (by kernel_rfl) (by simp) ?_
      refine AllReadyH.cons rfl (fun K hK => ?_) AllReadyH.nil
      go_simp
      go_at_call 42
      refine (tlen_any (T16.out.kept K18.out (fun _ h => h.elim))).mono ?_
      rintro e w19 ⟨rfl, rfl⟩
      rw [← HLN.out]
      (try go_wp2_with fail)
      refine hK.out _ _ (HSg.out _ K18.out) (fun _ => ?_)
      clear hK K
      (try simp only [Act.put, List.getElem_toArray, List.getElem_cons_succ, List.getElem_cons_zero, List.setIfInBounds_toArray, List.set_cons_zero, List.set_cons_succ])
      refine wpAnyH_take (i := 36) (v := ?_) rfl (by kernel_rfl) (by kernel_rfl) (by kernel_rfl) (fun _ _ _ h => h) (Or.inl ⟨by first | kernel_rfl | rfl, ?_⟩) (by assumption) ?_; rotate_left; focus (intro w hSw; (try dsimp only at hSw); go_simp; try (with_reducible rfl)); (try simp only [Act.put, List.getElem_toArray, List.getElem_cons_succ, List.getElem_cons_zero, List.setIfInBounds_toArray, List.set_cons_zero, List.set_cons_succ])
      refine wpAnyH_take (i := 37) (v := ?_) rfl (by kernel_rfl) (by kernel_rfl) (by kernel_rfl) (fun _ _ _ h => h) (Or.inl ⟨by first | kernel_rfl | rfl, ?_⟩) (by assumption) ?_; rotate_left; focus (intro w hSw; (try dsimp only at hSw); go_simp; try (with_reducible rfl)); (try simp only [Act.put, List.getElem_toArray, List.getElem_cons_succ, List.getElem_cons_zero, List.setIfInBounds_toArray, List.set_cons_zero, List.set_cons_succ])
      refine wpAnyH_done (by kernel_rfl) ?_ _
      (try simp only [Act.put, List.getElem_toArray, List.getElem_cons_succ, List.getElem_cons_zero, List.setIfInBounds_toArray, List.set_cons_zero, List.set_cons_succ])
      clear hHeld HSg
      have HTF : Hid (Two (w17.drewN nq) (fun k => k < B ∨ k = g ∨ k = gp) s q N l2 l2) := hide ((T16.out.kept K18.out (fun _ h => h.elim)).less (fun k e => by omega))
      have HPF := hide (HP8.out.kept (KA.out.trans K18.out) (fun h => h))
      have HDF := hide (HD8.out.kept (KA.out.trans K18.out) (fun h => h) (fun _ _ h => h))
      have HKF := hide (HK8.out.trans ((KA.out.trans K18.out).weak (S' := fun k => ¬ k < B) (fun _ _ h => h.elim)))
      go_wp2_with fail
      go_roundw
      case rel => first
        | exact ⟨i + 1, l2, by omega, by omega, by go_num, HTF, HPF, HDF, HKF⟩
        | ((repeat apply Exists.intro); exact ⟨⟨i + 1, l2, by omega, by omega, by go_num, HTF, HPF, HDF, HKF⟩, rfl⟩)
      case measure => simp [intOf]; omega
    · have hee : decide (i < n2) = false ∨ (decide (i < n2) = true ∧ decide ((i : Int) < 60) = false) := by
        by_cases h1 : i < n2
        · exact .inr ⟨by simpa using h1, by simp; omega⟩
        · exact .inl (by simpa using h1)
      clear hlt
      rcases hee with e1 | ⟨e1, e2⟩
      all_goals
        go_wp2_with fail
        refine (awake17 _).mono ?_
        rintro e w9 ⟨rfl, k9⟩
        have K9 := hide (HK.out.trans (k9.weak (S' := fun k => ¬ k < B) (fun _ _ h => h.elim)))
        clear k9
        go_wp2_with fail
        go_ret
        exact ⟨rfl, K9.out⟩
theorem walk (w : World) (n : Int) (n0 : 0 ≤ n) (n1 : n < 256)
    (A1 : Option Addr) (m1 c1 : Nat) (z1 : List Int) (r1 : Rd w w.heap.size A1 1 m1 (z1.map (.int .i64))) (b1 : ∀ z ∈ z1, -9223372036854775808 ≤ z ∧ z < 9223372036854775808) (s1 : m1 * 8 ≤ 140737488351232) (l1 : m1 ≤ c1)
    (A2 : Option Addr) (m2 c2 : Nat) (z2 : List Int) (r2 : Rd w w.heap.size A2 1 m2 (z2.map (.int .i64))) (b2 : ∀ z ∈ z2, -9223372036854775808 ≤ z ∧ z < 9223372036854775808) (s2 : m2 * 8 ≤ 140737488351232) (l2 : m2 ≤ c2)
    (raw : Int) (p0 : 0 ≤ raw) (p1 : raw < 18446744073709551616) (k : ByteArray) (o h : Int) (ho : U o) (hh : U h) :
    Calls Try.prog 14 #[.int .u8 n, .slice A1 m1 c1, .slice A2 m2 c2, .int .u64 raw, .agg #[.string k, .int .u64 o, .int .u64 h]] w fun e w' => e = .returned (.bool true) ∧ Below w.heap.size w w' :=
  (main w n n0 n1 A1 m1 c1 z1 r1 b1 (by omega) A2 m2 c2 z2 r2 b2 raw ⟨p0, p1⟩ ⟨k, o, h⟩ ⟨ho, hh⟩).mono fun e w' ⟨he, hk⟩ => ⟨he, hk.below (fun k h1 h2 => h2 h1)⟩
end exactSteps
end Go.Proofs.Ytmbgnekilgobaaa
