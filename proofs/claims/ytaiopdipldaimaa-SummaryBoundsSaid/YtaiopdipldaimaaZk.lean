/-
  SummaryBounds: the estimate and the bounds of any key by any summary; the walk. No conditions beyond those of the statement.
-/
import Derived.Test.YtaiopdipldaimaaZj
import Derived.Test.YtaiopdipldaimaaGI
import Derived.Test.YtaiopdipldaimaaYt
import Derived.Test.YtaiopdipldaimaaLe
import Derived.Test.YtaiopdipldaimaaMem2
set_option linter.unusedVariables false
set_option linter.unusedSimpArgs false
namespace Go.Proofs.Ytaiopdipldaimaa
open Go.RowKit Cfp
namespace summaryBounds
set_option maxRecDepth 100000 in
set_option maxHeartbeats 3000000 in
theorem main (w : World) (tot un : Int) (A : Option Addr) (n cA : Nat) (l : List Ln) (R : Option Addr) (m cR : Nat) (F : RowsF) (ht : U tot) (hu : U un) (re : Rd w w.heap.size A 3 n (lnCs l)) (hnum : ∀ x ∈ l, U x.lo ∧ U x.hi)
    (rr : Rd w w.heap.size R 1 m ((List.range m).map fun j => .slice (F j).1 (F j).2.1 (F j).2.2.1)) (rd : RowsRd w w.heap.size .u64 m F)
    (A1 : Option Addr) (n1 c1 : Nat) (zs0 : List Int) (hd : Rd w w.heap.size A1 1 n1 (zs0.map (.int .i64))) (hz : ∀ z ∈ zs0, -9223372036854775808 ≤ z ∧ z < 9223372036854775808) (hn1 : n1 ≤ 17592186043904) (at_ nn : Int) (hnn : U nn) (key : ByteArray) (hkey : key.size ≤ 140737488351232) :
    Calls Try.prog 11 #[smV tot A n cA un R m cR, .slice A1 n1 c1, .int .i64 at_, .int .u64 nn, .string key] w fun e w' => e = .returned (.bool true) ∧ Keeps (fun _ => False) w w' := by
  obtain ⟨w1, hw1⟩ : ∃ w1, w1 = w.alloc (.cells (smC tot A n cA un R m cR) 45) := ⟨_, rfl⟩
  have k1 : Keeps (fun _ => False) w w1 := by rw [hw1]; exact (Keeps.refl _ _).alloc _
  have b4 : Blk w1 w.heap.size 45 (smC tot A n cA un R m cR) := by rw [hw1]; exact Blk.new _ _ _
  have HRe := hide (re.kept k1 (fun _ _ h => h))
  have HRr := hide (rr.kept k1 (fun _ _ h => h))
  have HRd := hide (rd.kept k1 (fun _ _ h => h))
  have HLN := hide (lnRd_len re)
  have HD := hide (hd.kept k1 (fun _ _ h => h))
  have HNum := hide hnum
  have y0 : w1.cell? ⟨w.heap.size, 0, none⟩ = some (.int .u64 tot) := b4.cell 0
  have y1 : w1.cell? ⟨w.heap.size, 1, none⟩ = some (.slice A n cA) := b4.cell 1
  have y2 : w1.cell? ⟨w.heap.size, 2, none⟩ = some (.int .u64 un) := b4.cell 2
  have y3 : w1.cell? ⟨w.heap.size, 3, none⟩ = some (.slice R m cR) := b4.cell 3
  have B4 := hide b4
  have K1 := hide k1
  have HW1 := hide hw1
  have hX4 : w.heap.size < w1.heap.size := b4.lt
  clear hw1 k1 b4 re rr rd hd hnum
  go_enter Try.func11, Try.ntmps11
  go_upto_region 1 with fail
  rw [← HW1.out]
  clear HW1
  generalize hX : w.heap.size = X4 at *
  have HX := hide (Nat.le_of_eq hX)
  clear hX
  go_wp2_with fail
  refine (plain_any w1 X4 tot un A R n cA m cR l F HRe.out HRr.out (by omega)).mono ?_
  rintro e wp ⟨bv, rfl, hp, kp⟩
  have KP := hide (K1.out.trans kp)
  have HPl := hide hp
  rcases bv with _ | _
  · clear hp kp
    trace "NOT PLAIN"
    go_wp2_with fail
    refine (awake21 _).mono ?_
    rintro e w2 ⟨rfl, k2⟩
    have K2 := hide (KP.out.trans k2)
    clear k2
    go_wp2_with fail
    go_ret
    exact ⟨rfl, K2.out⟩
  by_cases h3 : (300 : Int) < (key.size : Int)
  · clear hp kp
    trace "LONG"
    go_wp2_with fail
    refine (awake21 _).mono ?_
    rintro e w2 ⟨rfl, k2⟩
    have K2 := hide (KP.out.trans k2)
    clear k2
    go_wp2_with fail
    go_ret
    exact ⟨rfl, K2.out⟩
  trace "PLAIN"
  have hpl := HPl.out rfl
  have B4p := hide (B4.out.kept kp (fun h => h))
  have HDp := hide (HD.out.kept kp (fun _ _ h => h))
  have SR : Hid (SmIn wp X4 A n l R m F) := hide ⟨HLN.out, HRe.out.kept kp (fun _ _ h => h), HRr.out.kept kp (fun _ _ h => h), HRd.out.kept kp (fun _ _ h => h), fun x hx => ⟨(HNum.out x hx).1, (HNum.out x hx).2, by have := hpl.2.2.1 x hx; omega⟩, by have := hpl.1; omega, by have := hpl.2.1; omega⟩
  have hXp : X4 < wp.heap.size := B4p.out.lt
  clear hp kp hpl HPl B4 HD HRe HRr HRd HNum HLN y0 y1 y2 y3 K1 hX4
  go_wp2_with fail
  trace "NEW"
  refine (new_deck A1 n1 c1 zs0 X4 wp (by omega) HDp.out hz (by omega)).mono ?_
  rintro e w2 ⟨rfl, d2, k2⟩
  have K2 := hide (KP.out.trans k2)
  have B42 := hide (B4p.out.kept k2 (fun h => h))
  have SR2 := hide (SR.out.kept k2 (fun _ _ h => h))
  clear k2 KP B4p SR HDp
  go_wp2_with fail
  trace "CONFIG"
  refine (config_any X4 wp.heap.size w2 d2).mono ?_
  rintro e w3 ⟨c, lc, G, b, ts, rfl, hm, hl, hsn, hG, bG, tl, tb, bt, hb, d3, k3⟩
  have K3 := hide (K2.out.step k3 (fun b hb e => by have := HX.out; omega))
  have B43 := hide (B42.out.kept k3 (by omega))
  have SR3 := hide (SR2.out.kept k3 (fun _ _ h => by omega))
  have hw3 : wp.heap.size < w3.heap.size := d3.lt
  have HM := hide hm
  obtain ⟨nl, hnl⟩ : ∃ nl, nl = lc.length := ⟨_, rfl⟩
  rw [← hnl]
  have BX := hide (Blk.new w3 51 #[.int .i64 c.length, .int .i64 c.lateness, .int .i64 c.windows, .int .i64 c.shards, .int .i64 c.spread, .int .i64 c.queue, .int .i64 c.mode, .int .i64 c.slots, .int .i64 c.exact_, .int .u64 c.promote, .int .i64 c.depth, .int .i64 c.width, .int .i64 c.top, .int .i64 c.key, .slice (some ⟨G, 0, none⟩) nl nl, .slice (some ⟨b, 0, none⟩) 16 16, .int .u64 c.seed])
  have kX := (Keeps.refl (fun _ => False) w3).alloc (.cells #[.int .i64 c.length, .int .i64 c.lateness, .int .i64 c.windows, .int .i64 c.shards, .int .i64 c.spread, .int .i64 c.queue, .int .i64 c.mode, .int .i64 c.slots, .int .i64 c.exact_, .int .u64 c.promote, .int .i64 c.depth, .int .i64 c.width, .int .i64 c.top, .int .i64 c.key, .slice (some ⟨G, 0, none⟩) nl nl, .slice (some ⟨b, 0, none⟩) 16 16, .int .u64 c.seed] 51)
  have BT := hide (bt.kept kX (fun h => h))
  have K4 := hide (K3.out.trans kX)
  have B44 := hide (B43.out.kept kX (fun h => h))
  have SR4 := hide (SR3.out.kept kX (fun _ _ h => h))
  have D4 := hide (d3.kept kX (fun h => h) (fun _ _ h => h))
  have HTL := hide tl
  have HTB := hide tb
  have hbw := bt.lt
  have hgb := hb
  have hgl := d2.lt
  clear hl hsn hG bG bt hb d2 d3 k3 hm hnl K2 K3 kX tl tb B42 B43 SR2 SR3
  go_upto_region 5 with (refine cfg_st _ _ rfl (by rfl) (by rfl) (by rfl) (by rfl) ?_; simp only [Act.put, List.setIfInBounds_toArray, List.set_cons_zero, List.set_cons_succ])
  generalize w3.alloc _ = w4 at *
  generalize w3.heap.size = X10 at *
  generalize wp.heap.size = gd at *
  have hX10 : X10 < w4.heap.size := BX.out.lt
  trace "R5"
  go_wp2_with (refine cfg_ld _ rfl BX.out rfl (by rfl) ?_; simp only [Act.put, List.setIfInBounds_toArray, List.set_cons_zero, List.set_cons_succ])
  refine (dsummary_any X4 gd w4 D4.out c HM.out _ _ nl nl 16 16).mono ?_
  rintro e w5 ⟨tot5, un5, left, kb, l5, P, A5, cA5, R5, cR5, rfl, ht5, hu5, hl4, hok, oA, hPd, oR, hP, d5, k5⟩
  have BX5 := hide (BX.out.kept k5 (by omega))
  have BT5 := hide (BT.out.kept k5 (by omega))
  have B45 := hide (B44.out.kept k5 (by omega))
  have SR5 := hide (SR4.out.kept k5 (fun _ _ h => by omega))
  have K5 := hide (K4.out.step k5 (fun b hb e => by have := HX.out; omega))
  have hP4 : P.length ≤ 4 := by have := HM.out.depth; rcases hPd with h | h; (rw [h]; simp); omega
  obtain ⟨wd, hwd⟩ : ∃ wd : Nat, wd = c.width.toNat := ⟨_, rfl⟩
  rw [← hwd] at oR hP
  have hwd9 : wd ≤ 9 ∧ 0 < wd ∧ (wd : Int) = c.width := by have h1 := HM.out.width; have h2 := HM.out.fine.width.1; omega
  have SI5 := hide (sum_in ht5.2 hl4 hP4 hwd9.1 hok oA oR (fun p hp => (hP p hp).2))
  have h300 : ∀ j, j < P.length → ((rowP wd P) j).2.1 ≤ 300 := fun j hj => by show wd ≤ 300; omega
  obtain ⟨F5, hF⟩ : ∃ F, F = rowP wd P := ⟨_, rfl⟩
  rw [← hF] at SI5 h300
  obtain ⟨n5, hn⟩ : ∃ n, n = l5.length := ⟨_, rfl⟩
  obtain ⟨m5, hm⟩ : ∃ m, m = P.length := ⟨_, rfl⟩
  rw [← hm] at h300
  rw [← hn, ← hm] at SI5 ⊢
  rw [← hn] at hl4
  rw [← hm] at hP4
  have H300 := hide h300
  have HT5 : Hid (U tot5) := hide ⟨ht5.1, by omega⟩
  have HU5 : Hid (U un5) := hide ⟨hu5.1, by omega⟩
  clear hP oA oR d5 k5 hok hPd hu5 ht5 hwd hwd9 hF hn hm h300 BX BT K4 D4 B44 SR4
  have BY := hide (Blk.new w5 45 (smC tot5 A5 n5 cA5 un5 R5 m5 cR5))
  have kY := (Keeps.refl (fun _ => False) w5).alloc (.cells (smC tot5 A5 n5 cA5 un5 R5 m5 cR5) 45)
  have BX6 := hide (BX5.out.kept kY (fun h => h))
  have BT6 := hide (BT5.out.kept kY (fun h => h))
  have K6 := hide (K5.out.trans kY)
  have SI6 := hide ((SI5.out.kept kY (fun _ _ h => h)))
  have B46 := hide (B45.out.kept kY (fun h => h))
  have SR6 := hide (SR5.out.kept kY (fun _ _ h => h))
  clear kY BX5 BT5 K5 SI5 B45 SR5
  go_upto_region 6 with fail
  trace "R6"
  generalize w5.alloc _ = w6 at *
  generalize w5.heap.size = X13 at *
  have hX13 : X13 < w6.heap.size := BY.out.lt
  have HSp := hide (fun (W : World) (kW : Keeps (fun _ => False) w6 W) => spoilt_any21 W X13 tot5 un5 A5 R5 n5 cA5 m5 cR5 l5 F5 (SI6.out.kept kW (fun _ _ h => h)) (by have := kW.size; omega) HT5.out HU5.out (by omega) (by omega) H300.out at_ nn hnn)
  refine Code.wp_mono ?_ (sbounds.reg6 w6 X4 X13 tot un tot5 un5 A A5 R R5 n cA m cR n5 cA5 m5 cR5 at_ nn HSp B46.out BY.out _ _ _ _ _ _ _ _ _ _ _ _ _ _ _ _ _ _ _ _ _ _ _ _ _ _ _ _ _ _ _ _ _ _ _ _ _ _ _ _ _ _ _ _ _ _ _ _ _ _ _ _ _ _ _ _ _ _ _ _ _ _ _ _ _ _ _ _ _ _ _ _ _ _ _ _ _ _ _ _ _ _ _ _ _ _ _ _ _)
  intro e a' w8 hex
  cases e <;> (first | exact hex.elim | skip)
  obtain ⟨GS, ⟨x3, l3, F3, s3, bG, k8⟩, ⟨u38, u39, u40, u41, u42, u43, rfl⟩⟩ := hex
  have hks : ∀ k ∈ [key, (⟨#[98]⟩ : ByteArray), ⟨#[100]⟩], k.size ≤ 140737488351232 := by
    intro k hk
    simp only [List.mem_cons, List.not_mem_nil, or_false] at hk
    rcases hk with rfl | rfl | rfl
    · exact hkey
    all_goals decide
  have hsz := k8.size
  have bt8 := BT6.out.kept k8 (fun h => h)
  have HF : Hid (∀ x ∈ [(⟨tot, un, A, R, n, cA, m, cR⟩ : sbounds.Sm), ⟨tot5, un5, A5, R5, n5, cA5, m5, cR5⟩, x3], ∀ k ∈ [key, (⟨#[98]⟩ : ByteArray), ⟨#[100]⟩], sbounds.Agree w8 (Value.agg #[.int .i64 c.length, .int .i64 c.lateness, .int .i64 c.windows, .int .i64 c.shards, .int .i64 c.spread, .int .i64 c.queue, .int .i64 c.mode, .int .i64 c.slots, .int .i64 c.exact_, .int .u64 c.promote, .int .i64 c.depth, .int .i64 c.width, .int .i64 c.top, .int .i64 c.key, .slice (some ⟨G, 0, none⟩) nl nl, .slice (some ⟨b, 0, none⟩) 16 16, .int .u64 c.seed]) (smV x.tot x.A x.n x.cA x.un x.R x.m x.cR) k) := hide (by
    intro x hx k hk
    simp only [List.mem_cons, List.not_mem_nil, or_false] at hx
    rcases hx with rfl | rfl | rfl
    · exact sbounds.agree_any w8 c _ b nl nl ts bt8 HTL.out HTB.out HM.out.fine.seed X4 tot un A R n cA m cR l F (SR6.out.kept k8 (fun _ _ h => h)) (by have := (B46.out.kept k8 (fun h => h)).lt; omega) k (hks k hk)
    · exact sbounds.agree_any w8 c _ b nl nl ts bt8 HTL.out HTB.out HM.out.fine.seed X13 tot5 un5 A5 R5 n5 cA5 m5 cR5 l5 F5 (SI6.out.kept k8 (fun _ _ h => h)) (by omega) k (hks k hk)
    · exact sbounds.agree_any w8 c _ b nl nl ts bt8 HTL.out HTB.out HM.out.fine.seed w8.heap.size _ _ _ _ _ _ _ _ l3 F3 s3 (Nat.le_refl _) k (hks k hk))
  have BX8 := hide (BX6.out.kept k8 (fun h => h))
  have K8 := hide (K6.out.trans k8)
  have BG := hide bG
  clear k8 bt8 bG s3 HSp BX6 BT6 BY K6 SI6 B46 SR6 hks hsz
  dsimp only
  trace "R6 DONE"
  go_wp2_with fail
  trace "LOOP"
  refine Code.wp_mono ?_ (sbounds.outer w8 X10 GS c _ _ nl nl 16 16 _ rfl key HF.out BX8.out BG.out _ _ _ _ _ _ _ _ _ _ _ _ _ _ _ _ _ _ _ _ _ _ _ _ _ _ _ _ _ _ _ _ _ _ _ _ _ _ _ _ _ _ _ _ _ _ _ _ _ _ _ _ _ _ _ _ _ _ _ _ _ _ _ _ _ _ _ _ _ _ _ _ _ _ _ _ _ _ _ _ _ _ _ _ _ _ _ _)
  intro e a' w9 hex
  cases e <;> (first | exact hex.elim | skip)
  obtain ⟨rfl, ⟨u10, u15, u17, u18, u19, u20, u21, u46, u47, u48, u49, u50, u51, u52, u53, u54, u55, u56, u57, u58, u59, u60, u61, u62, u63, u64, u65, u66, u67, u68, u69, u70, u71, u72, u73, u74, u75, u76, u77, u78, u79, u80, u81, u82, u83, u84, u85, u86, u87, u88, u89, u90, u91, rfl⟩, k9⟩ := hex
  have K9 := hide (K8.out.trans k9)
  clear k9 HF BG
  dsimp only
  go_wp2_with fail
  trace "AWAKE"
  refine (awake21 _).mono ?_
  rintro e w10 ⟨rfl, k10⟩
  have K10 := hide (K9.out.trans k10)
  clear k10
  go_wp2_with fail
  go_ret
  exact ⟨rfl, K10.out⟩
theorem walk (w : World) (tot un : Int) (A : Option Addr) (n cA : Nat) (l : List Ln) (R : Option Addr) (m cR : Nat) (F : RowsF) (x : U tot) (y : U un) (re : Rd w w.heap.size A 3 n (lnCs l)) (nu : ∀ x ∈ l, U x.lo ∧ U x.hi)
    (rr : Rd w w.heap.size R 1 m ((List.range m).map fun j => .slice (F j).1 (F j).2.1 (F j).2.2.1)) (rd : RowsRd w w.heap.size .u64 m F)
    (A1 : Option Addr) (n1 c1 : Nat) (z1 : List Int) (r1 : Rd w w.heap.size A1 1 n1 (z1.map (.int .i64))) (b1 : ∀ z ∈ z1, -9223372036854775808 ≤ z ∧ z < 9223372036854775808) (s1 : n1 * 8 ≤ 140737488351232) (l1 : n1 ≤ c1)
    (at_ : Int) (p0 : -9223372036854775808 ≤ at_) (p1 : at_ < 9223372036854775808) (nn : Int) (q0 : 0 ≤ nn) (q1 : nn < 18446744073709551616) (key : ByteArray) (wk : key.size ≤ maxLen) (hk : key.size ≤ 140737488351232) :
    Calls Try.prog 11 #[smV tot A n cA un R m cR, .slice A1 n1 c1, .int .i64 at_, .int .u64 nn, .string key] w fun e w' => e = .returned (.bool true) ∧ Below w.heap.size w w' :=
  (main w tot un A n cA l R m cR F x y re nu rr rd A1 n1 c1 z1 r1 b1 (by omega) at_ nn ⟨q0, by omega⟩ key hk).mono fun e w' ⟨he, hk⟩ => ⟨he, hk.done⟩
end summaryBounds
end Go.Proofs.Ytaiopdipldaimaa
