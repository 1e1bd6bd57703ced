/-
  SummaryBack: a summary that was encoded is decoded as it was; the walk. No conditions beyond those of the statement.
-/
import Derived.Test.YtaiopdipldaimaaGC
import Derived.Test.YtaiopdipldaimaaGI
import Derived.Test.YtaiopdipldaimaaMem2
set_option linter.unusedVariables false
set_option linter.unusedSimpArgs false
namespace Go.Proofs.Ytaiopdipldaimaa
open Go.RowKit Cfp
open sbounds (Sm)
namespace summaryBack
set_option maxRecDepth 100000 in
set_option maxHeartbeats 3000000 in
theorem main (w : World) (tot un : Int) (A : Option Addr) (n cA : Nat) (l : List Ln) (R : Option Addr) (m cR : Nat) (F : RowsF) (ht : U tot) (hu : U un) (re : Rd w w.heap.size A 3 n (lnCs l)) (hnum : ∀ x ∈ l, U x.lo ∧ U x.hi)
    (rr : Rd w w.heap.size R 1 m ((List.range m).map fun j => .slice (F j).1 (F j).2.1 (F j).2.2.1)) (rd : RowsRd w w.heap.size .u64 m F)
    (A1 : Option Addr) (n1 c1 : Nat) (zs0 : List Int) (hd : Rd w w.heap.size A1 1 n1 (zs0.map (.int .i64))) (hz : ∀ z ∈ zs0, -9223372036854775808 ≤ z ∧ z < 9223372036854775808) (hn1 : n1 ≤ 17592186043904) :
    Calls Try.prog 6 #[smV tot A n cA un R m cR, .slice A1 n1 c1] w fun e w' => e = .returned (.bool true) ∧ Keeps (fun _ => False) w w' := by
  obtain ⟨w1, hw1⟩ : ∃ w1, w1 = w.alloc (.cells (smC tot A n cA un R m cR) 45) := ⟨_, rfl⟩
  have k1 : Keeps (fun _ => False) w w1 := by rw [hw1]; exact (Keeps.refl _ _).alloc _
  have b4 : Blk w1 w.heap.size 45 (smC tot A n cA un R m cR) := by rw [hw1]; exact Blk.new _ _ _
  have HRe := hide (re.kept k1 (fun _ _ h => h))
  have HRr := hide (rr.kept k1 (fun _ _ h => h))
  have HRd := hide (rd.kept k1 (fun _ _ h => h))
  have HLN := hide (lnRd_len re)
  have HD := hide (hd.kept k1 (fun _ _ h => h))
  have HNum := hide hnum
  have HTU := hide (show U tot ∧ U un from ⟨ht, hu⟩)
  have y0 : w1.cell? ⟨w.heap.size, 0, none⟩ = some (.int .u64 tot) := b4.cell 0
  have y1 : w1.cell? ⟨w.heap.size, 1, none⟩ = some (.slice A n cA) := b4.cell 1
  have y2 : w1.cell? ⟨w.heap.size, 2, none⟩ = some (.int .u64 un) := b4.cell 2
  have y3 : w1.cell? ⟨w.heap.size, 3, none⟩ = some (.slice R m cR) := b4.cell 3
  have B4 := hide b4
  have K1 := hide k1
  have HW1 := hide hw1
  have hX4 : w.heap.size < w1.heap.size := b4.lt
  clear hw1 k1 b4 re rr rd hd hnum ht hu
  go_enter Try.func6, Try.ntmps6
  go_upto_region 1 with fail
  rw [← HW1.out]
  clear HW1
  generalize hX : w.heap.size = X4 at *
  have HX := hide (Nat.le_of_eq hX)
  clear hX
  go_wp2_with fail
  refine (plain_any w1 X4 tot un A R n cA m cR l F HRe.out HRr.out (by omega)).mono ?_
  rintro e wp ⟨bv, rfl, hp, kp⟩
  have KP := hide (K1.out.trans kp)
  have HPl := hide hp
  rcases bv with _ | _
  · clear hp kp
    trace "NOT PLAIN"
    go_wp2_with fail
    refine (awake21 _).mono ?_
    rintro e w2 ⟨rfl, k2⟩
    have K2 := hide (KP.out.trans k2)
    clear k2
    go_wp2_with fail
    go_ret
    exact ⟨rfl, K2.out⟩
  trace "PLAIN"
  have hpl := HPl.out rfl
  have B4p := hide (B4.out.kept kp (fun h => h))
  have HDp := hide (HD.out.kept kp (fun _ _ h => h))
  have SR : Hid (SmIn wp X4 A n l R m F) := hide ⟨HLN.out, HRe.out.kept kp (fun _ _ h => h), HRr.out.kept kp (fun _ _ h => h), HRd.out.kept kp (fun _ _ h => h), fun x hx => ⟨(HNum.out x hx).1, (HNum.out x hx).2, by have := hpl.2.2.1 x hx; omega⟩, by have := hpl.1; omega, by have := hpl.2.1; omega⟩
  have H3 := hide hpl.2.2.2
  have hXp : X4 < wp.heap.size := B4p.out.lt
  clear hp kp hpl HPl B4 HD HRe HRr HRd HNum HLN y0 y1 y2 y3 K1 hX4
  go_wp2_with fail
  trace "NEW"
  refine (new_deck A1 n1 c1 zs0 X4 wp (by omega) HDp.out hz (by omega)).mono ?_
  rintro e w2 ⟨rfl, d2, k2⟩
  have K2 := hide (KP.out.trans k2)
  have B42 := hide (B4p.out.kept k2 (fun h => h))
  have SR2 := hide (SR.out.kept k2 (fun _ _ h => h))
  have D2 := hide d2
  have hgl := d2.lt
  clear k2 KP B4p SR HDp d2
  generalize wp.heap.size = gd at *
  go_upto_region 4 with fail
  trace "R4"
  refine Code.wp_mono ?_ (sback.reg4 w2 X4 X4 gd tot un A R n cA m cR D2.out B42.out (by omega) _ _ _ _ _ _ _ _ _ _ _ _ _ _ _ _ _ _ _ _ _ _ _ _ _ _ _ _ _ _ _ _ _ _ _ _ _ _ _ _ _ _ _ _ _ _ _ _ _ _ _ _ _ _ _ _ _ _ _ _ _ _ _ _ _)
  intro e a' w5 hex
  cases e <;> (first | exact hex.elim | skip)
  obtain ⟨GS, ⟨x2, s2, bG, d5, k5⟩, ⟨u20, u21, u22, u23, u24, rfl⟩⟩ := hex
  have BG := hide bG
  have D5 := hide d5
  have K5 := hide (K2.out.step k5 (fun b hb e => by have := HX.out; omega))
  have HF : Hid (∀ x ∈ [(⟨tot, un, A, R, n, cA, m, cR⟩ : Sm), x2], SmOk w5 w5.heap.size x) := hide (by
    intro x hx
    simp only [List.mem_cons, List.not_mem_nil, or_false] at hx
    rcases hx with rfl | rfl
    · exact SmOk.more ⟨l, F, SR2.out.kept k5 (fun b hb e => by omega), HTU.out.1, HTU.out.2, H3.out⟩ (by have := k5.size; omega)
    · exact s2)
  clear bG d5 k5 s2 K2 D2 B42 SR2
  dsimp only
  go_wp2_with fail
  trace "LOOP"
  refine Code.wp_mono ?_ (sback.loop w5 GS _ rfl HF.out BG.out _ _ _ _ _ _ _ _ _ _ _ _ _ _ _ _ _ _ _ _ _ _ _ _ _ _ _ _ _ _ _ _ _ _ _ _ _ _ _ _ _ _ _ _ _ _ _ _ _ _ _ _ _ _ _ _ _ _ _ _ _ _ _ _)
  intro e a' w6 hex
  cases e <;> (first | exact hex.elim | skip)
  obtain ⟨rfl, ⟨v4, v7, v8, v9, v10, v11, v27, v28, v29, v30, v31, v32, v33, v34, v35, v36, v37, v38, v39, v40, v41, v42, v43, v44, v45, v46, v47, v48, v49, v50, v51, v52, v53, rfl⟩, k6⟩ := hex
  have K6 := hide (K5.out.trans k6)
  have D6 := hide (D5.out.kept k6 (fun h => h) (fun _ _ h => h))
  clear k6 K5 D5 HF BG
  dsimp only
  go_wp2_with fail
  trace "CONFIG"
  refine (cfgv_any X4 gd w6 D6.out).mono ?_
  rintro e w7 ⟨c, C, T, nc, kc, qc, jc, rfl, hm, d7, k7⟩
  have K7 := hide (K6.out.step k7 (fun b hb e => by have := HX.out; omega))
  have D7 := hide d7
  have HM := hide hm
  clear k7 d7 hm K6 D6
  go_wp2_with fail
  trace "SUMMARY"
  refine (drawn_any X4 gd w7 D7.out c HM.out _ _ _ _ _ _).mono ?_
  rintro e w8 ⟨⟨tx, ux, Ax, Rx, nx, cx, mx, dx⟩, lx, Fx, rfl, ⟨sx, hu1, hu2, hen⟩, _, _, d8, k8⟩
  have K8 := hide (K7.out.step k8 (fun b hb e => by have := HX.out; omega))
  have HE := hide (encode_any w8 w8.heap.size tx ux Ax Rx nx cx mx dx lx Fx sx (Nat.le_refl _) hu1 hu2)
  have HEn := hide hen
  clear sx hu1 hu2 hen d8 k8 K7 D7
  dsimp only
  go_wp2_with fail
  trace "ENCODE"
  refine HE.out.mono ?_
  rintro e w9 ⟨A9, n9, c9, rfl, _, _, _, _, k9⟩
  rw [HEn.out]
  have K9 := hide (K8.out.trans k9)
  clear k9 HE
  go_wp2_with fail
  trace "AWAKE"
  refine (awake21 _).mono ?_
  rintro e w10 ⟨rfl, k10⟩
  have K10 := hide (K9.out.trans k10)
  clear k10
  go_wp2_with fail
  go_ret
  exact ⟨rfl, K10.out⟩
theorem walk (w : World) (tot un : Int) (A : Option Addr) (n cA : Nat) (l : List Ln) (R : Option Addr) (m cR : Nat) (F : RowsF) (x : U tot) (y : U un) (re : Rd w w.heap.size A 3 n (lnCs l)) (nu : ∀ x ∈ l, U x.lo ∧ U x.hi)
    (rr : Rd w w.heap.size R 1 m ((List.range m).map fun j => .slice (F j).1 (F j).2.1 (F j).2.2.1)) (rd : RowsRd w w.heap.size .u64 m F)
    (A1 : Option Addr) (n1 c1 : Nat) (z1 : List Int) (r1 : Rd w w.heap.size A1 1 n1 (z1.map (.int .i64))) (b1 : ∀ z ∈ z1, -9223372036854775808 ≤ z ∧ z < 9223372036854775808) (s1 : n1 * 8 ≤ 140737488351232) (l1 : n1 ≤ c1) :
    Calls Try.prog 6 #[smV tot A n cA un R m cR, .slice A1 n1 c1] w fun e w' => e = .returned (.bool true) ∧ Below w.heap.size w w' :=
  (main w tot un A n cA l R m cR F x y re nu rr rd A1 n1 c1 z1 r1 b1 (by omega)).mono fun e w' ⟨he, hk⟩ => ⟨he, hk.done⟩
end summaryBack
end Go.Proofs.Ytaiopdipldaimaa
