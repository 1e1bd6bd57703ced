/-
  SummaryEncode: the bytes of any summary, or the error, and the summary of any bytes; the walk. No conditions beyond those of the statement.
-/
import Derived.Test.YtaiopdipldaimaaDn
import Derived.Test.YtaiopdipldaimaaGI
import Derived.Test.YtaiopdipldaimaaMem2
set_option linter.unusedVariables false
set_option linter.unusedSimpArgs false
namespace Go.Proofs.Ytaiopdipldaimaa
open Go.RowKit Cfp
open sbounds (Sm)
open senc (Bt BtOk)
namespace summaryEncode
theorem bytes_of21 {W : World} {B n : Nat} {A : Option Addr} {zs : List Int} (hr : Rd W B A 1 n (zs.map (.int .u8))) (hb : ∀ z ∈ zs, 0 ≤ z ∧ z < 256) :
    ∃ l : List UInt8, Rd W B A 1 n (l.map by8) ∧ l.length = n := by
  refine ⟨zs.map (fun z => z.toNat.toUInt8), ?_, by simpa using hr.1⟩
  have e : (zs.map (fun z => z.toNat.toUInt8)).map by8 = zs.map (.int .u8) := by
    rw [List.map_map]
    refine List.map_congr_left fun z hz => ?_
    have := hb z hz
    show Value.int .u8 ((z.toNat.toUInt8.toNat : Nat) : Int) = _
    have h : z.toNat.toUInt8.toNat = z.toNat := by show z.toNat % 256 = _; omega
    rw [h]; congr 1; omega
  rw [e]; exact hr
theorem i64_and1023 (n : Int) : bits .and .i64 n 1023 = n % 1024 := by
  have h15 : (BitVec.ofInt 64 1023).toNat = 2 ^ 10 - 1 := by decide
  have key : (BitVec.ofInt 64 n &&& BitVec.ofInt 64 1023).toNat = (n % ((2 ^ 64 : Nat) : Int)).toNat % 2 ^ 10 := by
    rw [BitVec.toNat_and, BitVec.toNat_ofInt, h15, Nat.and_two_pow_sub_one_eq_mod]
  show IntKind.i64.wrap ((BitVec.ofInt 64 n &&& BitVec.ofInt 64 1023).toNat : Nat) = n % 1024
  rw [key, IntKind.wrap_i64]
  omega
set_option maxRecDepth 100000 in
set_option maxHeartbeats 3000000 in
theorem main (w : World) (tot un : Int) (A : Option Addr) (n cA : Nat) (l : List Ln) (R : Option Addr) (m cR : Nat) (F : RowsF) (ht : U tot) (hu : U un) (re : Rd w w.heap.size A 3 n (lnCs l)) (hnum : ∀ x ∈ l, U x.lo ∧ U x.hi)
    (rr : Rd w w.heap.size R 1 m ((List.range m).map fun j => .slice (F j).1 (F j).2.1 (F j).2.2.1)) (rd : RowsRd w w.heap.size .u64 m F)
    (A1 : Option Addr) (n1 c1 : Nat) (zs0 : List Int) (hd : Rd w w.heap.size A1 1 n1 (zs0.map (.int .i64))) (hz : ∀ z ∈ zs0, -9223372036854775808 ≤ z ∧ z < 9223372036854775808) (hn1 : n1 ≤ 17592186043904)
    (Ab : Option Addr) (nb cb : Nat) (Lb : List UInt8) (hb : Rd w w.heap.size Ab 1 nb (Lb.map by8)) (hbc : nb ≤ cb) (at_ : Int) (q : UInt8) :
    Calls Try.prog 5 #[smV tot A n cA un R m cR, .slice Ab nb cb, .slice A1 n1 c1, .int .i64 at_, .int .u8 (q.toNat : Int)] w fun e w' => e = .returned (.bool true) ∧ Keeps (fun _ => False) w w' := by
  obtain ⟨w1, hw1⟩ : ∃ w1, w1 = w.alloc (.cells (smC tot A n cA un R m cR) 45) := ⟨_, rfl⟩
  have k1 : Keeps (fun _ => False) w w1 := by rw [hw1]; exact (Keeps.refl _ _).alloc _
  have b4 : Blk w1 w.heap.size 45 (smC tot A n cA un R m cR) := by rw [hw1]; exact Blk.new _ _ _
  have HRe := hide (re.kept k1 (fun _ _ h => h))
  have HRr := hide (rr.kept k1 (fun _ _ h => h))
  have HRd := hide (rd.kept k1 (fun _ _ h => h))
  have HLN := hide (lnRd_len re)
  have HD := hide (hd.kept k1 (fun _ _ h => h))
  have HNum := hide hnum
  have HBb := hide (hb.kept k1 (fun _ _ h => h))
  have HTU := hide (show U tot ∧ U un from ⟨ht, hu⟩)
  have y0 : w1.cell? ⟨w.heap.size, 0, none⟩ = some (.int .u64 tot) := b4.cell 0
  have y1 : w1.cell? ⟨w.heap.size, 1, none⟩ = some (.slice A n cA) := b4.cell 1
  have y2 : w1.cell? ⟨w.heap.size, 2, none⟩ = some (.int .u64 un) := b4.cell 2
  have y3 : w1.cell? ⟨w.heap.size, 3, none⟩ = some (.slice R m cR) := b4.cell 3
  have B4 := hide b4
  have K1 := hide k1
  have HW1 := hide hw1
  have hX4 : w.heap.size < w1.heap.size := b4.lt
  clear hw1 k1 b4 re rr rd hd hnum ht hu hb
  go_enter Try.func5, Try.ntmps5
  go_upto_region 1 with fail
  rw [← HW1.out]
  clear HW1
  generalize hX : w.heap.size = X4 at *
  have HX := hide (Nat.le_of_eq hX)
  clear hX
  go_wp2_with fail
  refine (plain_any w1 X4 tot un A R n cA m cR l F HRe.out HRr.out (by omega)).mono ?_
  rintro e wp ⟨bv, rfl, hp, kp⟩
  have KP := hide (K1.out.trans kp)
  have HPl := hide hp
  rcases bv with _ | _
  · clear hp kp
    trace "NOT PLAIN"
    go_wp2_with fail
    refine (awake21 _).mono ?_
    rintro e w2 ⟨rfl, k2⟩
    have K2 := hide (KP.out.trans k2)
    clear k2
    go_wp2_with fail
    go_ret
    exact ⟨rfl, K2.out⟩
  by_cases h3 : (300 : Int) < (nb : Int)
  · clear hp kp
    trace "LONG"
    go_wp2_with fail
    refine (awake21 _).mono ?_
    rintro e w2 ⟨rfl, k2⟩
    have K2 := hide (KP.out.trans k2)
    clear k2
    go_wp2_with fail
    go_ret
    exact ⟨rfl, K2.out⟩
  trace "PLAIN"
  have hnb : nb ≤ 300 := by omega
  have hpl := HPl.out rfl
  have B4p := hide (B4.out.kept kp (fun h => h))
  have HDp := hide (HD.out.kept kp (fun _ _ h => h))
  have HBp := hide (HBb.out.kept kp (fun _ _ h => h))
  have SR : Hid (SmIn wp X4 A n l R m F) := hide ⟨HLN.out, HRe.out.kept kp (fun _ _ h => h), HRr.out.kept kp (fun _ _ h => h), HRd.out.kept kp (fun _ _ h => h), fun x hx => ⟨(HNum.out x hx).1, (HNum.out x hx).2, by have := hpl.2.2.1 x hx; omega⟩, by have := hpl.1; omega, by have := hpl.2.1; omega⟩
  have H3 := hide hpl.2.2.2
  have hXp : X4 < wp.heap.size := B4p.out.lt
  clear hp kp hpl HPl B4 HD HBb HRe HRr HRd HNum HLN y0 y1 y2 y3 K1 hX4
  go_wp2_with fail
  trace "NEW"
  refine (new_deck A1 n1 c1 zs0 X4 wp (by omega) HDp.out hz (by omega)).mono ?_
  rintro e w2 ⟨rfl, d2, k2⟩
  have K2 := hide (KP.out.trans k2)
  have B42 := hide (B4p.out.kept k2 (fun h => h))
  have SR2 := hide (SR.out.kept k2 (fun _ _ h => h))
  have HB2 := hide (HBp.out.kept k2 (fun _ _ h => h))
  have D2 := hide d2
  have hgl := d2.lt
  clear k2 KP B4p SR HDp HBp d2
  generalize wp.heap.size = gd at *
  go_wp2_with fail
  trace "CONFIG"
  refine (cfgv_any X4 gd w2 D2.out).mono ?_
  rintro e w3 ⟨c, C, T, nc, kc, qc, jc, rfl, hm, d3, k3⟩
  have K3 := hide (K2.out.step k3 (fun b hb e => by have := HX.out; omega))
  have B43 := hide (B42.out.kept k3 (by omega))
  have SR3 := hide (SR2.out.kept k3 (fun _ _ h => by omega))
  have HB3 := hide (HB2.out.kept k3 (fun _ _ h => by omega))
  have D3 := hide d3
  have HM := hide hm
  have hs3 := k3.size
  clear k3 d3 hm K2 D2 B42 SR2 HB2
  go_wp2_with fail
  trace "SUMMARY"
  refine (drawn_any X4 gd w3 D3.out c HM.out _ _ _ _ _ _).mono ?_
  rintro e w5 ⟨⟨tx, ux, Ax, Rx, nx, cx, mx, dx⟩, lx, Fx, rfl, ⟨sx, hu1, hu2, hen⟩, h300, _, d5, k5⟩
  have K5 := hide (K3.out.step k5 (fun b hb e => by have := HX.out; omega))
  have kA := (Keeps.refl (fun _ => False) w5).alloc (.cells (smC tx Ax nx cx ux Rx mx dx) 45)
  have B12 := hide (Blk.new w5 45 (smC tx Ax nx cx ux Rx mx dx))
  have B46 := hide ((B43.out.kept k5 (by omega)).kept kA (fun h => h))
  have SR6 := hide ((SR3.out.kept k5 (fun _ _ h => by omega)).kept kA (fun _ _ h => h))
  have HB6 := hide ((HB3.out.kept k5 (fun _ _ h => by omega)).kept kA (fun _ _ h => h))
  have SX6 := hide (sx.kept kA (fun _ _ h => h))
  have K6 := hide (K5.out.trans kA)
  have HUx := hide (And.intro hu1 hu2)
  have HEn := hide hen
  have H3x := hide h300
  have hs5 := k5.size
  clear sx hu1 hu2 hen h300 d5 k5 kA K3 K5 D3 B43 SR3 HB3
  dsimp only
  go_upto_region 5 with fail
  trace "R5"
  generalize w5.alloc _ = w6 at *
  generalize w5.heap.size = X12 at *
  have hX12 : X12 < w6.heap.size := B12.out.lt
  have y0 := B46.out.cell 0
  have y1 := B46.out.cell 1
  have y2 := B46.out.cell 2
  have y3 := B46.out.cell 3
  have t0 := B12.out.cell 0
  have t1 := B12.out.cell 1
  have t2 := B12.out.cell 2
  have t3 := B12.out.cell 3
  have bG := Blk.new w6 45 ([(⟨tot, un, A, R, n, cA, m, cR⟩ : Sm), ⟨tx, ux, Ax, Rx, nx, cx, mx, dx⟩].flatMap Sm.cells).toArray
  have kB := (Keeps.refl (fun _ => False) w6).alloc (.cells ([(⟨tot, un, A, R, n, cA, m, cR⟩ : Sm), ⟨tx, ux, Ax, Rx, nx, cx, mx, dx⟩].flatMap Sm.cells).toArray 45)
  have BG := hide bG
  have HW := hide (show w6.alloc (.cells ([(⟨tot, un, A, R, n, cA, m, cR⟩ : Sm), ⟨tx, ux, Ax, Rx, nx, cx, mx, dx⟩].flatMap Sm.cells).toArray 45) = w6.alloc (.cells #[.int .u64 tot, .slice A n cA, .int .u64 un, .slice R m cR, .int .u64 tx, .slice Ax nx cx, .int .u64 ux, .slice Rx mx dx] 45) from rfl)
  have K7 := hide (K6.out.trans kB)
  have B127 := hide (B12.out.kept kB (fun h => h))
  have HB7 := hide (HB6.out.kept kB (fun _ _ h => h))
  have SX7 := hide (SX6.out.kept kB (fun _ _ h => h))
  have SR7 := hide (SR6.out.kept kB (fun _ _ h => h))
  have hs7 := kB.size
  clear bG kB B12 HB6 SX6 SR6 K6 B46
  go_wp2_with fail
  trace "L1"
  rw [← HW.out]
  clear HW y0 y1 y2 y3 t0 t1 t2 t3
  generalize w6.alloc _ = w7 at *
  generalize w6.heap.size = GS at *
  have HF : Hid (∀ x ∈ [(⟨tot, un, A, R, n, cA, m, cR⟩ : Sm), ⟨tx, ux, Ax, Rx, nx, cx, mx, dx⟩], SmOk w7 w7.heap.size x) := hide (by
    intro x hx
    simp only [List.mem_cons, List.not_mem_nil, or_false] at hx
    rcases hx with rfl | rfl
    · exact SmOk.more ⟨l, F, SR7.out, HTU.out.1, HTU.out.2, H3.out⟩ (by omega)
    · exact SmOk.more ⟨lx, Fx, SX7.out, HUx.out.1, HUx.out.2, H3x.out⟩ (by omega))
  refine Code.wp_mono ?_ (senc.loop1 w7 GS _ rfl HF.out BG.out _ _ _ _ _ _ _ _ _ _ _ _ _ _ _ _ _ _ _ _ _ _ _ _ _ _ _ _ _ _ _ _ _ _ _ _ _ _ _ _ _ _ _ _ _ _ _ _ _ _ _ _ _ _ _ _ _ _ _ _ _ _ _ _ _ _ _ _ _ _ _ _ _ _ _ _ _ _ _ _ _ _ _ _ _ _ _ _ _ _ _ _ _ _ _ _ _ _ _ _ _ _ _ _ _ _ _ _ _ _ _ _ _ _ _ _ _ _ _ _ _ _ _ _ _ _ _ _ _ _ _ _ _ _)
  intro e a' w8 hex
  cases e <;> (first | exact hex.elim | skip)
  obtain ⟨rfl, ⟨u10, u14, u15, u16, u17, u18, u47, u48, u49, u50, u51, u52, u53, u54, u55, u56, u57, u58, u59, u60, u61, u62, u63, u64, u65, u66, u67, u68, u69, u70, rfl⟩, k8⟩ := hex
  have K8 := hide (K7.out.trans k8)
  have B128 := hide (B127.out.kept k8 (fun h => h))
  have HB8 := hide (HB7.out.kept k8 (fun _ _ h => h))
  have SX8 := hide (SX7.out.kept k8 (fun _ _ h => h))
  have hs8 := k8.size
  clear k8 HF BG B127 HB7 SX7 SR7 K7
  dsimp only
  have t0 := B128.out.cell 0
  have t1 := B128.out.cell 1
  have t2 := B128.out.cell 2
  have t3 := B128.out.cell 3
  have HE := hide (rencode_any w8 X12 tx ux Ax Rx nx cx mx dx lx Fx SX8.out (by omega) HUx.out.1 HUx.out.2)
  unfold Encd at HE
  rw [HEn.out, if_pos rfl] at HE
  obtain ⟨L, hL⟩ : ∃ L, L = encAll tx ux lx (Cmp.rowsL Fx mx) := ⟨_, rfl⟩
  have hLp : 0 < L.length := by
    rw [hL]
    have := (Vp.enc_len tx.toNat).1
    simp only [encAll, List.length_append]
    omega
  rw [← hL] at HE
  clear hL
  go_wp2_with fail
  trace "ENCODE"
  refine HE.out.mono ?_
  rintro e w9 ⟨A9, n9, c9, rfl, hn9, hb9, hc9, hr9, k9⟩
  have h90 : 0 < n9 := by omega
  have K9 := hide (K8.out.trans k9)
  have HB9 := hide (HB8.out.kept k9 (fun _ _ h => h))
  have RY := hide hr9
  have hs9 := k9.size
  have e9 : ((n9 : Int) == 0) = false := by simp; omega
  obtain ⟨ak, hak⟩ : ∃ ak, bits .and .i64 at_ 1023 = ak := ⟨_, rfl⟩
  have hak2 : 0 ≤ ak ∧ ak < 1024 := by rw [← hak, i64_and1023]; omega
  obtain ⟨kk, hkk⟩ : ∃ kk : Nat, ak % (n9 : Int) = (kk : Int) := ⟨(ak % (n9 : Int)).toNat, by have := Int.emod_nonneg ak (show (n9 : Int) ≠ 0 by omega); omega⟩
  have hkn : kk < n9 := by have := Int.emod_lt_of_pos ak (show (0 : Int) < n9 by omega); omega
  have htm : Int.tmod ak (n9 : Int) = (kk : Int) := by rw [Int.tmod_eq_emod_of_nonneg hak2.1, hkk]
  have HAK := hide hak
  have HKK := hide hkk
  have HTM := hide htm
  have k1 := (Keeps.refl (fun _ => False) w9).alloc (.cells #[] 5)
  have hmx1 : 0 + n9 ≤ maxLen := by simp only [maxLen]; omega
  have hmx2 : (0 + n9) * 1 ≤ 140737488355328 := by omega
  clear k9 HE hr9 hn9 t0 t1 t2 t3 B128 SX8 K8 HB8 hak hkk htm
  go_upto_region 17 with (at_builtin; refine wpList_app _ elem8 rfl (.tmp 83) (.tmp 84) rfl w9.heap.size _ rfl (Own.new0 _ _ 5 1 _ (by simp) (by omega)) _ (m := n9) _ rfl (RY.out.kept k1 (fun _ _ h => h)) (by8_one _) hmx1 hmx2 (by simp) ?_; intro Az cz wz oz kz _; rw [Nat.zero_add, List.nil_append] at oz; have OZ := hide oz; have KZ := hide (k1.step kz (fun k hk h => by have := (inB_some _ _ _).1 h; omega)); clear oz kz)
  trace "R17"
  obtain ⟨gz, rfl, hgz1, hgz2⟩ := OZ.out.some_ h90
  have hak := HAK.out
  have hkk := HKK.out
  have htm := HTM.out
  have hz1 : ¬ ((n9 : Int) = 0) := by omega
  have hz2 : ¬ (n9 = 0) := by omega
  have qz := OZ.out.cell kk (by omega)
  have fz := OZ.out.frozen kk
  rw [List.getElem?_map, List.getElem?_eq_getElem (by have := OZ.out.len; simp at this; omega), Option.map_some] at qz
  generalize (by8 (L[kk]'_)) = vq at qz
  have hkI : (kk : Int) < (n9 : Int) := by omega
  have hk0 : (0 : Int) ≤ (kk : Int) := by omega
  go_upto_region 18 with fail
  trace "R18"
  clear hak hkk htm hz1 hz2 qz fz
  have kS : Keeps (· = gz) wz (wz.setCell ⟨gz, kk, none⟩ (.int .u8 (q.toNat : Int))) := Keeps.setCell (S := (· = gz)) (p := ⟨gz, kk, none⟩) (Keeps.refl _ _) (.inl rfl) _
  have OZ := hide (show Own (wz.setCell ⟨gz, kk, none⟩ (.int .u8 (q.toNat : Int))) w9.heap.size 5 1 (some ⟨gz, 0, none⟩) n9 cz ((L.set kk q).map by8) from by rw [List.map_set]; exact OZ.out.store kk _)
  have KZ := hide (KZ.out.step kS (fun b hb e => by omega))
  have RY := hide (RY.out.kept KZ.out (fun _ _ h => h))
  have HBz := hide (HB9.out.kept KZ.out (fun _ _ h => h))
  have K10 := hide (K9.out.trans KZ.out)
  have hsz := KZ.out.size
  clear kS KZ HB9 K9
  generalize wz.setCell _ _ = w10 at *
  refine Code.wp_mono ?_ (senc.reg18 w10 Ab A9 (some ⟨gz, 0, none⟩) nb cb n9 c9 n9 cz Lb L (L.set kk q) at_ ak q kk (RY.out.more hsz) hc9 hb9 h90 HAK.out hak2.1 hak2.2 HKK.out _ _ _ _ _ _ _ _ _ _ _ _ _ _ _ _ _ _ _ _ _ _ _ _ _ _ _ _ _ _ _ _ _ _ _ _ _ _ _ _ _ _ _ _ _ _ _ _ _ _ _ _ _ _ _ _ _ _ _ _ _ _ _ _ _ _ _ _ _ _ _ _ _ _ _ _ _ _ _ _ _ _ _ _ _ _ _ _ _ _ _ _ _ _ _ _ _ _ _ _ _ _ _ _ _ _ _ _ _ _ _ _ _ _ _ _ _ _ _ _ _ _ _ _ _ _ _ _ _ _ _ _)
  intro e a' w11 hex
  cases e <;> (first | exact hex.elim | skip)
  obtain ⟨G2, ⟨As, A5, c5, bG, okS, okA, k11⟩, ⟨x94, x95, x96, x97, x98, x99, x100, x101, x102, x103, x104, x105, x106, x107, x108, x109, rfl⟩⟩ := hex
  have HF : Hid (∀ x ∈ [(⟨Ab, nb, cb, Lb⟩ : Bt), ⟨A9, n9, c9, L⟩, ⟨some ⟨gz, 0, none⟩, n9, cz, L.set kk q⟩, ⟨As, kk, c9, L.take kk⟩, ⟨A5, n9 + 1, c5, L ++ [q]⟩], BtOk w11 w11.heap.size x) := hide (by
    have hs11 := k11.size
    intro x hx
    simp only [List.mem_cons, List.not_mem_nil, or_false] at hx
    rcases hx with rfl | rfl | rfl | rfl | rfl
    · exact ⟨(HBz.out.kept k11 (fun _ _ h => h)).more (by omega), hbc, by show nb ≤ 1000000; omega⟩
    · exact ⟨(RY.out.kept k11 (fun _ _ h => h)).more (by omega), hc9, by show n9 ≤ 1000000; omega⟩
    · exact ⟨((OZ.out.rd (by omega)).kept k11 (fun _ _ h => h)).more (by omega), OZ.out.le, by show n9 ≤ 1000000; omega⟩
    · exact okS
    · exact okA)
  have BG := hide bG
  have K11 := hide (K10.out.trans k11)
  clear k11 bG okS okA RY OZ HBz K10
  dsimp only
  go_wp2_with fail
  trace "L2"
  refine Code.wp_mono ?_ (senc.loop2 w11 G2 _ rfl HF.out BG.out _ _ _ _ _ _ _ _ _ _ _ _ _ _ _ _ _ _ _ _ _ _ _ _ _ _ _ _ _ _ _ _ _ _ _ _ _ _ _ _ _ _ _ _ _ _ _ _ _ _ _ _ _ _ _ _ _ _ _ _ _ _ _ _ _ _ _ _ _ _ _ _ _ _ _ _ _ _ _ _ _ _ _ _ _ _ _ _ _ _ _ _ _ _ _ _ _ _ _ _ _ _ _ _ _ _ _ _ _ _ _ _ _ _ _ _ _ _ _ _ _ _ _ _ _ _ _ _ _ _ _ _ _ _)
  intro e a' w12 hex
  cases e <;> (first | exact hex.elim | skip)
  obtain ⟨rfl, ⟨z10, z23, z24, z25, z26, z27, z112, z113, z114, z115, z116, z117, z118, z119, z120, z121, z122, z123, z124, z125, z126, z127, z128, z129, z130, z131, z132, z133, z134, z135, rfl⟩, k12⟩ := hex
  have K12 := hide (K11.out.trans k12)
  clear k12 HF BG K11
  dsimp only
  go_wp2_with fail
  trace "AWAKE"
  refine (awake21 _).mono ?_
  rintro e w13 ⟨rfl, k13⟩
  have K13 := hide (K12.out.trans k13)
  clear k13
  go_wp2_with fail
  go_ret
  exact ⟨rfl, K13.out⟩
theorem walk (w : World) (tot un : Int) (A : Option Addr) (n cA : Nat) (l : List Ln) (R : Option Addr) (m cR : Nat) (F : RowsF) (x : U tot) (y : U un) (re : Rd w w.heap.size A 3 n (lnCs l)) (nu : ∀ x ∈ l, U x.lo ∧ U x.hi)
    (rr : Rd w w.heap.size R 1 m ((List.range m).map fun j => .slice (F j).1 (F j).2.1 (F j).2.2.1)) (rd : RowsRd w w.heap.size .u64 m F)
    (Ab : Option Addr) (nb cb : Nat) (zb : List Int) (rb : Rd w w.heap.size Ab 1 nb (zb.map (.int .u8))) (bb : ∀ z ∈ zb, 0 ≤ z ∧ z < 256) (sb : nb * 1 ≤ 140737488351232) (lb : nb ≤ cb)
    (A1 : Option Addr) (n1 c1 : Nat) (z1 : List Int) (r1 : Rd w w.heap.size A1 1 n1 (z1.map (.int .i64))) (b1 : ∀ z ∈ z1, -9223372036854775808 ≤ z ∧ z < 9223372036854775808) (s1 : n1 * 8 ≤ 140737488351232) (l1 : n1 ≤ c1)
    (at_ : Int) (p0 : -9223372036854775808 ≤ at_) (p1 : at_ < 9223372036854775808) (by_ : Int) (q0 : 0 ≤ by_) (q1 : by_ < 256) :
    Calls Try.prog 5 #[smV tot A n cA un R m cR, .slice Ab nb cb, .slice A1 n1 c1, .int .i64 at_, .int .u8 by_] w fun e w' => e = .returned (.bool true) ∧ Below w.heap.size w w' := by
  obtain ⟨Lb, hb, _⟩ := bytes_of21 rb bb
  obtain ⟨q, hq⟩ := by8_of by_ q0 q1
  rw [← hq]
  exact (main w tot un A n cA l R m cR F x y re nu rr rd A1 n1 c1 z1 r1 b1 (by omega) Ab nb cb Lb hb lb at_ q).mono fun e w' ⟨he, hk⟩ => ⟨he, hk.done⟩
end summaryEncode
end Go.Proofs.Ytaiopdipldaimaa
