/-
  SummaryEncode: the loop over the summaries. No conditions beyond those of the statement.
-/
import Derived.Test.YtaiopdipldaimaaGC
import Derived.Test.YtaiopdipldaimaaSame
set_option linter.unusedVariables false
set_option linter.unusedSimpArgs false
namespace Go.Proofs.Ytaiopdipldaimaa
open Go.RowKit Cfp Vp
open sbounds (Sm sm_get)
namespace senc
open sback (LoopPostK)
noncomputable def lp1 : Code := ((Try.f5.body.bind fun c => (enc21.loops c)[0]?).getD .skip)
set_option maxRecDepth 1000000 in
set_option maxHeartbeats 4000000 in
theorem loop1 (w6 : World) (GS : Nat) (xs : List Sm) (hl : xs.length = 2) (hF : ∀ x ∈ xs, SmOk w6 w6.heap.size x) (bG : Blk w6 GS 45 (xs.flatMap Sm.cells).toArray) (s0 s1 s2 s3 s4 s5 s6 s7 s8 s9 s10 s11 s12 s13 s14 s15 s16 s17 s18 s19 s20 s21 s22 s23 s24 s25 s26 s27 s28 s29 s30 s31 s32 s33 s34 s35 s36 s37 s38 s39 s40 s41 s42 s43 s44 s48 s49 s50 s51 s52 s53 s54 s55 s56 s57 s58 s59 s60 s61 s62 s63 s64 s65 s66 s67 s68 s69 s70 s71 s72 s73 s74 s75 s76 s77 s78 s79 s80 s81 s82 s83 s84 s85 s86 s87 s88 s89 s90 s91 s92 s93 s94 s95 s96 s97 s98 s99 s100 s101 s102 s103 s104 s105 s106 s107 s108 s109 s110 s111 s112 s113 s114 s115 s116 s117 s118 s119 s120 s121 s122 s123 s124 s125 s126 s127 s128 s129 s130 s131 s132 s133 s134 s135 s136 : Value) :
    Code.wp Try.prog (Code.loop lp1) (LoopPostK 0 fun a' w' => (∃ u10 u14 u15 u16 u17 u18 u47 u48 u49 u50 u51 u52 u53 u54 u55 u56 u57 u58 u59 u60 u61 u62 u63 u64 u65 u66 u67 u68 u69 u70 : Value, a' = ⟨#[s0, s1, s2, s3, s4, s5, s6, s7, s8, s9, u10, s11, s12, s13, u14, u15, u16, u17, u18, s19, s20, s21, s22, s23, s24, s25, s26, s27, s28, s29, s30, s31, s32, s33, s34, s35, s36, s37, s38, s39, s40, s41, s42, s43, s44, .slice (some ⟨GS, 0, none⟩) 2 2, .int .i64 2, u47, u48, u49, u50, u51, u52, u53, u54, u55, u56, u57, u58, u59, u60, u61, u62, u63, u64, u65, u66, u67, u68, u69, u70, s71, s72, s73, s74, s75, s76, s77, s78, s79, s80, s81, s82, s83, s84, s85, s86, s87, s88, s89, s90, s91, s92, s93, s94, s95, s96, s97, s98, s99, s100, s101, s102, s103, s104, s105, s106, s107, s108, s109, s110, s111, s112, s113, s114, s115, s116, s117, s118, s119, s120, s121, s122, s123, s124, s125, s126, s127, s128, s129, s130, s131, s132, s133, s134, s135, s136], []⟩) ∧ Keeps (fun _ => False) w6 w') ⟨#[s0, s1, s2, s3, s4, s5, s6, s7, s8, s9, s10, s11, s12, s13, s14, s15, s16, s17, s18, s19, s20, s21, s22, s23, s24, s25, s26, s27, s28, s29, s30, s31, s32, s33, s34, s35, s36, s37, s38, s39, s40, s41, s42, s43, s44, .slice (some ⟨GS, 0, none⟩) 2 2, .int .i64 2, .int .i64 0, s48, s49, s50, s51, s52, s53, s54, s55, s56, s57, s58, s59, s60, s61, s62, s63, s64, s65, s66, s67, s68, s69, s70, s71, s72, s73, s74, s75, s76, s77, s78, s79, s80, s81, s82, s83, s84, s85, s86, s87, s88, s89, s90, s91, s92, s93, s94, s95, s96, s97, s98, s99, s100, s101, s102, s103, s104, s105, s106, s107, s108, s109, s110, s111, s112, s113, s114, s115, s116, s117, s118, s119, s120, s121, s122, s123, s124, s125, s126, s127, s128, s129, s130, s131, s132, s133, s134, s135, s136], []⟩ w6 := by
  have HF := hide hF
  have BG := hide bG
  have HL := hide hl
  clear hF bG hl
  conv => arg 2; arg 1; whnf
  dsimp only
  go_loopw [47] (fun iv wr => ∃ i : Nat, i ≤ 2 ∧ iv = .int .i64 i ∧ Hid (Keeps (fun _ => False) w6 wr)) (fun iv _ => 2 - (intOf iv).toNat)
  case atStart => exact ⟨0, by omega, rfl, hide (Keeps.refl _ _)⟩
  case round =>
    obtain ⟨i, hi, rfl, KR⟩ := hrel
    by_cases hlt : i < 2
    · have HLT : Hid (i + 1 ≤ 2) := hlt
      obtain ⟨x, hx⟩ : ∃ x, xs[i]? = some x := ⟨xs[i]'(by rw [HL.out]; exact hlt), List.getElem?_eq_getElem _⟩
      have HFx := (HF.out x (List.mem_of_getElem? hx)).kept KR.out (fun _ _ h => h)
      have hc0 := sm_get xs i x hx
      obtain ⟨tot, un, A, R, n, cA, m, cR⟩ := x
      have hO : ∀ (t : Nat) (v : Value), (Sm.cells ⟨tot, un, A, R, n, cA, m, cR⟩)[t]? = some v → wr.cell? ⟨GS, i * 4 + t, none⟩ = some v := fun t v hv => by
        rw [(BG.out.kept KR.out (fun h => h)).cell, List.getElem?_toArray]
        exact hc0 t v hv
      have y0 : wr.cell? ⟨GS, i * 4, none⟩ = some (.int .u64 tot) := hO 0 _ rfl
      have y1 : wr.cell? ⟨GS, i * 4 + 1, none⟩ = some (.slice A n cA) := hO 1 _ rfl
      have y2 : wr.cell? ⟨GS, i * 4 + 2, none⟩ = some (.int .u64 un) := hO 2 _ rfl
      have y3 : wr.cell? ⟨GS, i * 4 + 3, none⟩ = some (.slice R m cR) := hO 3 _ rfl
      have hi0 : (0 : Int) ≤ (i : Int) := by omega
      have hiI : (i : Int) < 2 := by omega
      have b7 := Blk.new wr 45 (smC tot A n cA un R m cR)
      have kA := (Keeps.refl (fun _ => False) wr).alloc (.cells (smC tot A n cA un R m cR) 45)
      obtain ⟨l, F, sm, hut, huu, h300⟩ := HFx
      have SM := hide ((sm.kept kA (fun _ _ h => h)).more (B' := (wr.alloc (.cells (smC tot A n cA un R m cR) 45)).heap.size) (by have := kA.size; have := KR.out.size; omega))
      have BS := hide b7
      have KA := hide (KR.out.trans kA)
      have HUU := hide (show U tot ∧ U un from ⟨hut, huu⟩)
      clear hx hc0 hO b7 kA sm hut huu h300 KR
      go_upto_region 8 with fail
      trace "R8"
      generalize wr.alloc _ = w7 at *
      generalize wr.heap.size = X7 at *
      clear y0 y1 y2 y3
      have z0 := BS.out.cell 0
      have z1 := BS.out.cell 1
      have z2 := BS.out.cell 2
      have z3 := BS.out.cell 3
      have HE1 := hide (encode_any w7 w7.heap.size tot un A R n cA m cR l F SM.out (Nat.le_refl _) HUU.out.1 HUU.out.2)
      have HE2 := hide (fun W (kW : Keeps (fun _ => False) w7 W) => rencode_any W W.heap.size tot un A R n cA m cR l F ((SM.out.kept kW (fun _ _ h => h)).more kW.size) (Nat.le_refl _) HUU.out.1 HUU.out.2)
      unfold Encd at HE1 HE2
      obtain ⟨er, her⟩ : ∃ er, er = encErr l (Cmp.rowsL F m) := ⟨_, rfl⟩
      rw [← her] at HE1 HE2
      obtain ⟨L, hL⟩ : ∃ L, L = (if er = 0 then encAll tot un l (Cmp.rowsL F m) else []) := ⟨_, rfl⟩
      rw [← hL] at HE1 HE2
      clear her hL
      go_wp2_with fail
      trace "ENC"
      refine HE1.out.mono ?_
      rintro e w8 ⟨A1, n1, c1, rfl, hn1, hb1, hc1, hr1, k8⟩
      have BS8 := hide (BS.out.kept k8 (fun h => h))
      have K8 := hide (KA.out.trans k8)
      have HE3 := hide (HE2.out w8 k8)
      have HR1 := hide hr1
      clear k8 z0 z1 z2 z3 BS SM KA hn1 hr1 HE1 HE2
      have z0 := BS8.out.cell 0
      have z1 := BS8.out.cell 1
      have z2 := BS8.out.cell 2
      have z3 := BS8.out.cell 3
      go_upto_region 9 with fail
      go_wp2_with fail
      trace "ENC2"
      refine HE3.out.mono ?_
      rintro e w9 ⟨A2, n2, c2, rfl, hn2, hb2, hc2, hr2, k9⟩
      have K9 := hide (K8.out.trans k9)
      have HSm := hide (same_any L L A1 A2 n1 n2 c1 c2 _ _ w9 (HR1.out.kept k9 (fun _ _ h => h)) hr2 (by omega) (by omega))
      clear k9 z0 z1 z2 z3 BS8 K8 HE3 HR1 hr2 hn2
      go_upto_region 10 with fail
      go_wp2_with fail
      trace "SAME"
      refine HSm.out.mono ?_
      rintro e w10 ⟨rfl, nq, rfl⟩
      have KN := hide (K9.out.drewN nq)
      simp only [decide_true]
      clear HSm K9
      go_wp2_with fail
      trace "ROUND"
      go_roundw
      case rel => exact ⟨i + 1, HLT.out, by go_num, KN⟩
      case measure => have := HLT.out; simp [intOf]; omega
    · obtain rfl : i = 2 := by omega
      go_wp2_with fail
      trace "END"
      refine ⟨rfl, ⟨_, _, _, _, _, _, _, _, _, _, _, _, _, _, _, _, _, _, _, _, _, _, _, _, _, _, _, _, _, _, rfl⟩, KR.out⟩
/-- bytes in memory -/
structure Bt where
  A : Option Addr
  n : Nat
  c : Nat
  L : List UInt8
def Bt.v (x : Bt) : Value := .slice x.A x.n x.c
def BtOk (w : World) (B : Nat) (x : Bt) : Prop := Rd w B x.A 1 x.n (x.L.map by8) ∧ x.n ≤ x.c ∧ x.n ≤ 1000000
theorem BtOk.kept {w w' : World} {B : Nat} {x : Bt} {S : Nat → Prop} (h : BtOk w B x) (k : Keeps S w w') (hs : ∀ b, b < B → ¬ S b) : BtOk w' B x := ⟨h.1.kept k hs, h.2⟩
theorem BtOk.more {w : World} {B B' : Nat} {x : Bt} (h : BtOk w B x) (hB : B ≤ B') : BtOk w B' x := ⟨h.1.more hB, h.2⟩
noncomputable def lp2 : Code := ((Try.f5.body.bind fun c => (enc21.loops c)[1]?).getD .skip)
set_option maxRecDepth 1000000 in
set_option maxHeartbeats 4000000 in
theorem loop2 (w6 : World) (GS : Nat) (xs : List Bt) (hl : xs.length = 5) (hF : ∀ x ∈ xs, BtOk w6 w6.heap.size x) (bG : Blk w6 GS 46 (xs.map Bt.v).toArray) (s0 s1 s2 s3 s4 s5 s6 s7 s8 s9 s10 s11 s12 s13 s14 s15 s16 s17 s18 s19 s20 s21 s22 s23 s24 s25 s26 s27 s28 s29 s30 s31 s32 s33 s34 s35 s36 s37 s38 s39 s40 s41 s42 s43 s44 s45 s46 s47 s48 s49 s50 s51 s52 s53 s54 s55 s56 s57 s58 s59 s60 s61 s62 s63 s64 s65 s66 s67 s68 s69 s70 s71 s72 s73 s74 s75 s76 s77 s78 s79 s80 s81 s82 s83 s84 s85 s86 s87 s88 s89 s90 s91 s92 s93 s94 s95 s96 s97 s98 s99 s100 s101 s102 s103 s104 s105 s106 s107 s108 s109 s113 s114 s115 s116 s117 s118 s119 s120 s121 s122 s123 s124 s125 s126 s127 s128 s129 s130 s131 s132 s133 s134 s135 s136 : Value) :
    Code.wp Try.prog (Code.loop lp2) (LoopPostK 2 fun a' w' => (∃ u10 u23 u24 u25 u26 u27 u112 u113 u114 u115 u116 u117 u118 u119 u120 u121 u122 u123 u124 u125 u126 u127 u128 u129 u130 u131 u132 u133 u134 u135 : Value, a' = ⟨#[s0, s1, s2, s3, s4, s5, s6, s7, s8, s9, u10, s11, s12, s13, s14, s15, s16, s17, s18, s19, s20, s21, s22, u23, u24, u25, u26, u27, s28, s29, s30, s31, s32, s33, s34, s35, s36, s37, s38, s39, s40, s41, s42, s43, s44, s45, s46, s47, s48, s49, s50, s51, s52, s53, s54, s55, s56, s57, s58, s59, s60, s61, s62, s63, s64, s65, s66, s67, s68, s69, s70, s71, s72, s73, s74, s75, s76, s77, s78, s79, s80, s81, s82, s83, s84, s85, s86, s87, s88, s89, s90, s91, s92, s93, s94, s95, s96, s97, s98, s99, s100, s101, s102, s103, s104, s105, s106, s107, s108, s109, .slice (some ⟨GS, 0, none⟩) 5 5, .int .i64 5, u112, u113, u114, u115, u116, u117, u118, u119, u120, u121, u122, u123, u124, u125, u126, u127, u128, u129, u130, u131, u132, u133, u134, u135, s136], []⟩) ∧ Keeps (fun _ => False) w6 w') ⟨#[s0, s1, s2, s3, s4, s5, s6, s7, s8, s9, s10, s11, s12, s13, s14, s15, s16, s17, s18, s19, s20, s21, s22, s23, s24, s25, s26, s27, s28, s29, s30, s31, s32, s33, s34, s35, s36, s37, s38, s39, s40, s41, s42, s43, s44, s45, s46, s47, s48, s49, s50, s51, s52, s53, s54, s55, s56, s57, s58, s59, s60, s61, s62, s63, s64, s65, s66, s67, s68, s69, s70, s71, s72, s73, s74, s75, s76, s77, s78, s79, s80, s81, s82, s83, s84, s85, s86, s87, s88, s89, s90, s91, s92, s93, s94, s95, s96, s97, s98, s99, s100, s101, s102, s103, s104, s105, s106, s107, s108, s109, .slice (some ⟨GS, 0, none⟩) 5 5, .int .i64 5, .int .i64 0, s113, s114, s115, s116, s117, s118, s119, s120, s121, s122, s123, s124, s125, s126, s127, s128, s129, s130, s131, s132, s133, s134, s135, s136], []⟩ w6 := by
  have HF := hide hF
  have BG := hide bG
  have HL := hide hl
  clear hF bG hl
  conv => arg 2; arg 1; whnf
  dsimp only
  go_loopw [112] (fun iv wr => ∃ i : Nat, i ≤ 5 ∧ iv = .int .i64 i ∧ Hid (Keeps (fun _ => False) w6 wr)) (fun iv _ => 5 - (intOf iv).toNat)
  case atStart => exact ⟨0, by omega, rfl, hide (Keeps.refl _ _)⟩
  case round =>
    obtain ⟨i, hi, rfl, KR⟩ := hrel
    by_cases hlt : i < 5
    · have HLT : Hid (i + 1 ≤ 5) := hlt
      obtain ⟨x, hx⟩ : ∃ x, xs[i]? = some x := ⟨xs[i]'(by rw [HL.out]; exact hlt), List.getElem?_eq_getElem _⟩
      obtain ⟨hr, hnc, hnb⟩ := ((HF.out x (List.mem_of_getElem? hx)).kept KR.out (fun _ _ h => h)).more KR.out.size
      obtain ⟨A, n, c, L⟩ := x
      simp only at hnc hnb hr
      have y0 : wr.cell? ⟨GS, i, none⟩ = some (.slice A n c) := by
        rw [(BG.out.kept KR.out (fun h => h)).cell, List.getElem?_toArray, List.getElem?_map, hx]
        rfl
      have hi0 : (0 : Int) ≤ (i : Int) := by omega
      have hiI : (i : Int) < 5 := by omega
      have HC1 := hide (sdecode_any wr wr.heap.size A n c L hr (Nat.le_refl _) hnc (by omega))
      have HC2 := hide (fun W (kW : Keeps (fun _ => False) wr W) => rdecode_any W W.heap.size A n c L ((hr.kept kW (fun _ _ h => h)).more kW.size) (Nat.le_refl _) hnc (by omega))
      have HN := hide (decP_bd L)
      generalize decP L = D at *
      clear hx hr
      go_wp2_with fail
      trace "DEC"
      refine HC1.out.mono ?_
      rintro e w9 ⟨v, rfl, hv, k9⟩
      obtain ⟨A2, n2, cA2, R2, m2, cR2, F, rfl, s2, hL⟩ := hv.smr HN.out.1 HN.out.2.1 HN.out.2.2.1
      have kB := (Keeps.refl (fun _ => False) w9).alloc (.cells (smC D.tot A2 n2 cA2 D.un R2 m2 cR2) 45)
      have BT := hide (Blk.new w9 45 (smC D.tot A2 n2 cA2 D.un R2 m2 cR2))
      have S2 := hide (s2.kept kB (fun _ _ h => h))
      have K9 := hide (k9.trans kB)
      have HL1 := hide hL
      have hs9 := k9.size
      clear k9 kB hL s2 hv HC1 y0
      dsimp only
      go_upto_region 22 with fail
      trace "R22"
      generalize w9.alloc _ = wa at *
      generalize w9.heap.size = X10 at *
      go_wp2_with fail
      trace "DEC2"
      refine (HC2.out wa K9.out).mono ?_
      rintro e wb ⟨v, rfl, hv, kb⟩
      obtain ⟨A3, n3, cA3, R3, m3, cR3, G, rfl, s3, hL⟩ := hv.smr HN.out.1 HN.out.2.1 HN.out.2.2.1
      obtain ⟨rfl, hFG⟩ := rowsL_ext (hL.trans HL1.out.symm)
      obtain rfl : n3 = n2 := by have h1 := s3.len; have h2 := S2.out.len; omega
      have kB := (Keeps.refl (fun _ => False) wb).alloc (.cells (smC D.tot A3 n3 cA3 D.un R3 m3 cR3) 45)
      have BT2 := hide (Blk.new wb 45 (smC D.tot A3 n3 cA3 D.un R3 m3 cR3))
      have BT1 := hide ((BT.out.kept kb (fun h => h)).kept kB (fun h => h))
      have S3 := hide (s3.kept kB (fun _ _ h => h))
      have S2b := hide (((S2.out.kept kb (fun _ _ h => h)).kept kB (fun _ _ h => h)).more (B' := wb.heap.size) (by have := BT.out.lt; have := kb.size; omega))
      have KN := hide ((KR.out.trans K9.out).trans (kb.trans kB))
      have HFG := hide hFG
      have HFn : Hid (∀ j, j < m3 → (F j).2.1 ≤ 140737488351232) := hide (fun j hj => by
        have h1 : (F j).2.2.2.length = (F j).2.1 := by simpa using (S2.out.rrd j hj).1.1
        have h2 : (F j).2.2.2 ∈ D.R := by
          rw [← HL1.out]
          exact List.mem_of_getElem? (rowsL_get hj)
        have := HN.out.2.2.2 _ h2
        omega)
      clear kb kB hFG hL s3 hv HC2 S2 K9 BT hs9
      dsimp only
      go_upto_region 23 with fail
      trace "R23"
      generalize wb.alloc _ = wc at *
      generalize wb.heap.size = X26 at *
      have z0 := BT1.out.cell 0
      have z1 := BT1.out.cell 1
      have z2 := BT1.out.cell 2
      have z3 := BT1.out.cell 3
      have t0 := BT2.out.cell 0
      have t1 := BT2.out.cell 1
      have t2 := BT2.out.cell 2
      have t3 := BT2.out.cell 3
      go_wp2_with fail
      trace "SAME"
      refine (sameSum_any wc X26 D.tot D.un A2 A3 R2 R3 n3 cA2 cA3 m3 cR2 cR3 D.l F G S2b.out S3.out HFG.out HFn.out).mono ?_
      rintro e wd ⟨rfl, kd⟩
      have KN := hide (KN.out.trans kd)
      clear kd z0 z1 z2 z3 t0 t1 t2 t3 BT1 BT2 S2b S3 HFG HFn
      go_wp2_with fail
      trace "ROUND"
      go_roundw
      case rel => exact ⟨i + 1, HLT.out, by go_num, KN⟩
      case measure => have := HLT.out; simp [intOf]; omega
    · obtain rfl : i = 5 := by omega
      go_wp2_with fail
      trace "END"
      refine ⟨rfl, ⟨_, _, _, _, _, _, _, _, _, _, _, _, _, _, _, _, _, _, _, _, _, _, _, _, _, _, _, _, _, _, rfl⟩, KR.out⟩
end senc
end Go.Proofs.Ytaiopdipldaimaa
