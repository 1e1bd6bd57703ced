/-
  Parts: report.Build of one summ; report.Decode of a repor. No conditions beyond those of the statement.
-/
import Derived.Test.YtjamiaamngalgaaGreatG00
import Derived.Test.YtjamiaamngalgaaGreatG32
import Derived.Test.YtjamiaamngalgaaGreatG27
import Derived.Test.YtjamiaamngalgaaGreatG16
import Derived.Test.YtjamiaamngalgaaGreatG04
import Derived.Test.YtjamiaamngalgaaGreatG33
import Derived.Test.YtjamiaamngalgaaGreatG15
set_option linter.unusedVariables false
set_option linter.unusedSimpArgs false
set_option maxRecDepth 1000000
set_option maxHeartbeats 4000000
namespace Go.Proofs.YtjamiaamngalgaaGreat
open Go.RowKit Cfp
def Zvj (w:World) (key:ByteArray) (e:Ending) (w':World):Prop:=
 ∃GL cL GJ cJ,e= .returned (rpV 0 5 (some ⟨GL,0,none⟩) 1 cL 0 1 0 (some ⟨GJ,0,none⟩) 7 cJ)∧Own w' w.heap.size 139 3 (some ⟨GL,0,none⟩) 1 cL [.string key,.int .u64 5,.int .u64 5]∧Own w' w.heap.size 23 1 (some ⟨GJ,0,none⟩) 7 cJ ((List.replicate 7 (0:Int)).map (.int .u64))∧Keeps NO w w'
theorem Znn (x:Ln):srtL [x]= [x]:=Srt.srt_one x
theorem Zf2 (w:World) (B g cS:Nat) (c:Cfg) (htop:1≤c.top∧c.top≤64) (C T:Option Addr) (n k j:Nat) (key:ByteArray) (A R:Option Addr) (cA cR:Nat) (x:Ln) (hxk:x.key=key) (F:Zaq) (h:OneS w B g 5 0 A cA R cR x F) (hB:B≤w.heap.size) (JA:Option Addr) (cJ0:Nat) (hJ:Rd w B JA 1 7 ((List.replicate 7 (0:Int)).map (.int .u64)))
  (HAll:∀W,Keeps NO w W→Calls Tryz.prog 78 #[Value.agg (cfC c C n k T 16 j),.slice (some ⟨g,0,none⟩) 1 cS,.slice none 0 0] W fun e w'=> ∃A' c',e= .returned (.slice A' 1 c')∧Own w' W.heap.size 139 3 A' 1 c' [.string key,.int .u64 5,.int .u64 5]∧Keeps NO W w')
  (HRest:∀W,Keeps NO w W→Calls Tryz.prog 83 #[Value.agg (cfC c C n k T 16 j),.slice (some ⟨g,0,none⟩) 1 cS] W fun e w'=> e= .returned (.int .u64 0)∧Keeps NO W w'):
  Calls Tryz.prog 31 #[Value.agg (cfC c C n k T 16 j),.int .i64 0,.slice (some ⟨g,0,none⟩) 1 cS,.slice JA 7 cJ0,.slice none 0 0] w (Zvj w key):=by
 obtain⟨X,hX⟩:∃X,X=w.heap.size:=⟨_,rfl⟩
 obtain⟨w1,hw1⟩:∃w1,w1=(w.alloc (.cells (cfC c C n k T 16 j) 27)).alloc (.cells (rpC 0 0 none 0 0 0 0 0 none 0 0) 91):=⟨_,rfl⟩
 have k1:Keeps NO w w1:=by rw [hw1];exact((Kz0 _ _).alloc _).alloc _
 have B4:Hid (Blk w1 X 27 (cfC c C n k T 16 j)):=zz (by rw [hw1,hX];exact(Blk.new _ _ _).alloc _)
 have BR:Hid (Blk w1 (X+1) 91 (rpC 0 0 none 0 0 0 0 0 none 0 0)):=zz (by rw [hw1,hX];exact Blk.new_at _ _ _ _ (by simp))
 have HTo:=zz (fun W (kW:Keeps NO w W)=> Zi5 W B g cS 5 0 A R cA cR x F (h.quiet kW) (by omega) (by omega))
 have HKe:=zz (fun W (kW:Keeps NO w W)=> Zlc W B g cS 5 0 A R cA cR x F (h.quiet kW) (Nat.le_trans hB kW.size))
 have HCl:=zz (fun W (kW:Keeps NO w W)=> Zd0 (c:=cJ0) (hJ.kept kW (fun _ _ h=> h)) (by omega))
 have HAl:=zz HAll
 have HRe:=zz HRest
 have HTp:=zz htop
 have K1:=zz k1
 have HW:=zz hw1
 have HXw:=zz (Nat.le_of_eq hX.symm)
 clear k1 hw1 HAll HRest h hJ htop hxk
 go_enter Tryz.func31,Tryz.ntmps31
 go_upto_region 1 with fail
 rw [←HW.out,←hX]
 clear HW hX
 have K0:=zz (K1.out.drew)
 have HC:=zz (fun W (kW:Keeps NO w1 W)=> B4.out.kept kW (fun h=> h))
 refine wp_region_held_drew (S:=fun W=> Blk W X 27 (cfC c C n k T 16 j)) (by kernel_rfl) (HC.out _ ((Kz0 _ w1).drew)) (fun hHeld=> ?_)
 refine wpAnyH_take (i:=0) (v:=_) rfl (by kernel_rfl) (by kernel_rfl) (by kernel_rfl) (fun _ _ _ h=> h) (Zbg (c:=c) (C:=C) (T:=T) (n:=n) (k:=k) (q:=16) (j:=j) (g:=X) (.tmp 5) rfl (fun _ h=> h) (by simp [Act.eval,Act.put]) (by kernel_rfl)) (by assumption) ?_
 (try simp only [Zpt])
 refine tkA 1 ?_
 refine tkA 2 ?_
 refine tkA 4 ?_
 refine tkA 5 ?_ (hy:=by intro w hSw; (try dsimp only at hSw); (have q1:=hSw.cell 12);clear hSw;go_simp;try (with_reducible rfl))
 have HBd:=zz (BR.out.kept ((Kz0 NO w1).drew) (fun h=> h))
 have HCd:=zz (B4.out.kept ((Kz0 NO w1).drew) (fun h=> h))
 clear BR B4 K1 HC
 generalize w1.drew=wd at*
 refine rd1 3 (fun K hK=> ?_)
 go_simp
 go_at_call 78
 refine(HAl.out wd K0.out).mono ?_
 rintro e w2 ⟨A2,c2,rfl,o2,k2⟩
 have O2:=zz o2
 have K2:=zz (K0.out.trans k2)
 have HB2:=zz (HBd.out.kept k2 (fun h=> h))
 have HC2:=zz (HCd.out.kept k2 (fun h=> h))
 clear o2 k2 HBd HCd K0 HAl
 try go_wp2_with fail
 refine hK.out _ _ (HC2.out) (fun hHeld=> ?_)
 clear hK K
 (try simp only [Zpt])
 refine rd1 6 (fun K hK=> ?_)
 go_simp
 go_at_call 77
 have hsl:=Zj5 w2 w2.heap.size A2 1 c2 [⟨key,5,5⟩] c.top (O2.out.rd (by omega)) (by omega) (by have:=HTp.out;omega) (by have:=HTp.out;omega)
 have hN:selN c.top 1=1:=by have:=HTp.out;unfold selN;omega
 unfold Ziw at hsl
 rw [hN,Znn] at hsl
 refine hsl.mono ?_
 rintro e w3 ⟨A3,c3,A4,c4,rfl,o3,o4,k3⟩
 obtain⟨GL,rfl,_,_⟩:=o3.some_ (by omega)
 have hw2:=K2.out.size
 have O3:=zz (o3.base_le (show w.heap.size≤_ from hw2))
 have HB3:=zz (HB2.out.kept k3 (fun h=> h))
 have HC3:=zz (HC2.out.kept k3 (fun h=> h))
 have K3:=zz (K2.out.trans k3)
 clear hsl hN o3 o4 k3 O2 HB2 HC2 K2
 try go_wp2_with fail
 refine hK.out _ _ (HC3.out) (fun hHeld=> ?_)
 clear hK K
 (try simp only [Zpt])
 refine tkA 7 ?_
 refine tkA 8 ?_
 refine tkA 9 ?_
 refine tkA 10 ?_
 refine tkA 11 ?_
 refine wpAnyH_done (by kernel_rfl) ?_ _
 go_wp2_with fail
 refine(HTo.out w3 K3.out).mono ?_
 rintro e w4 ⟨rfl,k4⟩
 have O4:=zz (O3.out.kept k4 (fun _ _ h=> h))
 have HB4:=zz (HB3.out.kept k4 (fun h=> h))
 have HC4:=zz (HC3.out.kept k4 (fun h=> h))
 have K4:=zz (K3.out.trans k4)
 have p0:=HB4.out.cell 0
 have p1:=HB4.out.cell 1
 have p2:=HB4.out.cell 2
 have z0:=HB4.out.frozen 0
 have z1:=HB4.out.frozen 1
 have z2:=HB4.out.frozen 2
 clear k4 O3 HB3 HC3 K3 HTo
 go_upto_region 3 with fail
 have kS:=(((Kz0 (· =X+1) w4).setCell (p:=⟨X+1,0,none⟩) (.inl rfl) (.int .i64 0)).setCell (p:=⟨X+1,1,none⟩) (.inl rfl) (.int .u64 5)).setCell (p:=⟨X+1,2,none⟩) (.inl rfl) (.slice (some ⟨GL,0,none⟩) 1 c3)
 have O5:=zz (O4.out.kept kS (fun b hb e=> O4.out.ne_blk HB4.out (by decide) hb e))
 have HC5:=zz (HC4.out.kept kS (fun e=> HC4.out.ne HB4.out (by decide) e))
 have HB5:=zz (((HB4.out.set 0 (.int .i64 0)).set 1 (.int .u64 5)).set 2 (.slice (some ⟨GL,0,none⟩) 1 c3))
 have hxl:=HXw.out
 have K5:=zz (K4.out.step kS (fun b hb e=> by omega))
 clear kS p0 p1 p2 z0 z1 z2 O4 HC4 HB4 K4
 generalize World.setCell (World.setCell (World.setCell w4 _ _) _ _) _ _=w5 at*
 simp only [List.setIfInBounds_toArray,List.set_cons_zero,List.set_cons_succ] at HB5
 have HLw:=zz (Zq8 w5 GL 0 c3 key 5 5 ⟨O5.out.cell 0 (by omega),O5.out.cell 1 (by omega),O5.out.cell 2 (by omega)⟩ (by omega) (by omega))
 go_wp2_with fail
 refine HLw.out.mono ?_
 rintro e w6 ⟨rfl,k6⟩
 have O6:=zz (O5.out.kept k6 (fun _ _ h=> h))
 have HB6:=zz (HB5.out.kept k6 (fun h=> h))
 have HC6:=zz (HC5.out.kept k6 (fun h=> h))
 have K6:=zz (K5.out.trans k6)
 have p1:=HB6.out.cell 1
 have HSu:=zz (Sat.sub_any 5 5 (by omega) (by omega) (by omega) (by omega) w6)
 rw [(Sat.sub_yes (a:=5) (b:=5) (by omega)).1,Int.sub_self] at HSu
 clear k6 O5 HB5 HC5 K5 HLw
 go_wp2_with fail
 refine HSu.out.mono ?_
 rintro e w7 ⟨rfl,rfl⟩
 have p3:=HB6.out.cell 3
 have z3:=HB6.out.frozen 3
 go_upto_region 5 with fail
 clear p3 z3 p1 HSu
 have kS:=(Kz0 (· =X+1) w6).setCell (p:=⟨X+1,3,none⟩) (.inl rfl) (.int .u64 0)
 have O8:=zz (O6.out.kept kS (fun b hb e=> O6.out.ne_blk HB6.out (by decide) hb e))
 have HC8:=zz (HC6.out.kept kS (fun e=> HC6.out.ne HB6.out (by decide) e))
 have HB8:=zz (HB6.out.set 3 (.int .u64 0))
 have hxl:=HXw.out
 have K8:=zz (K6.out.step kS (fun b hb e=> by omega))
 clear kS O6 HC6 HB6 K6
 generalize World.setCell w6 _ _=w8 at*
 simp only [List.setIfInBounds_toArray,List.set_cons_zero,List.set_cons_succ] at HB8
 go_wp2_with fail
 refine(HKe.out w8 K8.out).mono ?_
 rintro e w9 ⟨bK,cK,rfl,_,k9⟩
 have O9:=zz (O8.out.kept k9 (fun _ _ h=> h))
 have HB9:=zz (HB8.out.kept k9 (fun h=> h))
 have HC9:=zz (HC8.out.kept k9 (fun h=> h))
 have K9:=zz (K8.out.trans k9)
 have p4:=HB9.out.cell 4
 have z4:=HB9.out.frozen 4
 clear k9 O8 HB8 HC8 K8 HKe
 go_upto_region 6 with fail
 clear p4 z4
 have kS:=(Kz0 (· =X+1) w9).setCell (p:=⟨X+1,4,none⟩) (.inl rfl) (.int .i64 1)
 have O10:=zz (O9.out.kept kS (fun b hb e=> O9.out.ne_blk HB9.out (by decide) hb e))
 have HC10:=zz (HC9.out.kept kS (fun e=> HC9.out.ne HB9.out (by decide) e))
 have HB10:=zz (HB9.out.set 4 (.int .i64 1))
 have hxl:=HXw.out
 have K10:=zz (K9.out.step kS (fun b hb e=> by omega))
 clear kS O9 HC9 HB9 K9
 generalize World.setCell w9 _ _=w10 at*
 simp only [List.setIfInBounds_toArray,List.set_cons_zero,List.set_cons_succ] at HB10
 go_wp2_with (refine Zah _ rfl HC10.out rfl (by rfl) ?_;simp only [Act.put,List.setIfInBounds_toArray,List.set_cons_succ,List.set_cons_zero])
 refine(HRe.out w10 K10.out).mono ?_
 rintro e w11 ⟨rfl,k11⟩
 have O11:=zz (O10.out.kept k11 (fun _ _ h=> h))
 have HB11:=zz (HB10.out.kept k11 (fun h=> h))
 have HC11:=zz (HC10.out.kept k11 (fun h=> h))
 have K11:=zz (K10.out.trans k11)
 clear k11 O10 HB10 HC10 K10 HRe
 have HRa:=zz (Znw 0 w11 0 A4 0 c4 [] (Rd.zero rfl) (by omega))
 go_wp2_with fail
 refine HRa.out.mono ?_
 rintro e w12 ⟨rfl,k12⟩
 rw [show abv [] 0=0 from rfl]
 have O12:=zz (O11.out.kept k12 (fun _ _ h=> h))
 have HB12:=zz (HB11.out.kept k12 (fun h=> h))
 have HC12:=zz (HC11.out.kept k12 (fun h=> h))
 have K12:=zz (K11.out.trans k12)
 have p5:=HB12.out.cell 5
 have z5:=HB12.out.frozen 5
 clear k12 O11 HB11 HC11 K11 HRa
 go_upto_region 7 with fail
 clear p5 z5
 have kS:=(Kz0 (· =X+1) w12).setCell (p:=⟨X+1,5,none⟩) (.inl rfl) (.int .u64 0)
 have O13:=zz (O12.out.kept kS (fun b hb e=> O12.out.ne_blk HB12.out (by decide) hb e))
 have HC13:=zz (HC12.out.kept kS (fun e=> HC12.out.ne HB12.out (by decide) e))
 have HB13:=zz (HB12.out.set 5 (.int .u64 0))
 have hxl:=HXw.out
 have K13:=zz (K12.out.step kS (fun b hb e=> by omega))
 clear kS O12 HC12 HB12 K12
 generalize World.setCell w12 _ _=w13 at*
 simp only [List.setIfInBounds_toArray,List.set_cons_zero,List.set_cons_succ] at HB13
 go_wp2_with fail
 refine(HCl.out w13 K13.out).mono ?_
 rintro e w14 ⟨AJ,cJ,rfl,o14,k14⟩
 obtain⟨GJ,rfl,_,_⟩:=o14.some_ (by omega)
 have hw13:=K13.out.size
 have O14:=zz (O13.out.kept k14 (fun _ _ h=> h))
 have HB14:=zz (HB13.out.kept k14 (fun h=> h))
 have HC14:=zz (HC13.out.kept k14 (fun h=> h))
 have K14:=zz (K13.out.trans k14)
 have OJ:=zz (o14.base_le (show w.heap.size≤_ from hw13))
 have p6:=HB14.out.cell 6
 have z6:=HB14.out.frozen 6
 clear k14 o14 O13 HB13 HC13 K13 HCl
 go_upto_region 8 with fail
 have kS:=(Kz0 (· =X+1) w14).setCell (p:=⟨X+1,6,none⟩) (.inl rfl) (.slice (some ⟨GJ,0,none⟩) 7 cJ)
 have OJ15:=zz (OJ.out.kept kS (fun b hb e=> OJ.out.ne_blk HB14.out (by decide) hb e))
 clear kS OJ p6 z6
 have kS:=(Kz0 (· =X+1) w14).setCell (p:=⟨X+1,6,none⟩) (.inl rfl) (.slice (some ⟨GJ,0,none⟩) 7 cJ)
 have O15:=zz (O14.out.kept kS (fun b hb e=> O14.out.ne_blk HB14.out (by decide) hb e))
 have HC15:=zz (HC14.out.kept kS (fun e=> HC14.out.ne HB14.out (by decide) e))
 have HB15:=zz (HB14.out.set 6 (.slice (some ⟨GJ,0,none⟩) 7 cJ))
 have hxl:=HXw.out
 have K15:=zz (K14.out.step kS (fun b hb e=> by omega))
 clear kS O14 HC14 HB14 K14
 generalize World.setCell w14 _ _=w15 at*
 simp only [List.setIfInBounds_toArray,List.set_cons_zero,List.set_cons_succ] at HB15
 have r0:=HB15.out.cell 0
 have r1:=HB15.out.cell 1
 have r2:=HB15.out.cell 2
 have r3:=HB15.out.cell 3
 have r4:=HB15.out.cell 4
 have r5:=HB15.out.cell 5
 have r6:=HB15.out.cell 6
 have z0:=HB15.out.frozen 0
 have z1:=HB15.out.frozen 1
 have z2:=HB15.out.frozen 2
 have z3:=HB15.out.frozen 3
 have z4:=HB15.out.frozen 4
 have z5:=HB15.out.frozen 5
 have z6:=HB15.out.frozen 6
 simp only [Zpg] at r0 r1 r2 r3 r4 r5 r6
 go_wp2_with fail
 have bX:=((((((HB15.out.set 0 (.int .i64 0)).set 1 (.int .u64 5)).set 2 (.slice (some ⟨GL,0,none⟩) 1 c3)).set 3 (.int .u64 0)).set 4 (.int .i64 1)).set 5 (.int .u64 0)).set 6 (.slice (some ⟨GJ,0,none⟩) 7 cJ)
 have kY:=(((((((Kz0 (· =X+1) w15).setCell (p:=⟨X+1,0,none⟩) (.inl rfl) (.int .i64 0)).setCell (p:=⟨X+1,1,none⟩) (.inl rfl) (.int .u64 5)).setCell (p:=⟨X+1,2,none⟩) (.inl rfl) (.slice (some ⟨GL,0,none⟩) 1 c3)).setCell (p:=⟨X+1,3,none⟩) (.inl rfl) (.int .u64 0)).setCell (p:=⟨X+1,4,none⟩) (.inl rfl) (.int .i64 1)).setCell (p:=⟨X+1,5,none⟩) (.inl rfl) (.int .u64 0)).setCell (p:=⟨X+1,6,none⟩) (.inl rfl) (.slice (some ⟨GJ,0,none⟩) 7 cJ)
 have s0:=bX.cell 0
 have s1:=bX.cell 1
 have s2:=bX.cell 2
 have s3:=bX.cell 3
 have s4:=bX.cell 4
 have s5:=bX.cell 5
 have s6:=bX.cell 6
 simp only [List.setIfInBounds_toArray,List.set_cons_zero,List.set_cons_succ,List.getElem?_toArray,List.getElem?_cons_zero,List.getElem?_cons_succ] at s0 s1 s2 s3 s4 s5 s6
 refine bodyPost_ret (v:=rpV 0 5 (some ⟨GL,0,none⟩) 1 c3 0 1 0 (some ⟨GJ,0,none⟩) 7 cJ) (by simp [results,Tryz.results31,go_sem,s0,s1,s2,s3,s4,s5,s6]) rfl ?_
 have hxl:=HXw.out
 exact⟨GL,c3,GJ,cJ,rfl,O15.out.kept kY (fun b hb e=> O15.out.ne_blk HB15.out (by decide) hb e),OJ15.out.kept kY (fun b hb e=> OJ15.out.ne_blk HB15.out (by decide) hb e),K15.out.step kY (fun b hb e=> by omega)⟩
open Go.RowKit Vp
def zenc:Nat→List UInt8→List UInt8
 | 0,r=> r
 | m+1,r=> enc 0++zenc m r
def repT (key:ByteArray):List UInt8:=enc 1++(enc key.size++(key.data.toList++(enc 5++(enc 0++ []))))
theorem Zrg (key:ByteArray):repB key=enc 0++(enc 5++(enc 0++(enc 1++(enc 0++zenc 6 (repT key))))):=by
 simp [repB,encs,zenc,repT,List.append_assoc]
def Zwb (w:World) (key:ByteArray) (e:Ending) (w':World):Prop:=
 ∃GL off cL GJ cJ,e= .returned (.tuple #[rpV 0 5 (some ⟨GL,off,none⟩) 1 cL 0 1 0 (some ⟨GJ,0,none⟩) 7 cJ,.int .i64 0])∧Ln1 w' GL off key 5 5∧Keeps NO w w'
def Dc1 (w W:World) (B X Z J R:Nat) (key:ByteArray):Prop:=
 ∃GL off cL,IsRr W B X []∧Blk W Z 91 (rpC 0 5 (some ⟨GL,off,none⟩) 1 cL 0 1 0 (some ⟨J,0,none⟩) 7 7)∧Ln1 W GL off key 5 5∧w.heap.size≤GL∧GL≠Z∧GL≠X∧GL≠R∧Blk W J 23 (List.replicate 7 (.int .u64 0)).toArray∧Blk W R 91 (rpC 0 0 none 0 0 0 0 0 none 0 0)∧Keeps NO w W
theorem Zu7 (w:World) (B:Nat) (A:Option Addr) (n c:Nat) (key:ByteArray) (hr:Rd w B A 1 n ((repB key).map by8)) (hB:B≤w.heap.size) (hnc:n≤c) (hke:(key.toList== [])=false) (hk:key.size≤255):
  Calls Tryz.prog 49 #[.slice A n c] w (Zwb w key):=by
 rw [Zrg] at hr
 have kR:=(Kz0 NO w).alloc (.cells (rpC 0 0 none 0 0 0 0 0 none 0 0) 91)
 have HR:=zz (Blk.new w 91 (rpC 0 0 none 0 0 0 0 0 none 0 0))
 have HI:=zz (hr.kept kR (fun _ _ h=> h))
 have hn:n≤1000000:=by
  have h1:=hr.1
  rw [List.length_map] at h1
  have e0:=(Zae 0).2
  have e1:=(Zae 1).2
  have e5:=(Zae 5).2
  have ek:=(Zae key.size).2
  have e6:=Zc2 key
  simp only [zenc,repT,List.length_append,List.length_nil] at h1
  omega
 have K:=zz kR
 clear hr kR
 go_enter Tryz.func49,Tryz.ntmps49
 go_upto_region 1 with fail
 obtain⟨R,hR⟩:∃R,R=w.heap.size:=⟨_,rfl⟩
 have HRw:=zz (Nat.le_of_eq hR.symm)
 rw [←hR] at HR ⊢
 generalize w.alloc _=w1 at*
 clear hR
 go_upto_region 2 with fail
 have kX:=(Kz0 NO w1).alloc (.cells #[.slice A n c,.int .i64 0] 217)
 have HX:=zz (Blk.new w1 217 #[.slice A n c,.int .i64 0])
 have HR1:=zz (HR.out.kept kX (fun h=> h))
 have HI1:=zz (HI.out.kept kX (fun _ _ h=> h))
 have K1:=zz (K.out.trans kX)
 have hRX:=HR.out.lt
 clear kX HR HI K
 generalize w1.alloc _=w2 at*
 generalize w1.heap.size=X at*
 go_upto_region 3 with fail
 have kZ:=(Kz0 NO w2).alloc (.cells (rpC 0 0 none 0 0 0 0 0 none 0 0) 91)
 have HZ3:=zz (Blk.new w2 91 (rpC 0 0 none 0 0 0 0 0 none 0 0))
 have HR3:=zz (HR1.out.kept kZ (fun h=> h))
 have hRw0:=HRw.out
 have HE3:=zz (show IsRr (w2.alloc (.cells (rpC 0 0 none 0 0 0 0 0 none 0 0) 91)) B X _ from⟨A,n,c,HX.out.kept kZ (fun h=> h),HI1.out.kept kZ (fun _ _ h=> h),hnc,hn,by omega⟩)
 have K3:=zz (K1.out.trans kZ)
 have hXZ:=HX.out.lt
 clear kZ HR1 HX HI1 K1 HRw
 generalize w2.alloc _=w3 at*
 generalize w2.heap.size=Z at*
 have hxl:w.heap.size<X∧w.heap.size<Z∧B≤Z∧B≤R:=by omega
 have hRZ:¬R=Z:=by omega
 replace hXZ:¬X=Z:=by omega
 replace hRX:¬R=X:=by omega
 have hw0:IntKind.i64.wrap 0=0:=by decide
 have hw1:IntKind.i64.wrap 1=1:=by decide
 go_wp2_with fail
 refine((Zdz w3 B X _ 0 1099511627776 1 HE3.out (by omega) (by omega) (by omega))).mono ?_
 rintro e w4 ⟨rfl,he,km⟩
 have HE4:=zz he
 have HZ4:=zz (HZ3.out.kept km (fun e=> hXZ e.symm))
 have HR4:=zz (HR3.out.kept km (fun e=> hRX e))
 have K4:=zz (K3.out.step km (fun b hb e=> by omega))
 clear he km HE3 HZ3 HR3 K3
 have f1:=HZ4.out.frozen 0
 have g1:=HZ4.out.cell 0
 go_upto_region 4 with fail
 have kS:Keeps (· =Z) w4 (w4.setCell ⟨Z,0,none⟩ (.int .i64 0)):=(Kz0 (· =Z) _).setCell (p:=⟨Z,0,none⟩) (.inl rfl) _
 have HE5:=zz (HE4.out.kept kS hXZ (fun b hb e=> by omega))
 have HZ5:=zz (show Blk (w4.setCell ⟨Z,0,none⟩ (.int .i64 0)) Z 91 ((rpC 0 0 none 0 0 0 0 0 none 0 0)) from HZ4.out.set 0 (.int .i64 0))
 have HR5:=zz (HR4.out.kept kS (fun e=> hRZ e))
 have K5:=zz (K4.out.step kS (fun b hb e=> by omega))
 clear kS HE4 HZ4 HR4 K4 f1 g1
 generalize w4.setCell _ _=w5 at*
 go_wp2_with fail
 refine((Zbf w5 B X _ 5 HE5.out (by omega))).mono ?_
 rintro e w6 ⟨rfl,he,km⟩
 have HE6:=zz he
 have HZ6:=zz (HZ5.out.kept km (fun e=> hXZ e.symm))
 have HR6:=zz (HR5.out.kept km (fun e=> hRX e))
 have K6:=zz (K5.out.step km (fun b hb e=> by omega))
 clear he km HE5 HZ5 HR5 K5
 have f1:=HZ6.out.frozen 1
 have g1:=HZ6.out.cell 1
 go_upto_region 5 with fail
 have kS:Keeps (· =Z) w6 (w6.setCell ⟨Z,1,none⟩ (.int .u64 5)):=(Kz0 (· =Z) _).setCell (p:=⟨Z,1,none⟩) (.inl rfl) _
 have HE7:=zz (HE6.out.kept kS hXZ (fun b hb e=> by omega))
 have HZ7:=zz (show Blk (w6.setCell ⟨Z,1,none⟩ (.int .u64 5)) Z 91 ((rpC 0 5 none 0 0 0 0 0 none 0 0)) from HZ6.out.set 1 (.int .u64 5))
 have HR7:=zz (HR6.out.kept kS (fun e=> hRZ e))
 have K7:=zz (K6.out.step kS (fun b hb e=> by omega))
 clear kS HE6 HZ6 HR6 K6 f1 g1
 generalize w6.setCell _ _=w7 at*
 go_wp2_with fail
 refine((Zbf w7 B X _ 0 HE7.out (by omega))).mono ?_
 rintro e w8 ⟨rfl,he,km⟩
 have HE8:=zz he
 have HZ8:=zz (HZ7.out.kept km (fun e=> hXZ e.symm))
 have HR8:=zz (HR7.out.kept km (fun e=> hRX e))
 have K8:=zz (K7.out.step km (fun b hb e=> by omega))
 clear he km HE7 HZ7 HR7 K7
 have f1:=HZ8.out.frozen 3
 have g1:=HZ8.out.cell 3
 go_upto_region 6 with fail
 have kS:Keeps (· =Z) w8 (w8.setCell ⟨Z,3,none⟩ (.int .u64 0)):=(Kz0 (· =Z) _).setCell (p:=⟨Z,3,none⟩) (.inl rfl) _
 have HE9:=zz (HE8.out.kept kS hXZ (fun b hb e=> by omega))
 have HZ9:=zz (show Blk (w8.setCell ⟨Z,3,none⟩ (.int .u64 0)) Z 91 ((rpC 0 5 none 0 0 0 0 0 none 0 0)) from HZ8.out.set 3 (.int .u64 0))
 have HR9:=zz (HR8.out.kept kS (fun e=> hRZ e))
 have K9:=zz (K8.out.step kS (fun b hb e=> by omega))
 clear kS HE8 HZ8 HR8 K8 f1 g1
 generalize w8.setCell _ _=w9 at*
 go_wp2_with fail
 refine((Zdz w9 B X _ 1 1099511627776 1 HE9.out (by omega) (by omega) (by omega))).mono ?_
 rintro e w10 ⟨rfl,he,km⟩
 have HE10:=zz he
 have HZ10:=zz (HZ9.out.kept km (fun e=> hXZ e.symm))
 have HR10:=zz (HR9.out.kept km (fun e=> hRX e))
 have K10:=zz (K9.out.step km (fun b hb e=> by omega))
 clear he km HE9 HZ9 HR9 K9
 have f1:=HZ10.out.frozen 4
 have g1:=HZ10.out.cell 4
 go_upto_region 7 with fail
 have kS:Keeps (· =Z) w10 (w10.setCell ⟨Z,4,none⟩ (.int .i64 1)):=(Kz0 (· =Z) _).setCell (p:=⟨Z,4,none⟩) (.inl rfl) _
 have HE11:=zz (HE10.out.kept kS hXZ (fun b hb e=> by omega))
 have HZ11:=zz (show Blk (w10.setCell ⟨Z,4,none⟩ (.int .i64 1)) Z 91 ((rpC 0 5 none 0 0 0 1 0 none 0 0)) from HZ10.out.set 4 (.int .i64 1))
 have HR11:=zz (HR10.out.kept kS (fun e=> hRZ e))
 have K11:=zz (K10.out.step kS (fun b hb e=> by omega))
 clear kS HE10 HZ10 HR10 K10 f1 g1
 generalize w10.setCell _ _=w11 at*
 go_wp2_with fail
 refine((Zbf w11 B X _ 0 HE11.out (by omega))).mono ?_
 rintro e w12 ⟨rfl,he,km⟩
 have HE12:=zz he
 have HZ12:=zz (HZ11.out.kept km (fun e=> hXZ e.symm))
 have HR12:=zz (HR11.out.kept km (fun e=> hRX e))
 have K12:=zz (K11.out.step km (fun b hb e=> by omega))
 clear he km HE11 HZ11 HR11 K11
 have f1:=HZ12.out.frozen 5
 have g1:=HZ12.out.cell 5
 go_upto_region 8 with fail
 have kS:Keeps (· =Z) w12 (w12.setCell ⟨Z,5,none⟩ (.int .u64 0)):=(Kz0 (· =Z) _).setCell (p:=⟨Z,5,none⟩) (.inl rfl) _
 have HE13:=zz (HE12.out.kept kS hXZ (fun b hb e=> by omega))
 have HZ13:=zz (show Blk (w12.setCell ⟨Z,5,none⟩ (.int .u64 0)) Z 91 ((rpC 0 5 none 0 0 0 1 0 none 0 0)) from HZ12.out.set 5 (.int .u64 0))
 have HR13:=zz (HR12.out.kept kS (fun e=> hRZ e))
 have K13:=zz (K12.out.step kS (fun b hb e=> by omega))
 clear kS HE12 HZ12 HR12 K12 f1 g1
 generalize w12.setCell _ _=w13 at*
 clear hw0 hw1
 have hmk:∀w,(Instr.makeSlice 25 (.int .i64 7) (.int .i64 7)).run Tryz.prog w= .ok (.slice (some ⟨w.heap.size,0,none⟩) 7 7) (w.alloc (.cells #[.int .u64 0,.int .u64 0,.int .u64 0,.int .u64 0,.int .u64 0,.int .u64 0,.int .u64 0] 23)):=Zei 7 (by decide)
 have hJ:=HZ13.out.lt
 have hJX:=HE13.out.lt
 have hJR:=HR13.out.lt
 have f6:=HZ13.out.frozen 6
 have g6:=HZ13.out.cell 6
 go_upto_region 9 with fail
 clear hmk f6 g6
 have kS:Keeps (· =Z) w13 (w13.setCell ⟨Z,6,none⟩ (.slice (some ⟨w13.heap.size,0,none⟩) 7 7)):=(Kz0 (· =Z) _).setCell (p:=⟨Z,6,none⟩) (.inl rfl) _
 have kA:=(Kz0 NO (w13.setCell ⟨Z,6,none⟩ (.slice (some ⟨w13.heap.size,0,none⟩) 7 7))).alloc (.cells #[.int .u64 0,.int .u64 0,.int .u64 0,.int .u64 0,.int .u64 0,.int .u64 0,.int .u64 0] 23)
 have HJ15:=zz (show Blk ((w13.setCell ⟨Z,6,none⟩ (.slice (some ⟨w13.heap.size,0,none⟩) 7 7)).alloc (.cells #[.int .u64 0,.int .u64 0,.int .u64 0,.int .u64 0,.int .u64 0,.int .u64 0,.int .u64 0] 23)) w13.heap.size 23 (List.replicate 7 (.int .u64 0)).toArray from Blk.new_at _ _ _ _ (by simp))
 have HE15:=zz ((HE13.out.kept kS hXZ (fun b hb e=> by omega)).quiet kA)
 have HZ15:=zz (show Blk ((w13.setCell ⟨Z,6,none⟩ (.slice (some ⟨w13.heap.size,0,none⟩) 7 7)).alloc (.cells #[.int .u64 0,.int .u64 0,.int .u64 0,.int .u64 0,.int .u64 0,.int .u64 0,.int .u64 0] 23)) Z 91 (rpC 0 5 none 0 0 0 1 0 (some ⟨w13.heap.size,0,none⟩) 7 7) from(HZ13.out.set 6 _).kept kA (fun h=> h))
 have HR15:=zz ((HR13.out.kept kS hRZ).kept kA (fun h=> h))
 have K15:=zz ((K13.out.step kS (fun b hb e=> by omega)).trans kA)
 clear kS kA HE13 HZ13 HR13 K13
 generalize World.alloc (World.setCell w13 _ _) _=w15 at*
 generalize w13.heap.size=J at*
 have hJ1:¬J=X:=by omega
 have hJ2:¬J=Z:=by omega
 have hJ3:¬J=R:=by omega
 have hJ4:w.heap.size<J∧B≤J:=by omega
 clear hJ hJX hJR
 go_wp2_with fail
 go_loopw [6] (fun iv wr=> ∃i:Nat,1≤i∧i≤7∧iv= .int .i64 i∧Hid (IsRr wr B X (zenc (7-i) (repT key))∧Blk wr Z 91 (rpC 0 5 none 0 0 0 1 0 (some ⟨J,0,none⟩) 7 7)∧Blk wr J 23 (List.replicate 7 (.int .u64 0)).toArray∧Blk wr R 91 (rpC 0 0 none 0 0 0 0 0 none 0 0)∧Keeps NO w wr)) (fun iv _=> 7-(intOf iv).toNat)
 case atStart=> exact⟨1,by omega,by omega,rfl,zz ⟨HE15.out,HZ15.out,HJ15.out,HR15.out,K15.out⟩⟩
 case round=>
  obtain⟨i,hi1,hi7,rfl,Hr⟩:=hrel
  clear HE15 HZ15 HJ15 HR15 K15
  obtain⟨wo,rfl⟩:∃wo:World,wo=wr:=⟨_,rfl⟩
  by_cases hlt:i≤6
  ·have e1:decide ((i:Int)≤6)=true:=by simp;omega
   have hze:zenc (7-i) (repT key)=enc 0++zenc (6-i) (repT key):=by
    rw [show 7-i=(6-i)+1 from by omega]
    rfl
   have HE:=zz Hr.out.1
   rw [hze] at HE
   have HZ:=zz Hr.out.2.1
   have HJ:=zz Hr.out.2.2.1
   have HR:=zz Hr.out.2.2.2.1
   have K:=zz Hr.out.2.2.2.2
   clear Hr hze
   go_upto_region 12 with fail
   have HEd:=zz (HE.out.quiet ((Kz0 NO wo).drew))
   have HZd:=zz (HZ.out.kept ((Kz0 NO wo).drew) (fun h=> h))
   have HJd:=zz (HJ.out.kept ((Kz0 NO wo).drew) (fun h=> h))
   have HRd:=zz (HR.out.kept ((Kz0 NO wo).drew) (fun h=> h))
   have Kd:=zz (K.out.drew)
   clear HE HZ HJ HR K
   refine wp_region_held_drew (S:=fun W=> Blk W Z 91 (rpC 0 5 none 0 0 0 1 0 (some ⟨J,0,none⟩) 7 7)) (by kernel_rfl) HZd.out (fun hHeld=> ?_)
   refine tkA 0 ?_
   refine tkA 1 ?_ (hy:=by intro w hSw; (try dsimp only at hSw); (have q1:=hSw.cell 6);clear hSw;go_simp;try (with_reducible rfl))
   refine tkA 2 ?_
   refine tkA 3 ?_
   generalize wo.drew=wd at*
   refine rd1 4 (fun K hK=> ?_)
   go_simp
   go_at_call 105
   refine(Zbf wd B X _ 0 HEd.out (by omega)).mono ?_
   rintro e we ⟨rfl,he,km⟩
   have HEe:=zz he
   have HZe:=zz (HZd.out.kept km (fun e=> hXZ e.symm))
   have HJe:=zz (HJd.out.kept km hJ1)
   have HRe:=zz (HRd.out.kept km hRX)
   have Ke:=zz (Kd.out.step km (fun b hb e=> by omega))
   clear he km HEd HZd HJd HRd Kd
   try go_wp2_with fail
   refine hK.out _ _ (HZe.out) (fun hHeld=> ?_)
   clear hK K
   (try simp only [Zpt])
   have hi8:(i:Int)<7:=by omega
   refine tkA 5 ?_
   have y1:we.cell? ⟨J,i,none⟩=some (.int .u64 0):=by
    have:=HJe.out.cell i
    rw [this,List.getElem?_toArray,List.getElem?_replicate,if_pos (by omega)]
   have z1:=HJe.out.frozen i
   refine rd1 6 (fun K hK=> ?_)
   go_simp
   have kS:Keeps (· =J) we (we.setCell ⟨J,i,none⟩ (.int .u64 0)):=(Kz0 (· =J) _).setCell (p:=⟨J,i,none⟩) (.inl rfl) _
   have HEf:=zz (HEe.out.kept kS (fun e=> hJ1 e.symm) (fun b hb e=> by omega))
   have HZf:=zz (HZe.out.kept kS (fun e=> hJ2 e.symm))
   have HRf:=zz (HRe.out.kept kS (fun e=> hJ3 e.symm))
   have HJf:=zz (show Blk (we.setCell ⟨J,i,none⟩ (.int .u64 0)) J 23 (List.replicate 7 (.int .u64 0)).toArray from by
    have h:=HJe.out.set i (.int .u64 0)
    rw [List.setIfInBounds_toArray,List.set_replicate_self] at h
    exact h)
   have Kf:=zz (Ke.out.step kS (fun b hb e=> by omega))
   clear kS y1 z1 HEe HZe HRe HJe Ke
   generalize we.setCell _ _=wf at*
   try go_wp2_with fail
   refine hK.out _ _ (HZf.out) (fun hHeld=> ?_)
   clear hK K
   (try simp only [Zpt])
   refine wpAnyH_done (by kernel_rfl) ?_ _
   go_wp2_with fail
   go_roundw
   case rel=> exact⟨i+1,by omega,by omega,by go_num,zz ⟨by rw [show 7-(i+1)=6-i from by omega];exact HEf.out,HZf.out,HJf.out,HRf.out,Kf.out⟩⟩
   case measure=> simp [intOf];omega
  ·obtain rfl:i=7:=by omega
   have HE16:=zz (show IsRr wo B X (repT key) from Hr.out.1)
   have HZ16:=zz Hr.out.2.1
   have HR16:=zz Hr.out.2.2.2.1
   have HJ16:=zz Hr.out.2.2.1
   have K16:=zz Hr.out.2.2.2.2
   clear Hr
   go_upto_region 13 with fail
   go_wp2_with fail
   refine(Zdz wo B X _ 1 64 7 HE16.out (by omega) (by omega) (by omega)).mono ?_
   rintro e w17 ⟨rfl,he,km⟩
   have HE17:=zz he
   have HZ17:=zz (HZ16.out.kept km (fun e=> hXZ e.symm))
   have HR17:=zz (HR16.out.kept km (fun e=> hRX e))
   have HJ17:=zz (HJ16.out.kept km hJ1)
   have K17:=zz (K16.out.step km (fun b hb e=> by omega))
   clear he km HE16 HZ16 HR16 HJ16 K16
   go_wp2_with fail
   go_loopw [41] (fun iv wr=> (iv= .int .u64 0∧wr=w17)∨(iv= .int .u64 1∧Hid (Dc1 w wr B X Z J R key))) (fun iv _=> 1-(intOf iv).toNat)
   case atStart=> exact .inl ⟨rfl,rfl⟩
   case round=>
    rcases hrel with ⟨rfl,rfl⟩ | ⟨rfl,HQ⟩
    ·obtain⟨wo,rfl⟩:∃wo:World,wo=wr:=⟨_,rfl⟩
     go_upto_region 15 with fail
     have HE:=zz (HE17.out.quiet ((Kz0 NO wo).drew))
     have HZ:=zz (HZ17.out.kept ((Kz0 NO wo).drew) (fun h=> h))
     have HJ:=zz (HJ17.out.kept ((Kz0 NO wo).drew) (fun h=> h))
     have HR:=zz (HR17.out.kept ((Kz0 NO wo).drew) (fun h=> h))
     have Kz:=zz (K17.out.drew)
     clear HE17 HZ17 HJ17 HR17 K17
     refine Zat (fun i=> i==7) (S:=fun W=> Blk W Z 91 (rpC 0 5 none 0 0 0 1 0 (some ⟨J,0,none⟩) 7 7)) (by kernel_rfl) HZ.out (fun hHeld=> ?_)
     refine tkB 0 ?_
     refine tkB 1 ?_ (hy:=by intro w hSw; (try dsimp only at hSw); (have q1:=hSw.cell 2);clear hSw;go_simp;try (with_reducible rfl))
     refine tkB 2 ?_
     generalize wo.drew=wd at*
     refine Za2 (rs:= [3]) (by kernel_rfl) (by simp) (AllL.cons rfl (fun K hK=> ?_) AllL.nil)
     go_simp
     go_at_call 106
     refine(Zkq wd B X [] key HE.out hk).mono ?_
     rintro e we ⟨rfl,he,km⟩
     have HEe:=zz he
     have HZe:=zz (HZ.out.kept km (fun e=> hXZ e.symm))
     have HJe:=zz (HJ.out.kept km hJ1)
     have HRe:=zz (HR.out.kept km hRX)
     have Ke:=zz (Kz.out.step km (fun b hb e=> by omega))
     clear he km HE HZ HJ HR Kz
     try go_wp2_with fail
     refine hK.out _ _ (HZe.out) (fun hHeld=> ?_)
     clear hK K
     (try simp only [Zpt])
     refine Za2 (rs:= [4]) (by kernel_rfl) (by simp) (AllL.cons rfl (fun K hK=> ?_) AllL.nil)
     go_simp
     have kB:=(Kz0 NO we).alloc (.cells #[.string key,.int .u64 5,.int .u64 5] 139)
     have HB:=zz (Blk.new we 139 #[.string key,.int .u64 5,.int .u64 5])
     have HEf:=zz (HEe.out.quiet kB)
     have HZf:=zz (HZe.out.kept kB (fun h=> h))
     have HJf:=zz (HJe.out.kept kB (fun h=> h))
     have HRf:=zz (HRe.out.kept kB (fun h=> h))
     have Kf:=zz (Ke.out.trans kB)
     clear kB HEe HZe HJe HRe Ke
     generalize we.alloc _=wf at*
     generalize we.heap.size=gB at*
     try go_wp2_with fail
     refine hK.out _ _ (HZf.out) (fun hHeld=> ?_)
     clear hK K
     (try simp only [Zpt])
     refine Za2 (rs:= [5]) (by kernel_rfl) (by simp) (AllL.cons rfl (fun K hK=> ?_) AllL.nil)
     refine Zao _ Zqf (by rfl) (.tmp 44) (.tmp 47) (by rfl) wf.heap.size [] (by simp [Act.eval,Act.put]) (Own.nil _ _ _ _) _ (A2:=some ⟨gB,0,none⟩) (m:=1) (c2:=1) [.string key,.int .u64 5,.int .u64 5] (by simp [Act.eval,Act.put]) (by exact Blk.rd (sz:=3) (xs:= [.string key,.int .u64 5,.int .u64 5]) HB.out rfl) (by simp [Value.oneCell']) (by simp only [maxLen];omega) (by omega) (by omega) ?_
     intro A6 c6 wg o6 k6 hA6
     have k6':Keeps NO wf wg:=k6.weak (fun b hb e=> by obtain⟨_,h,_⟩:=e;cases h)
     have HEg:=zz (HEf.out.quiet k6')
     have HZg:=zz (HZf.out.kept k6' (fun h=> h))
     have HJg:=zz (HJf.out.kept k6' (fun h=> h))
     have HRg:=zz (HRf.out.kept k6' (fun h=> h))
     have Kg:=zz (Kf.out.trans k6')
     have hz1:=HZf.out.lt
     have hz2:=HEf.out.lt
     have hz3:=HRf.out.lt
     have hz4:=Kf.out.size
     obtain⟨GL,off,rfl,hGL,hc⟩:=(o6.rd (by omega)).2 (by omega)
     have hL:Hid (wf.heap.size≤GL):=zz (by have:=o6.inB ((Za0 _ _ _).2 rfl);omega)
     have hcc:=zz hc
     clear k6 k6' o6 hA6 HEf HZf HJf HRf Kf HB hc hGL
     refine hK.out _ _ HZg.out (fun _=> ?_)
     clear hK K
     (try simp only [Zpt])
     refine tkB 6 ?_
     have f2:=HZg.out.frozen 2
     have g2:=HZg.out.cell 2
     refine Za2 (rs:= [7]) (by kernel_rfl) (by simp) (AllL.last rfl rfl (fun K hK=> ?_) AllL.nil)
     go_simp
     try go_wp2_with fail
     refine hK.out _ _ ?_
     clear hK K
     refine Zau (by kernel_rfl) ?_ _
     have kS:Keeps (· =Z) wg (wg.setCell ⟨Z,2,none⟩ (.slice (some ⟨GL,off,none⟩) 1 c6)):=(Kz0 (· =Z) _).setCell (p:=⟨Z,2,none⟩) (.inl rfl) _
     have HQ:Hid (Dc1 w (wg.setCell ⟨Z,2,none⟩ (.slice (some ⟨GL,off,none⟩) 1 c6)) B X Z J R key):=zz (by
      have hL':=hL.out
      have hne:¬GL=Z:=by omega
      have y0:=hcc.out 0 (.string key) rfl
      have y1:=hcc.out 1 (.int .u64 5) rfl
      have y2:=hcc.out 2 (.int .u64 5) rfl
      exact⟨GL,off,c6,HEg.out.kept kS hXZ (fun b hb e=> by omega),HZg.out.set 2 _,(Ln1.mk y0 y1 y2).kept kS hne,by omega,hne,by omega,by omega,HJg.out.kept kS hJ2,HRg.out.kept kS hRZ,Kg.out.step kS (fun b hb e=> by omega)⟩)
     clear kS f2 g2 HEg HZg HJg HRg Kg hL hcc hz1 hz2 hz3 hz4
     generalize wg.setCell _ _=wh at*
     go_wp2_with fail
     go_roundw
     case rel=> exact .inr ⟨rfl,HQ⟩
     case measure=> simp [intOf]
    ·obtain⟨GL,off,cL,hE,hZ,hL,hg1,hg2,hg3,hg4,hJ,hR,hK⟩:=HQ.out
     have HE18:=zz hE
     have HZ18:=zz hZ
     have HR18:=zz hR
     have HK18:=zz hK
     have HL18:=zz hL
     have HJ18:=zz (hJ.cell 0)
     clear HQ hE hZ hL hJ hR hK
     go_upto_region 17 with fail
     obtain⟨A8,n8,d8,hb8,hr8,_⟩:=HE18.out
     have hn8:n8=0:=by have h:=hr8.1;simpa using h.symm
     subst hn8
     have c0:=hb8.cell 0
     have c1:=hb8.cell 1
     have HX18:=zz hb8
     clear hb8 hr8 HE18
     have z0:=HZ18.out.cell 0
     have z1:=HZ18.out.cell 1
     have z2:=HZ18.out.cell 2
     have z3:=HZ18.out.cell 3
     have z4:=HZ18.out.cell 4
     have z5:=HZ18.out.cell 5
     have z6:=HZ18.out.cell 6
     have HCk:=zz (Zi2 wr GL off cL J 0 7 key HL18.out HJ18.out hke hk)
     go_wp2_with fail
     refine HCk.out.mono ?_
     rintro e w19 ⟨rfl,k19⟩
     have HX19:=zz (HX18.out.kept k19 (fun h=> h))
     have HZ19:=zz (HZ18.out.kept k19 (fun h=> h))
     have HR19:=zz (HR18.out.kept k19 (fun h=> h))
     have HL19:=zz (HL18.out.kept k19 (fun h=> h))
     have HK19:=zz (HK18.out.trans k19)
     clear k19 c0 c1 z0 z1 z2 z3 z4 z5 z6 HX18 HZ18 HR18 HL18 HK18 HJ18 HCk
     have f1:=HX19.out.frozen 1
     have c1:=HX19.out.cell 1
     go_upto_region 21 with fail
     have kS:Keeps (· =X) w19 (w19.setCell ⟨X,1,none⟩ (.int .i64 0)):=(Kz0 (· =X) _).setCell (p:=⟨X,1,none⟩) (.inl rfl) _
     have HX20:=zz (show Blk (w19.setCell ⟨X,1,none⟩ (.int .i64 0)) X 217 #[.slice A8 0 d8,.int .i64 0] from HX19.out.set 1 _)
     have HZ20:=zz (HZ19.out.kept kS (fun e=> hXZ e.symm))
     have HR20:=zz (HR19.out.kept kS hRX)
     have HL20:=zz (HL19.out.kept kS hg3)
     have HK20:=zz (HK19.out.step kS (fun b hb e=> by omega))
     clear kS f1 c1 HX19 HZ19 HR19 HL19 HK19
     generalize w19.setCell _ _=w20 at*
     have c1:=HX20.out.cell 1
     have z0:=HZ20.out.cell 0
     have z1:=HZ20.out.cell 1
     have z2:=HZ20.out.cell 2
     have z3:=HZ20.out.cell 3
     have z4:=HZ20.out.cell 4
     have z5:=HZ20.out.cell 5
     have z6:=HZ20.out.cell 6
     have y0:=HR20.out.frozen 0
     have y1:=HR20.out.frozen 1
     have y2:=HR20.out.frozen 2
     have y3:=HR20.out.frozen 3
     have y4:=HR20.out.frozen 4
     have y5:=HR20.out.frozen 5
     have y6:=HR20.out.frozen 6
     have r0:=HR20.out.cell 0
     have r1:=HR20.out.cell 1
     have r2:=HR20.out.cell 2
     have r3:=HR20.out.cell 3
     have r4:=HR20.out.cell 4
     have r5:=HR20.out.cell 5
     have r6:=HR20.out.cell 6
     go_wp2_with fail
     have bX:=((((((HR20.out.set 0 (.int .i64 0)).set 1 (.int .u64 5)).set 2 (.slice (some ⟨GL,off,none⟩) 1 cL)).set 3 (.int .u64 0)).set 4 (.int .i64 1)).set 5 (.int .u64 0)).set 6 (.slice (some ⟨J,0,none⟩) 7 7)
     have kY:=(((((((Kz0 (· =R) w20).setCell (p:=⟨R,0,none⟩) (.inl rfl) (.int .i64 0)).setCell (p:=⟨R,1,none⟩) (.inl rfl) (.int .u64 5)).setCell (p:=⟨R,2,none⟩) (.inl rfl) (.slice (some ⟨GL,off,none⟩) 1 cL)).setCell (p:=⟨R,3,none⟩) (.inl rfl) (.int .u64 0)).setCell (p:=⟨R,4,none⟩) (.inl rfl) (.int .i64 1)).setCell (p:=⟨R,5,none⟩) (.inl rfl) (.int .u64 0)).setCell (p:=⟨R,6,none⟩) (.inl rfl) (.slice (some ⟨J,0,none⟩) 7 7)
     have s0:=bX.cell 0
     have s1:=bX.cell 1
     have s2:=bX.cell 2
     have s3:=bX.cell 3
     have s4:=bX.cell 4
     have s5:=bX.cell 5
     have s6:=bX.cell 6
     simp only [List.setIfInBounds_toArray,List.set_cons_zero,List.set_cons_succ,List.getElem?_toArray,List.getElem?_cons_zero,List.getElem?_cons_succ] at s0 s1 s2 s3 s4 s5 s6
     refine bodyPost_ret (v:= .tuple #[rpV 0 5 (some ⟨GL,off,none⟩) 1 cL 0 1 0 (some ⟨J,0,none⟩) 7 7,.int .i64 0]) (by simp [results,Tryz.results49,go_sem,s0,s1,s2,s3,s4,s5,s6]) rfl ?_
     exact⟨GL,off,cL,J,7,rfl,HL20.out.kept kY hg4,HK20.out.step kY (fun b hb e=> by omega)⟩
end Go.Proofs.YtjamiaamngalgaaGreat
