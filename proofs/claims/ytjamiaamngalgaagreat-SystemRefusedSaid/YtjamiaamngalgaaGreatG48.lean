/-
  Parts: tier.New by saving of on. No conditions beyond those of the statement.
-/
import Derived.Test.YtjamiaamngalgaaGreatG04
import Derived.Test.YtjamiaamngalgaaGreatG43
set_option linter.unusedVariables false
set_option linter.unusedSimpArgs false
set_option maxRecDepth 1000000
set_option maxHeartbeats 4000000
namespace Go.Proofs.YtjamiaamngalgaaGreat
open Go.RowKit Cfp
def Ztd (w:World) (a p:Nat) (c:Cfg) (C T:Option Addr) (n k j:Nat) (ts:List Int) (B:Nat) (R:World→World→Int→Int→Int→Prop) (e:Ending) (w':World):Prop:=
 ∃g t sv B1 ge gs bs bt ct lo hi W1 W2 A cc h1 h2 h3,e= .returned (.tuple #[.pointer (some ⟨g+3,0,none⟩),.int .i64 0])∧Keeps NO w W1∧R W1 W2 h1 h2 h3∧
  TrM (ArS B w) w W2 g a p c C T n k j (.slice none 0 0) t sv B1 ge gs bs bt ct lo hi ts∧TrM (ArS B w) w w' g a p c C T n k j (.slice A 1 cc) t sv B1 ge gs bs bt ct lo hi ts∧
  Own w' hi 236 3 A 1 cc [.int .i64 h1,.int .i64 h2,.int .i64 h3]∧Keeps (fun b=> b=g+3∨b=g+1) W2 w'
theorem Zt2:ElemOf Tryz.prog 255 236 3 24:=ElemOf.mk' (z:= .agg #[.int .i64 0,.int .i64 0,.int .i64 0]) Tryz.underlying255 (by kernel_rfl) rfl (by omega)
theorem Zk7 (w:World) (a p:Nat) (c:Cfg) (hm:c.mode=1) (hs:c.slots=1) (he:c.exact_=0) (hd:c.depth=1) (hwd:c.width=1) (C T:Option Addr) (n k j:Nat) (ts:List Int)
  (hT:Rd w w.heap.size T 1 16 (ts.map (.int .u64))) (htb:∀z∈ts,0≤z∧z<18446744073709551616) (sd:0≤c.seed∧c.seed<18446744073709551616) (B:Nat) (R:World→World→Int→Int→Int→Prop)
  (HA:Hid (∀W,Keeps NO w W→Calls Tryz.prog 120 #[.pointer (some ⟨a,0,none⟩),.int .i64 8] W fun e w'=> ∃h1 h2 h3:Int,e= .returned (.tuple #[.agg #[.int .i64 h1,.int .i64 h2,.int .i64 h3],.int .i64 0])∧R W w' h1 h2 h3∧Keeps (ArS B W) W w')):
  Calls Tryz.prog 126 #[.pointer (some ⟨a,0,none⟩),.pointer (some ⟨p,0,none⟩),Value.agg (cfC c C n k T 16 j)] w (Ztd w a p c C T n k j ts B R):=by
 have hmm:∀w,(Instr.makeMap 256 none).run Tryz.prog w= .ok (.map (some w.heap.size)) (w.alloc (.map #[] 0)):=fun w=> run_makeMap _ w
 have HCf:=zz (And.intro hm (And.intro hs (And.intro he (And.intro hd hwd))))
 clear hm hs he hd hwd
 have HRd:=zz hT
 have HTb:=zz htb
 have HSd:=zz sd
 clear hT htb sd
 obtain⟨w1,hw1⟩:∃w1,w1=((((w.alloc (.cells (cfC c C n k T 16 j) 27)).alloc (.cells #[.int .i64 0] 31)).alloc (.map #[] 0)).alloc (.cells (trC c C T n k j a p (.pointer none) (.pointer none) (.pointer none) (.slice none 0 0) (.map (some (w.heap.size+2)))) 258)).alloc (.cells #[.pointer (some ⟨w.heap.size+3,0,none⟩)] 177):=⟨_,rfl⟩
 have H1:Tr0 NO w w1 w.heap.size a p c C T n k j (.pointer none) (.pointer none) (.pointer none) (.slice none 0 0) 0:=by
  subst hw1
  refine⟨((((Blk.new _ _ _).alloc _).alloc _).alloc _).alloc _,?_,?_,?_,?_,(((((Kz0 _ _).alloc _).alloc _).alloc _).alloc _).alloc _,rfl⟩
  ·exact(((Blk.new_at _ _ _ _ (by simp)).alloc _).alloc _).alloc _
  ·refine(Below.heap_alloc _ _ _ (by simp)).trans ((Below.heap_alloc _ _ _ (by simp)).trans ?_)
   have h:=heap_alloc_new ((w.alloc (.cells (cfC c C n k T 16 j) 27)).alloc (.cells #[.int .i64 0] 31)) (.map #[] 0)
   rw [World.size_alloc,World.size_alloc] at h
   exact h
  ·exact(Blk.new_at _ _ _ _ (by simp)).alloc _
  ·exact Blk.new_at _ _ _ _ (by simp)
 have HW:=zz hw1
 have HT0:=zz H1
 clear hw1 H1
 go_enter_defers Tryz.func126,Tryz.ntmps126
 go_upto_region 4 with fail
 simp only [Nat.add_assoc,Nat.reduceAdd]
 rw [←HW.out]
 generalize w.heap.size=g at*
 clear HW hmm
 have HKd:=zz ((Kz0 NO w1).drew)
 have HTn:Hid (∀W,Calls Tryz.prog 182 #[.int .i64 c.mode,.int .i64 c.slots] W fun e w'=> ∃t p,e= .returned (.tuple #[.pointer (some ⟨t,0,none⟩),.int .i64 0])∧Tb1 w' W.heap.size t p none 0∧Keeps NO W w'):=zz (fun W=> by rw [HCf.out.1,HCf.out.2.1];exact Ztn W)
 refine Zcd ?_
 refine wp_region_held_drew (S:=fun W=> TrS W g c C T n k j) (by kernel_rfl) (HT0.out.quiet HKd.out).trS (fun hHeld=> ?_)
 refine tkA 0 ?_ (hy:=by intro w hSw; (try dsimp only at hSw); (have q1:=hSw.1);clear hSw;go_simp;try (with_reducible rfl))
 refine tkA 1 ?_
 refine tkA 2 ?_ (hy:=by intro w hSw; (try dsimp only at hSw); (have q1:=hSw.2.cell 6);clear hSw;go_simp;try (with_reducible rfl))
 refine tkA 3 ?_
 refine tkA 4 ?_ (hy:=by intro w hSw; (try dsimp only at hSw); (have q1:=hSw.2.cell 7);clear hSw;go_simp;try (with_reducible rfl))
 have HWd:=zz (show g+4<w1.drew.heap.size from HT0.out.lt)
 generalize w1.drew=wd at*
 refine rd1 5 (fun K hK=> ?_)
 go_simp
 go_at_call 182
 refine(HTn.out wd).mono ?_
 rintro e w2 ⟨t,sv,rfl,h2,k2⟩
 have HT2:=zz ((HT0.out.quiet HKd.out).quiet k2)
 have H2:=zz h2
 clear HTn HT0 HKd h2 k2
 try go_wp2_with fail
 refine hK.out _ _ (HT2.out.trS) (fun hHeld=> ?_)
 clear hK K
 (try simp only [Zpt])
 refine tkA 6 ?_
 refine tkA 7 ?_
 refine tkA 8 ?_
 refine tkA 9 ?_
 refine tkA 10 ?_
 have z19:=HT2.out.tr.cell 19
 have f19:=HT2.out.tr.frozen 19
 have z0:=HT2.out.er_.cell 0
 have f0:=HT2.out.er_.frozen 0
 refine rd1 11 (fun K hK=> ?_)
 go_simp
 try go_wp2_with fail
 refine hK.out _ _ ((HT2.out.tb_ _).trS) (fun hHeld=> ?_)
 clear hK K
 (try simp only [Zpt])
 refine rd1 12 (fun K hK=> ?_)
 go_simp
 try go_wp2_with fail
 refine hK.out _ _ (((HT2.out.tb_ _).err 0).trS) (fun hHeld=> ?_)
 clear hK K
 (try simp only [Zpt])
 refine wpAnyH_done (by kernel_rfl) ?_ _
 refine⟨fun _ e=> (by cases e),?_⟩
 have HT3:=zz ((HT2.out.tb_ (.pointer (some ⟨t,0,none⟩))).err 0)
 have k3:=((Kz0 (fun b=> b=g+3∨b=g+1) w2).setCell (p:=⟨g+3,19,none⟩) (.inl (.inl rfl)) (.pointer (some ⟨t,0,none⟩))).setCell (p:=⟨g+1,0,none⟩) (.inl (.inr rfl)) (.int .i64 0)
 have H3:=zz (H2.out.kept k3 (fun b h1 h2 e=> by have:=HWd.out;omega))
 clear k3 H2 HT2 z19 f19 z0 f0
 generalize World.setCell (World.setCell w2 _ _) _ _=w3 at*
 have z0:=HT3.out.er_.cell 0
 go_upto_region 7 with fail
 clear z0 hHeld
 have HKd:=zz ((Kz0 NO w3).drew)
 have HEn:Hid (∀W,Calls Tryz.prog 183 #[.int .i64 c.exact_] W fun e w'=> e= .returned (.tuple #[.pointer (some ⟨W.heap.size,0,none⟩),.int .i64 0])∧w'=W.alloc (.cells #[.int .i64 0,.slice none 0 0] 365)):=zz (fun W=> by rw [HCf.out.2.2.1];exact Zsv 0 W (by omega) (by omega))
 refine Zcd ?_
 refine wp_region_held_drew (S:=fun W=> TrS W g c C T n k j) (by kernel_rfl) (HT3.out.quiet HKd.out).trS (fun hHeld=> ?_)
 refine tkA 0 ?_ (hy:=by intro w hSw; (try dsimp only at hSw); (have q1:=hSw.1);clear hSw;go_simp;try (with_reducible rfl))
 refine tkA 1 ?_
 refine tkA 2 ?_ (hy:=by intro w hSw; (try dsimp only at hSw); (have q1:=hSw.2.cell 8);clear hSw;go_simp;try (with_reducible rfl))
 have HT3:=zz (HT3.out.quiet HKd.out)
 have H3:=zz (H3.out.quiet HKd.out)
 clear HKd
 generalize w3.drew=wd3 at*
 refine rd1 3 (fun K hK=> ?_)
 go_simp
 go_at_call 183
 refine(HEn.out wd3).mono ?_
 rintro e w4 ⟨rfl,rfl⟩
 have k4:=(Kz0 NO wd3).alloc (.cells #[.int .i64 0,.slice none 0 0] 365)
 have HT4:=zz (HT3.out.quiet k4)
 have H4:=zz (H3.out.quiet k4)
 have HX4:=zz (Blk.new wd3 365 #[.int .i64 0,.slice none 0 0])
 have hgx:Hid (g+4<wd3.heap.size):=zz HT3.out.lt
 have hgt:Hid (t<wd3.heap.size):=zz H3.out.blk.lt
 clear HEn HT3 H3 k4
 generalize wd3.alloc _=w4 at*
 generalize wd3.heap.size=ge at*
 try go_wp2_with fail
 refine hK.out _ _ (HT4.out.trS) (fun hHeld=> ?_)
 clear hK K
 (try simp only [Zpt])
 refine tkA 4 ?_
 refine tkA 5 ?_
 refine tkA 6 ?_
 refine tkA 7 ?_
 refine tkA 8 ?_
 have z19:=HT4.out.tr.cell 20
 have f19:=HT4.out.tr.frozen 20
 have z0:=HT4.out.er_.cell 0
 have f0:=HT4.out.er_.frozen 0
 refine rd1 9 (fun K hK=> ?_)
 go_simp
 try go_wp2_with fail
 refine hK.out _ _ ((HT4.out.ex_ _).trS) (fun hHeld=> ?_)
 clear hK K
 (try simp only [Zpt])
 refine rd1 10 (fun K hK=> ?_)
 go_simp
 try go_wp2_with fail
 refine hK.out _ _ (((HT4.out.ex_ _).err 0).trS) (fun hHeld=> ?_)
 clear hK K
 (try simp only [Zpt])
 refine wpAnyH_done (by kernel_rfl) ?_ _
 refine⟨fun _ e=> (by cases e),?_⟩
 have HT5:=zz ((HT4.out.ex_ (.pointer (some ⟨ge,0,none⟩))).err 0)
 have k5:=((Kz0 (fun b=> b=g+3∨b=g+1) w4).setCell (p:=⟨g+3,20,none⟩) (.inl (.inl rfl)) (.pointer (some ⟨ge,0,none⟩))).setCell (p:=⟨g+1,0,none⟩) (.inl (.inr rfl)) (.int .i64 0)
 have H5:=zz (H4.out.kept k5 (fun b h1 h2 e=> by have:=HWd.out;omega))
 have HX5:=zz (HX4.out.kept k5 (fun e=> by have:=hgx.out;omega))
 clear k5 H4 HT4 HX4 z19 f19 z0 f0
 generalize World.setCell (World.setCell w4 _ _) _ _=w5 at*
 have z0:=HT5.out.er_.cell 0
 go_upto_region 10 with fail
 clear z0
 have HKd:=zz ((Kz0 NO w5).drew)
 have HCn:Hid (∀W,Keeps NO w W→Calls Tryz.prog 184 #[.int .i64 c.depth,.int .i64 c.width,.slice T 16 j,.int .u64 c.seed] W (Ztf W 1 1 ts c.seed)):=zz (fun W kW=> by rw [HCf.out.2.2.2.1,HCf.out.2.2.2.2];exact Zub 1 1 (by omega) (by omega) c.seed HSd.out.1 HSd.out.2 ts HTb.out (HRd.out.kept kW (fun _ _ h=> h)))
 refine Zcd ?_
 refine wp_region_held_drew (S:=fun W=> TrS W g c C T n k j) (by kernel_rfl) (HT5.out.quiet HKd.out).trS (fun hHeld=> ?_)
 refine tkA 0 ?_ (hy:=by intro w hSw; (try dsimp only at hSw); (have q1:=hSw.1);clear hSw;go_simp;try (with_reducible rfl))
 refine tkA 1 ?_
 refine tkA 2 ?_ (hy:=by intro w hSw; (try dsimp only at hSw); (have q1:=hSw.2.cell 10);clear hSw;go_simp;try (with_reducible rfl))
 refine tkA 3 ?_
 refine tkA 4 ?_ (hy:=by intro w hSw; (try dsimp only at hSw); (have q1:=hSw.2.cell 11);clear hSw;go_simp;try (with_reducible rfl))
 refine tkA 5 ?_
 refine tkA 6 ?_ (hy:=by intro w hSw; (try dsimp only at hSw); (have q1:=hSw.2.cell 15);clear hSw;go_simp;try (with_reducible rfl))
 refine tkA 7 ?_
 refine tkA 8 ?_ (hy:=by intro w hSw; (try dsimp only at hSw); (have q1:=hSw.2.cell 16);clear hSw;go_simp;try (with_reducible rfl))
 have HT5:=zz (HT5.out.quiet HKd.out)
 have H5:=zz (H5.out.quiet HKd.out)
 have HX5:=zz (HX5.out.kept HKd.out (fun h=> h))
 clear HKd
 generalize w5.drew=wd5 at*
 refine rd1 9 (fun K hK=> ?_)
 go_simp
 go_at_call 184
 refine(HCn.out wd5 HT5.out.kp).mono ?_
 rintro e w6 ⟨gs,bs,bt,ct,rfl,hsk,hgsb,k6⟩
 have HT6:=zz (HT5.out.quiet k6)
 have H6:=zz (H5.out.quiet k6)
 have HX6:=zz (HX5.out.kept k6 (fun h=> h))
 have HSk:=zz hsk
 have hgl:Hid (g+4<wd5.heap.size):=zz HT5.out.lt
 have hgl2:Hid (ge<wd5.heap.size):=zz HX5.out.lt
 clear HCn HT5 H5 HX5 k6 hsk
 try go_wp2_with fail
 refine hK.out _ _ (HT6.out.trS) (fun hHeld=> ?_)
 clear hK K
 (try simp only [Zpt])
 refine tkA 10 ?_
 refine tkA 11 ?_
 refine tkA 12 ?_
 refine tkA 13 ?_
 refine tkA 14 ?_
 have z19:=HT6.out.tr.cell 21
 have f19:=HT6.out.tr.frozen 21
 have z0:=HT6.out.er_.cell 0
 have f0:=HT6.out.er_.frozen 0
 refine rd1 15 (fun K hK=> ?_)
 go_simp
 try go_wp2_with fail
 refine hK.out _ _ ((HT6.out.sk_ _).trS) (fun hHeld=> ?_)
 clear hK K
 (try simp only [Zpt])
 refine rd1 16 (fun K hK=> ?_)
 go_simp
 try go_wp2_with fail
 refine hK.out _ _ (((HT6.out.sk_ _).err 0).trS) (fun hHeld=> ?_)
 clear hK K
 (try simp only [Zpt])
 refine wpAnyH_done (by kernel_rfl) ?_ _
 refine⟨fun _ e=> (by cases e),?_⟩
 have HT7:=zz ((HT6.out.sk_ (.pointer (some ⟨gs,0,none⟩))).err 0)
 have k7:=((Kz0 (fun b=> b=g+3∨b=g+1) w6).setCell (p:=⟨g+3,21,none⟩) (.inl (.inl rfl)) (.pointer (some ⟨gs,0,none⟩))).setCell (p:=⟨g+1,0,none⟩) (.inl (.inr rfl)) (.int .i64 0)
 have H7:=zz (H6.out.kept k7 (fun b h1 h2 e=> by have:=HWd.out;omega))
 have HX7:=zz (HX6.out.kept k7 (fun e=> by have:=hgx.out;omega))
 have HS7:=zz (HSk.out.kept k7 (fun b h1 h2 e=> by have:=hgl.out;omega))
 have hgl6:g+4<w6.heap.size:=HT6.out.lt
 have hs67:w6.heap.size≤_:=k7.size
 clear k7 H6 HT6 HX6 HSk z19 f19 z0 f0
 generalize World.setCell (World.setCell w6 _ _) _ _=w7 at*
 have z0:=HT7.out.er_.cell 0
 go_upto_region 14 with fail
 clear z0
 have HM:=zz (show TrM NO w w7 g a p c C T n k j (.slice none 0 0) t sv wd.heap.size ge gs bs bt ct wd5.heap.size w6.heap.size ts from⟨HT7.out,H7.out,HX7.out,HS7.out,hgsb,HWd.out,hgt.out,hgl2.out⟩)
 clear HT7 H7 HX7 HS7 hgsb hHeld
 obtain⟨B1,hB1⟩:∃B1,B1=wd.heap.size:=⟨_,rfl⟩
 obtain⟨lo,hlo⟩:∃lo,lo=wd5.heap.size:=⟨_,rfl⟩
 obtain⟨hi,hhi⟩:∃hi,hi=w6.heap.size:=⟨_,rfl⟩
 rw [←hB1,←hlo,←hhi] at HM
 have HgL:Hid (g+4<hi):=zz (by rw [hhi];exact hgl6)
 have HhiL:Hid (hi≤w7.heap.size):=zz (by rw [hhi];exact hs67)
 clear hB1 hlo hhi HWd hgt hgl2 hgl hgx
 have c10:=HM.out.t0.cf.cell 10
 simp only [Zpg] at c10
 rw [HCf.out.2.2.2.1] at c10
 go_upto_region 15 with fail
 go_loopw [70] (fun i wr=> (i= .int .i64 0∧wr=w7)∨(i= .int .i64 1∧∃W1 W2 A cc h1 h2 h3,Keeps NO w W1∧R W1 W2 h1 h2 h3∧TrM (ArS B w) w W2 g a p c C T n k j (.slice none 0 0) t sv B1 ge gs bs bt ct lo hi ts∧TrM (ArS B w) w wr g a p c C T n k j (.slice A 1 cc) t sv B1 ge gs bs bt ct lo hi ts∧Own wr hi 236 3 A 1 cc [.int .i64 h1,.int .i64 h2,.int .i64 h3]∧Keeps (fun b=> b=g+3) W2 wr)) (fun i _=> 1-(intOf i).toNat)
 case atStart=> exact .inl ⟨rfl,rfl⟩
 case round=>
  clear c10
  rcases hrel with ⟨rfl,rfl⟩ | ⟨rfl,W1,W2,A,cc,h1,h2,h3,kw,hR,hm2,hm3,ho,kl⟩
  ·have c11:=HM.out.t0.cf.cell 11
   simp only [Zpg] at c11
   rw [HCf.out.2.2.2.2] at c11
   have HAl:=zz (HA.out wr HM.out.t0.kp)
   have e8:IntKind.i64.wrap 8=8:=by decide
   go_wp2_with fail
   refine HAl.out.mono ?_
   rintro e wA ⟨h1,h2,h3,rfl,hR,kA⟩
   have HR:=zz hR
   have HMA:=zz (HM.out.ars kA)
   have HKw:=zz HM.out.t0.kp
   have hhiA:Hid (hi≤wA.heap.size):=zz (Nat.le_trans HhiL.out kA.size)
   clear HAl e8 c11 hR kA HM
   go_upto_region 19 with fail
   have kX:=(Kz0 NO wA).alloc (.cells #[.int .i64 h1,.int .i64 h2,.int .i64 h3] 236)
   have HX:=zz (Blk.new wA 236 #[.int .i64 h1,.int .i64 h2,.int .i64 h3])
   have HK1:=zz kX
   clear kX
   generalize wA.alloc _=wX at*
   generalize wA.heap.size=gx at*
   have HK2:=zz (HK1.out.drew)
   have HX2:=zz (HX.out.kept (S:=fun _=> False) (Kz0 _ wX).drew (fun h=> h))
   clear HK1 HX
   refine Zcd ?_
   refine Zat (fun i=> i==10) (S:=fun W=> Keeps NO wA W∧W.cell? ⟨g+4,0,none⟩=some (.pointer (some ⟨g+3,0,none⟩))∧W.cell? ⟨g+3,22,none⟩=some (.slice none 0 0)∧Blk W gx 236 #[.int .i64 h1,.int .i64 h2,.int .i64 h3]) (by kernel_rfl) ⟨HK2.out,(HMA.out.quiet HK2.out).t0.pt.cell 0,(HMA.out.quiet HK2.out).t0.tr.cell 22,HX2.out⟩ (fun hHeld=> ?_)
   refine tkB 0 ?_ (hy:=by intro w hSw; (try dsimp only at hSw); (have q1:=hSw.2.1);clear hSw;go_simp;try (with_reducible rfl))
   refine tkB 1 ?_ (hy:=by intro w hSw; (try dsimp only at hSw); (have q1:=hSw.2.1);clear hSw;go_simp;try (with_reducible rfl))
   refine tkB 2 ?_
   refine tkB 3 ?_
   refine tkB 4 ?_ (hy:=by intro w hSw; (try dsimp only at hSw); (have q1:=hSw.2.2.1);clear hSw;go_simp;try (with_reducible rfl))
   refine tkB 5 ?_ (hy:=by intro w hSw; (try dsimp only at hSw); (have q1:=hSw.2.2.2.cell 0;have q2:=hSw.2.2.2.cell 1;have q3:=hSw.2.2.2.cell 2);clear hSw;go_simp;try (with_reducible rfl))
   generalize wX.drew=wd9 at*
   refine Za2 (rs:= [6]) (by kernel_rfl) (by simp) (AllL.cons rfl (fun K hK=> ?_) AllL.nil)
   go_simp
   have kB:=(Kz0 NO wd9).alloc (.cells #[.int .i64 h1,.int .i64 h2,.int .i64 h3] 236)
   have HB:=zz (Blk.new wd9 236 #[.int .i64 h1,.int .i64 h2,.int .i64 h3])
   have HK3:=zz (HK2.out.trans kB)
   have HX3:=zz (HX2.out.kept kB (fun h=> h))
   clear kB HK2 HX2
   generalize wd9.alloc _=wB at*
   generalize wd9.heap.size=gB at*
   try go_wp2_with fail
   refine hK.out _ _ (⟨HK3.out,(HMA.out.quiet HK3.out).t0.pt.cell 0,(HMA.out.quiet HK3.out).t0.tr.cell 22,HX3.out⟩) (fun hHeld=> ?_)
   clear hK K
   (try simp only [Zpt])
   refine Za2 (rs:= [7]) (by kernel_rfl) (by simp) (AllL.cons rfl (fun K hK=> ?_) AllL.nil)
   refine Zao _ Zt2 (by rfl) (.tmp 87) (.tmp 89) (by rfl) hi [] (by simp [Act.eval,Act.put]) (Own.nil _ _ _ _) _ (A2:=some ⟨gB,0,none⟩) (m:=1) (c2:=1) [.int .i64 h1,.int .i64 h2,.int .i64 h3] (by simp [Act.eval,Act.put]) (by exact Blk.rd (sz:=3) (xs:= [.int .i64 h1,.int .i64 h2,.int .i64 h3]) HB.out rfl) (by simp [Value.oneCell']) (by simp only [maxLen];omega) (by omega) (by have:=HX3.out.lt;have:=hhiA.out;omega) ?_
   intro A6 c6 wC o6 k6 hA6
   have k6':Keeps NO wB wC:=k6.weak (fun b hb e=> by obtain⟨_,h,_⟩:=e;cases h)
   have HK4:=zz (HK3.out.trans k6')
   have HX4:=zz (HX3.out.kept k6' (fun h=> h))
   have HO:=zz o6
   clear k6 k6' o6 hA6 HK3 HX3 HB
   refine hK.out _ _ ⟨HK4.out,(HMA.out.quiet HK4.out).t0.pt.cell 0,(HMA.out.quiet HK4.out).t0.tr.cell 22,HX4.out⟩ (fun _=> ?_)
   clear hK K
   (try simp only [Zpt])
   have HMC:=zz (HMA.out.quiet HK4.out)
   have z22:=HMC.out.t0.tr.cell 22
   have f22:=HMC.out.t0.tr.frozen 22
   clear HX4
   refine tkB 8 ?_
   refine tkB 9 ?_
   refine Za2 (rs:= [10]) (by kernel_rfl) (by simp) (AllL.last rfl rfl (fun K hK=> ?_) AllL.nil)
   go_simp
   try go_wp2_with fail
   refine hK.out _ _ ?_
   clear hK K
   refine Zau (by kernel_rfl) ?_ _
   refine⟨fun _ e=> (by cases e),?_⟩
   have HM3:=zz (HMC.out.rows (.slice A6 1 c6))
   have k9:=(Kz0 (fun b=> b=g+3) wC).setCell (p:=⟨g+3,22,none⟩) (.inl rfl) (.slice A6 1 c6)
   have HKl:=zz ((HK4.out.weak (S':=fun b=> b=g+3) (fun _ _ h=> h.elim)).trans k9)
   have HO3:=zz (HO.out.kept k9 (fun b hb e=> by have:=HO.out.inB hb;have:=HgL.out;omega))
   clear k9 z22 f22 HMC HO HK4
   go_wp2_with fail
   go_roundw
   case rel=> exact .inr ⟨rfl,wr,wA,A6,c6,h1,h2,h3,HKw.out,HR.out,HMA.out,HM3.out,HO3.out,HKl.out⟩
   case measure=> simp [intOf]
  ·have HR:=zz hR
   have HM2:=zz hm2
   have HM3:=zz hm3
   have HO:=zz ho
   have HKl:=zz kl
   have HKw:=zz kw
   clear hR hm2 hm3 ho kl kw HM
   have p0:=HM3.out.t0.pt.cell 0
   have e0:=HM3.out.t0.er_.cell 0
   have f0:=HM3.out.t0.er_.frozen 0
   go_wp2_with fail
   have HM4:=zz HM3.out.err
   have k9:=(Kz0 (fun b=> b=g+1) wr).setCell (p:=⟨g+1,0,none⟩) (.inl rfl) (.int .i64 0)
   have HO4:=zz (HO.out.kept k9 (fun b hb e=> by have:=HO.out.inB hb;have:=HgL.out;omega))
   have HK4:=zz ((HKl.out.weak (S':=fun b=> b=g+3∨b=g+1) (fun _ _ h=> .inl h)).trans (k9.weak (fun _ _ h=> .inr h)))
   clear k9 HM3 HO HKl p0 e0 f0
   generalize World.setCell wr _ _=w9 at*
   have r0:=HM4.out.t0.er_.cell 0
   simp only [List.getElem?_toArray,List.getElem?_cons_zero] at r0
   refine leaves_cons (f:=185) (args:= #[.pointer (some ⟨g+1,0,none⟩),.pointer (some ⟨g+4,0,none⟩)]) (by simp) (by simp [go_sem]) ?_
   refine(Zk6 _ _ _ .returning (by simp) r0).mono ?_
   rintro e u' w'' ⟨rfl,rfl,rfl⟩
   refine⟨.tuple #[.pointer (some ⟨g+3,0,none⟩),.int .i64 0],by simp [results,Tryz.results126,go_sem,r0],?_⟩
   exact⟨g,t,sv,B1,ge,gs,bs,bt,ct,lo,hi,W1,W2,A,cc,h1,h2,h3,rfl,HKw.out,HR.out,HM2.out,HM4.out,HO4.out,HK4.out⟩
end Go.Proofs.YtjamiaamngalgaaGreat
