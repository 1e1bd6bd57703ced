/-
  Parts: queue.Pop. No conditions beyond those of the statement.
-/
import Derived.Test.YtjamiaamngalgaaGreatG00
import Derived.Test.YtjamiaamngalgaaGreatG13
import Derived.Test.YtjamiaamngalgaaGreatG28
set_option linter.unusedVariables false
set_option linter.unusedSimpArgs false
set_option maxRecDepth 1000000
set_option maxHeartbeats 4000000
namespace Go.Proofs.YtjamiaamngalgaaGreat
open Go.RowKit Cfp
def Pops (w:World) (B q a p mb G n:Nat) (nk:Int) (sh:List (Int × Int)) (x:Wt) (W:List Wt) (M M2:Int) (e:Ending) (w':World):Prop:=
 e= .returned (.tuple #[.int .i64 x.win,.agg #[.string ⟨x.text.toArray⟩,.int .i64 x.time,.int .u64 x.wgt],.bool true])∧
  (∃(R:List Wt) (E:List PE) (EA:Option Addr) (cap:Nat) (D:KD) (s:Ar) (L:Nat→List Nat),Qu w' B q a p mb G n nk sh W R E EA cap D s L M M2)∧Keeps (QuS B mb w) w w'
theorem Zjz (l:List Wt) (k:Nat):wtCs (l.take k)=(wtCs l).take (k*7):=by
 rcases Nat.lt_or_ge k l.length with h | h
 ·have e:wtCs l=wtCs (l.take k)++wtCs (l.drop k):=by rw [←Zev,List.take_append_drop]
  rw [e,List.take_left' (by rw [Zcc,List.length_take];omega)]
 ·rw [List.take_of_length_le h,List.take_of_length_le (by rw [Zcc];omega)]
theorem Zfj (l:List Wt) (k:Nat):wtCs (l.drop k)=(wtCs l).drop (k*7):=by
 rcases Nat.lt_or_ge k l.length with h | h
 ·have e:wtCs l=wtCs (l.take k)++wtCs (l.drop k):=by rw [←Zev,List.take_append_drop]
  rw [e,List.drop_left' (by rw [Zcc,List.length_take];omega)]
 ·rw [List.drop_of_length_le h,List.drop_of_length_le (by rw [Zcc];omega)]
  rfl
def Rel6 (w:World) (B p a mb:Nat) (nk:Int) (sh:List (Int × Int)) (W:List Wt) (EA:Option Addr) (cap:Nat) (E:List PE) (M M2:Int) (e:Ending) (w':World):Prop:=
 e= .returned (.int .i64 0)∧∃(E':List PE) (D':KD) (s':Ar) (L':Nat→List Nat),IsPo w' B p a nk E' EA cap mb D'∧IsAr w' B a s'∧QInv sh W E' s' L' D' M M2∧cntU E'≤cntU E∧Keeps (PoS B mb w) w w'
theorem Zo0 (w:World) (B q a p mb G n:Nat) (nk:Int) (sh:List (Int × Int)) (x:Wt) (W R:List Wt) (E:List PE) (EA:Option Addr) (cap:Nat) (D:KD) (s:Ar) (L:Nat→List Nat) (M M2:Int)
  (h:Qu w B q a p mb G n nk sh (x :: W) R E EA cap D s L M M2) (hM:M≤900000):
  Calls Tryz.prog 125 #[.pointer (some ⟨q,0,none⟩)] w (Pops w B q a p mb G n nk sh x W M M2):=by
 have kb:=(Kz0 NO w).alloc (.cells #[.string ⟨#[]⟩,.int .i64 0,.int .u64 0] 62)
 have HX:=zz (Blk.new w 62 #[.string ⟨#[]⟩,.int .i64 0,.int .u64 0])
 have H1:=zz (h.quiet kb)
 have K1:=zz kb
 obtain⟨m,hm⟩:∃m,m=(x :: W).length:=⟨_,rfl⟩
 have HM:=zz hm
 have hmn:m≤n:=by have:=h.len;omega
 have hm1:1≤m:=by rw [hm];simp
 have hn64:=h.n64
 have hmq:((m:Int)==0)=false:=by simp;omega
 clear h kb hm
 go_enter Tryz.func125,Tryz.ntmps125
 go_upto_region 1 with fail
 generalize w.alloc _=w1 at*
 obtain⟨X,hXe⟩:∃X,X=w.heap.size:=⟨_,rfl⟩
 rw [←hXe] at HX
 rw [←hXe]
 obtain⟨⟨p0,p1,p2,p3⟩,hpw⟩:=H1.out.qu.cells
 rw [←HM.out] at p3
 have HXe:=zz hXe
 clear hXe
 obtain⟨c0,c1,c2,c3,c4,c5,c6⟩:=H1.out.qu.at (i:=0) (x:=x) (by simp)
 simp only [Nat.zero_mul,Nat.zero_add] at c0 c1 c2 c3 c4 c5 c6
 have hnI:(0:Int)<(n:Int):=by omega
 have hB1:=H1.out.hB
 go_upto_region 4 with fail
 obtain⟨ee,hee,hek,heu,hel1,hel2⟩:=H1.out.iv.users (List.mem_cons_self ..)
 obtain⟨Y,hYe⟩:∃Y,Y=w1.heap.size:=⟨_,rfl⟩
 have HY:=zz (Blk.new_at w1 242 #[.int .i64 x.win,.int .i64 x.time,.int .u64 x.wgt,.int .i64 x.h.1,.int .i64 x.h.2.1,.int .i64 x.h.2.2,.int .i64 x.key] Y hYe)
 have kb:=(Kz0 NO w1).alloc (.cells #[.int .i64 x.win,.int .i64 x.time,.int .u64 x.wgt,.int .i64 x.h.1,.int .i64 x.h.2.1,.int .i64 x.h.2.2,.int .i64 x.key] 242)
 have H2:=zz (H1.out.quiet kb)
 have HX2:=zz (HX.out.kept kb (fun h=> h))
 have K2:=zz (K1.out.trans kb)
 have hYB:B≤Y:=by rw [hYe];exact hB1
 have HEe:=zz hee
 have HEk:=zz hek
 have hGY:G≠Y:=by have:=(H1.out.qu.own.inB ((Za0 _ _ _).2 rfl)).2;omega
 clear kb H1 HX K1 hek
 rw [←hYe]
 generalize w1.alloc _=w2 at*
 clear hYe hee p0 p1 p2 p3 hpw c0 c1 c2 c3 c4 c5 c6 hB1
 obtain⟨⟨p0,p1,p2,p3⟩,hpw⟩:=H2.out.qu.cells
 rw [←HM.out] at p3
 have y0:=HY.out.cell 0
 have y1:=HY.out.cell 1
 have y2:=HY.out.cell 2
 have y3:=HY.out.cell 3
 have y4:=HY.out.cell 4
 have y5:=HY.out.cell 5
 have y6:=HY.out.cell 6
 have hB2:=H2.out.hB
 have HT:Hid (∀wa,Keeps NO w2 wa→Calls Tryz.prog 180 #[.pointer (some ⟨p,0,none⟩),.int .i64 x.key] wa fun e w'=> e= .returned (.tuple #[.string ⟨x.text.toArray⟩,.int .i64 0])∧Keeps NO w2 w'):=zz (fun wa ka=> by
  refine(Zo4 wa B p a mb cap nk E EA D s M M2 L (H2.out.po.quiet ka) (H2.out.ar.quiet ka) H2.out.iv.iv H2.out.iv.pv x.key ee HEe.out heu (by have:=H2.out.iv.pv.len;omega) (Nat.le_trans hB2 ka.size)).mono ?_
  rintro e w' ⟨rfl,k⟩
  exact⟨by rw [HEk.out],ka.trans k⟩)
 have HSg:Hid (∀W,Keeps NO w2 W→(Keeps NO w2 W∧W.cell? ⟨q,1,none⟩=some (.pointer (some ⟨p,0,none⟩))∧W.cell? ⟨Y,6,none⟩=some (.int .i64 x.key))):=zz (fun W kW=> ⟨kW,kW.cell_some p1 (fun h=> h),kW.cell_some y6 (fun h=> h)⟩)
 refine wp_region_held_drew (S:=fun W=> Keeps NO w2 W∧W.cell? ⟨q,1,none⟩=some (.pointer (some ⟨p,0,none⟩))∧W.cell? ⟨Y,6,none⟩=some (.int .i64 x.key)) (by kernel_rfl) (HSg.out _ ((Kz0 _ _).drew)) (fun hHeld=> ?_)
 refine tkH 0 ?_
 refine tkH 1 ?_
 refine tkH 2 ?_
 refine tkH 3 ?_
 refine tkH 4 ?_
 refine tkH 5 ?_
 refine rd1 6 (fun K hK=> ?_)
 go_simp
 go_at_call 180
 refine(HT.out _ ((Kz0 _ _).drew)).mono ?_
 rintro e w3 ⟨rfl,k3⟩
 (try go_wp2_with fail)
 refine hK.out _ _ (HSg.out _ k3) (fun _=> ?_)
 have H3:=zz (H2.out.quiet k3)
 have HX3:=zz (HX2.out.kept k3 (fun h=> h))
 have HY3:=zz (HY.out.kept k3 (fun h=> h))
 have K3:=zz (K2.out.trans k3)
 clear hK K HSg hHeld k3 HT H2 HX2 HY K2 p0 p1 p2 p3 hpw y0 y1 y2 y3 y4 y5 y6
 (try simp only [Zpt])
 refine tkH 7 ?_
 refine tkH 8 ?_
 refine tkH 9 ?_
 refine tkH 10 ?_
 refine tkH 11 ?_
 refine wpAnyH_done (by kernel_rfl) ?_ _
 (try simp only [Zpt])
 go_upto_region 5 with fail
 obtain⟨⟨p0,p1,p2,p3⟩,hpw⟩:=H3.out.qu.cells
 rw [←HM.out] at p3
 have y3:=HY3.out.cell 3
 have y4:=HY3.out.cell 4
 have y5:=HY3.out.cell 5
 have y6:=HY3.out.cell 6
 have hB3:=H3.out.hB
 have HSg:Hid (∀W,Keeps (ArS B w3) w3 W→(Keeps (ArS B w3) w3 W∧W.cell? ⟨q,0,none⟩=some (.pointer (some ⟨a,0,none⟩))∧W.cell? ⟨Y,3,none⟩=some (.int .i64 x.h.1)∧W.cell? ⟨Y,4,none⟩=some (.int .i64 x.h.2.1)∧W.cell? ⟨Y,5,none⟩=some (.int .i64 x.h.2.2))):=zz (fun W kW=> by
  have n1:=ArS.not (B:=B) H3.out.qu.blk (by decide) (by decide) (by decide)
  have n2:=ArS.not (B:=B) HY3.out (by decide) (by decide) (by decide)
  exact⟨kW,kW.cell_some p0 n1,kW.cell_some y3 n2,kW.cell_some y4 n2,kW.cell_some y5 n2⟩)
 refine wp_region_held_drew (S:=fun W=> Keeps (ArS B w3) w3 W∧W.cell? ⟨q,0,none⟩=some (.pointer (some ⟨a,0,none⟩))∧W.cell? ⟨Y,3,none⟩=some (.int .i64 x.h.1)∧W.cell? ⟨Y,4,none⟩=some (.int .i64 x.h.2.1)∧W.cell? ⟨Y,5,none⟩=some (.int .i64 x.h.2.2)) (by kernel_rfl) (HSg.out _ ((Kz0 _ _).drew)) (fun hHeld=> ?_)
 refine tkH 0 ?_
 refine tkH 1 ?_
 refine tkH 2 ?_
 refine tkH 3 ?_
 refine tkH 4 ?_
 refine tkH 5 ?_
 refine rd1 6 (fun K hK=> ?_)
 go_simp
 go_at_call 122
 have kd:Keeps NO w3 w3.drew:=(Kz0 _ _).drew
 refine(Zdr B a s L M2 x.h.1 x.h.2.1 x.h.2.2 [] _ (H3.out.ar.quiet kd) H3.out.iv.iv (H3.out.iv.hs x (List.mem_cons_self ..))).mono ?_
 rintro e w4 ⟨rfl,⟨s4,L4,h4,v4,g4⟩,k4⟩
 have k34:=ArS.quiet kd k4
 have HA4:=zz h4
 have HV4:=zz v4
 have HG4:=zz g4
 have HPv4:=zz (H3.out.iv.gone g4)
 have HIv:=zz H3.out.iv
 have hkn:=zz H3.out.kn
 have HP4:=zz (H3.out.po.ar k34)
 have HQ4:=zz (H3.out.qu.ar k34)
 have HY4:=zz (HY3.out.kept k34 (ArS.not HY3.out (by decide) (by decide) (by decide)))
 have HX4:=zz (HX3.out.kept k34 (ArS.not HX3.out (by decide) (by decide) (by decide)))
 have K4:=zz (QuS.trans (QuS.zero (mb:=mb) (B:=B) K3.out) (QuS.po (mb:=mb) (PoS.ar (mb:=mb) k34)))
 have hB4:=Nat.le_trans hB3 k34.size
 (try go_wp2_with fail)
 refine hK.out _ _ (HSg.out _ k34) (fun _=> ?_)
 clear hK K HSg hHeld kd k4 k34 h4 v4 g4 H3 HY3 HX3 K3 p0 p1 p2 p3 hpw y3 y4 y5 y6
 (try simp only [Zpt])
 refine wpAnyH_done (by kernel_rfl) ?_ _
 (try simp only [Zpt])
 go_upto_region 6 with fail
 obtain⟨⟨p0,p1,p2,p3⟩,hpw⟩:=HQ4.out.cells
 rw [←HM.out] at p3
 have y6:=HY4.out.cell 6
 have HRl:Hid (∀wa,Keeps NO w4 wa→Calls Tryz.prog 181 #[.pointer (some ⟨p,0,none⟩),.int .i64 x.key] wa (Rel6 w4 B p a mb nk sh W EA cap E M M2)):=zz (fun wa ka=> by
  refine(Ze1 wa B p a mb cap nk E EA D s4 M M2 L4 (HP4.out.quiet ka) (HA4.out.quiet ka) HV4.out HPv4.out (by omega) x.key ee HEe.out heu (by have:=HPv4.out.len;omega) (Nat.le_trans hB4 ka.size)).mono ?_
  rintro e w' ⟨he,E',D',s',L',h5,a5,v5,pv5,hw,kk⟩
  rcases hw with ⟨h1,rfl,rfl,rfl⟩ | ⟨h1,rfl,g5,rfl⟩
  ·refine⟨he,_,_,_,_,h5,a5,HIv.out.more HG4.out v5 HEe.out h1 pv5,?_,PoS.quiet ka kk⟩
   have:=Zbo E x.key ee { ee with users:=ee.users-1} HEe.out
   simp only [heu,show(0:Int)<ee.users-1 by omega,if_true] at this
   omega
  ·refine⟨he,_,_,_,_,h5,a5,HIv.out.last HG4.out HEe.out h1 g5 v5 pv5,?_,PoS.quiet ka kk⟩
   have:=Zbo E x.key ee { ee with users:=0} HEe.out
   rw [if_pos heu,if_neg (by show¬(0:Int)<0;omega)] at this
   omega)
 have HSg:Hid (∀W,Keeps (PoS B mb w4) w4 W→(Keeps (PoS B mb w4) w4 W∧W.cell? ⟨q,1,none⟩=some (.pointer (some ⟨p,0,none⟩))∧W.cell? ⟨Y,6,none⟩=some (.int .i64 x.key))):=zz (fun W kW=> by
  have n1:=PoS.not (mb:=mb) (B:=B) HQ4.out.blk (by decide) (by decide) (by decide) (by decide) (by decide)
  have n2:=PoS.not (mb:=mb) (B:=B) HY4.out (by decide) (by decide) (by decide) (by decide) (by decide)
  exact⟨kW,kW.cell_some p1 n1,kW.cell_some y6 n2⟩)
 refine wp_region_held_drew (S:=fun W=> Keeps (PoS B mb w4) w4 W∧W.cell? ⟨q,1,none⟩=some (.pointer (some ⟨p,0,none⟩))∧W.cell? ⟨Y,6,none⟩=some (.int .i64 x.key)) (by kernel_rfl) (HSg.out _ ((Kz0 _ _).drew)) (fun hHeld=> ?_)
 refine tkH 0 ?_
 refine tkH 1 ?_
 refine tkH 2 ?_
 refine tkH 3 ?_
 refine tkH 4 ?_
 refine tkH 5 ?_
 refine rd1 6 (fun K hK=> ?_)
 go_simp
 go_at_call 181
 refine(HRl.out _ ((Kz0 _ _).drew)).mono ?_
 rintro e w5 ⟨rfl,E5,D5,s5,L5,h5,a5,i5,n5,k5⟩
 have HP5:=zz h5
 have HA5:=zz a5
 have HI5:=zz i5
 have HN5:=zz n5
 have HQ5:=zz (HQ4.out.pos k5)
 have HY5:=zz (HY4.out.kept k5 (PoS.not (mb:=mb) HY4.out (by decide) (by decide) (by decide) (by decide) (by decide)))
 have HX5:=zz (HX4.out.kept k5 (PoS.not (mb:=mb) HX4.out (by decide) (by decide) (by decide) (by decide) (by decide)))
 have K5:=zz (QuS.trans K4.out (QuS.po (mb:=mb) k5))
 have hB5:=Nat.le_trans hB4 k5.size
 (try go_wp2_with fail)
 refine hK.out _ _ (HSg.out _ k5) (fun _=> ?_)
 clear hK K HSg hHeld HRl h5 a5 i5 n5 k5 HQ4 HY4 HX4 HP4 HA4 HV4 HPv4 HG4 HIv K4 p0 p1 p2 p3 hpw y6 HEe HEk heu
 (try simp only [Zpt])
 refine wpAnyH_done (by kernel_rfl) ?_ _
 (try simp only [Zpt])
 go_upto_region 7 with fail
 obtain⟨⟨p0,p1,p2,p3⟩,hpw⟩:=HQ5.out.cells
 rw [←HM.out] at p3
 obtain⟨A',hsl,hrd,_⟩:=Zq3 (P:=Tryz.prog) Zqd (some ⟨G,0,none⟩) n n .i64 .i64 1 (m:Int) (by omega) (by omega) (by omega) (Nat.le_refl _)
 rw [show(1:Int).toNat=1 from rfl,Int.toNat_natCast] at hsl hrd
 have HRd:=zz (hrd w5.drew w5.drew.heap.size _ ((HQ5.out.quiet ((Kz0 _ _).drew)).own.rd (by omega)))
 clear hrd
 have HSg:Hid (∀W,Keeps (· =G) w5 W→(Keeps (· =G) w5 W∧W.cell? ⟨q,2,none⟩=some (.slice (some ⟨G,0,none⟩) n n)∧W.cell? ⟨q,3,none⟩=some (.int .i64 m))):=zz (fun W kW=> ⟨kW,kW.cell_some p2 HQ5.out.ne,kW.cell_some p3 HQ5.out.ne⟩)
 refine wp_region_held_drew (S:=fun W=> Keeps (· =G) w5 W∧W.cell? ⟨q,2,none⟩=some (.slice (some ⟨G,0,none⟩) n n)∧W.cell? ⟨q,3,none⟩=some (.int .i64 m)) (by kernel_rfl) (HSg.out _ ((Kz0 _ _).drew)) (fun hHeld=> ?_)
 refine tkH 0 ?_
 refine tkH 1 ?_
 refine tkH 2 ?_
 refine tkH 3 ?_
 refine tkH 4 ?_
 refine tkH 5 ?_
 refine tkH 6 ?_
 refine tkH 7 ?_
 refine tkH 8 ?_
 refine tkH 9 ?_
 refine tkH 10 ?_
 refine tkH 11 ?_
 refine tkH 12 ?_
 refine rd1 13 (fun K hK=> ?_)
 refine Zj2 Zqd rfl (.tmp 51) (.tmp 60) rfl B G n n _ (HQ5.out.quiet ((Kz0 _ _).drew)).own 0 n n ?hd _ (m:=m-1) (c2:=n-1) _ ?hs HRd.out ?h1 (by omega) (by omega) ?_
 case hd=> simp [Act.eval,Act.put]
 case hs=> simp [Act.eval,Act.put]
 case h1=> exact fun u hu=> Znb _ u (List.mem_of_mem_drop (List.mem_of_mem_take hu))
 intro w6 o6 k6
 have k56:Keeps (· =G) w5 w6:=((Kz0 (· =G) w5).drew).trans k6
 have hW:m-1=W.length:=by have:=HM.out;simp at this;omega
 have e6:(wtCs (x :: W++R)).take (0*7)++((wtCs (x :: W++R)).drop (1*7)).take ((m-1)*7)++(wtCs (x :: W++R)).drop ((0+(m-1))*7)=wtCs (W++(x :: W++R).drop W.length):=by
  rw [Nat.zero_mul,List.take_zero,List.nil_append,←Zfj,←Zjz,←Zfj,←Zev,Nat.zero_add,hW]
  simp
 have HO6:=zz (show Own w6 B 242 7 (some ⟨G,0,none⟩) n n (wtCs (W++(x :: W++R).drop W.length)) from by rw [←e6];exact o6)
 have HB6:=zz (HQ5.out.blk.kept k56 HQ5.out.ne)
 have HP6:=zz (HP5.out.kept k56 (fun b hb=> HQ5.out.othP (.inr hb)))
 have HA6:=zz (HA5.out.kept k56 (fun b hb=> HQ5.out.othQ (.inr hb)))
 have HY6:=zz (HY5.out.kept k56 (fun h=> hGY h.symm))
 have HX6:=zz (HX5.out.kept k56 (fun h=> by obtain⟨cs,h4⟩:=HQ5.out.blkG;subst h;exact absurd (Za8 HX5.out h4) (by decide)))
 have K6:=zz (QuS.trans K5.out (k56.weak (S':=QuS B mb w5) (fun b _ hb=> by subst hb;exact HQ5.out.inG)))
 have HLe:=zz HQ5.out.le
 have hB6:=Nat.le_trans hB5 k56.size
 have HW:=zz hW
 refine hK.out _ _ (HSg.out _ k56) (fun _=> ?_)
 clear hK K HSg hHeld k6 k56 o6 e6 hW HQ5 HP5 HA5 HY5 HX5 K5 HRd hsl p0 p1 p2 p3 hpw
 (try simp only [Zpt])
 refine wpAnyH_done (by kernel_rfl) ?_ _
 (try simp only [Zpt])
 have p3:=HB6.out.cell 3
 have p3:w6.cell? ⟨q,3,none⟩=some (.int .i64 (m:Int)):=by rw [HM.out];exact p3
 have f3:=HB6.out.frozen 3
 have hpw:=HB6.out.lt
 have kS:=Zaf w6 q 3 (.int .i64 ((m:Int)-1))
 have HB7:=zz (HB6.out.set 3 (.int .i64 ((m:Int)-1)))
 have hqG:q≠G:=fun e=> by
  obtain⟨cs,h4⟩:=HO6.out.blk (b:=G) ((Za0 _ _ _).2 rfl)
  subst e
  exact absurd (Za8 HB6.out h4) (by decide)
 have HO7:=zz (HO6.out.kept kS (fun b hb e=> by have:=(Za0 _ _ _).1 hb;omega))
 have HP7:=zz (HP6.out.kept kS (fun b hb=> by subst hb;exact .inr ⟨_,_,HB6.out,by decide,by decide⟩))
 have HA7:=zz (HA6.out.kept kS (fun b hb=> by subst hb;exact .inr ⟨_,_,HB6.out,by decide,by decide,by decide,by decide⟩))
 have HY7:=zz (HY6.out.kept kS (fun h=> by subst h;exact absurd (Za8 HY6.out HB6.out) (by decide)))
 have HX7:=zz (HX6.out.kept kS (fun h=> by subst h;exact absurd (Za8 HX6.out HB6.out) (by decide)))
 have K7:=zz (QuS.trans K6.out (kS.weak (S':=QuS B mb w6) (fun b _ hb=> by subst hb;exact .inr ⟨HLe.out,_,_,HB6.out,.inl rfl⟩)))
 have hB7:=Nat.le_trans hB6 kS.size
 clear kS HB6 HO6 HP6 HA6 HY6 HX6 K6
 go_upto_region 9 with fail
 generalize w6.setCell _ _=w7 at*
 have y0:=HY7.out.cell 0
 have y1:=HY7.out.cell 1
 have y2:=HY7.out.cell 2
 obtain⟨⟨x0,x1,x2⟩,⟨g0,g1,g2⟩,hX⟩:=HX7.out.three
 clear p3 f3
 go_region
 have b3:=zz ((HX7.out.set3 (.string ⟨x.text.toArray⟩) (.int .i64 x.time) (.int .u64 x.wgt)).drew)
 have k3:=(Ze4 w7 X (.string ⟨x.text.toArray⟩) (.int .i64 x.time) (.int .u64 x.wgt))
 have hXno:∀b,b=X→Other w7 B b∧OthP w7 B b:=fun b e=> by subst e;exact⟨.inr ⟨_,_,HX7.out,by decide,by decide,by decide,by decide⟩,.inr ⟨_,_,HX7.out,by decide,by decide⟩⟩
 have HB9:=zz ((HB7.out.kept k3 (fun e=> by subst e;exact absurd (Za8 HX7.out HB7.out) (by decide))).drew)
 have HO9:=zz (HO7.out.kept (Keeps.drew k3) (fun b hb e=> by subst e;obtain⟨cs,h4⟩:=HO7.out.blk hb;exact absurd (Za8 HX7.out h4) (by decide)))
 have HP9:=zz ((HP7.out.kept k3 (fun b hb=> (hXno b hb).2)).quiet ((Kz0 NO _).drew))
 have HA9:=zz ((HA7.out.kept k3 (fun b hb=> (hXno b hb).1)).quiet ((Kz0 NO _).drew))
 have K9:=zz (K7.out.step (Keeps.drew k3) (fun b hb e=> by have:=HXe.out;omega))
 have hB9:=Nat.le_trans hB7 (Keeps.drew k3).size
 go_wp2_with fail
 clear k3 hXno
 generalize World.drew _=w9 at*
 have r0:=b3.out.cell 0
 have r1:=b3.out.cell 1
 have r2:=b3.out.cell 2
 have hmw:(m:Int)-1=(W.length:Int):=by have:=HW.out;omega
 refine bodyPost_ret (v:= .tuple #[.int .i64 x.win,.agg #[.string ⟨x.text.toArray⟩,.int .i64 x.time,.int .u64 x.wgt],.bool true]) (by simp [results,Tryz.results125,go_sem,r0,r1,r2]) rfl ?_
 rw [hmw] at HB9
 exact⟨rfl,⟨_,E5,EA,cap,D5,s5,L5,⟨HLe.out,HB9.out,HO9.out⟩,HP9.out,HA9.out,HI5.out,hB9,by have:=HN5.out;have:=hkn.out;omega,hn64⟩,K9.out⟩
end Go.Proofs.YtjamiaamngalgaaGreat
