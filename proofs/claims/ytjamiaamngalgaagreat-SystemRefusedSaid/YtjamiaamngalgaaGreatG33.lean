/-
  Parts: report.Encode of a repor; report.reader: number, w; report.reader.line. No conditions beyond those of the statement.
-/
import Derived.Test.YtjamiaamngalgaaGreatG00
import Derived.Test.YtjamiaamngalgaaGreatG27
import Derived.Test.YtjamiaamngalgaaGreatG16
import Derived.Test.YtjamiaamngalgaaGreatG25
set_option linter.unusedVariables false
set_option linter.unusedSimpArgs false
set_option maxRecDepth 1000000
set_option maxHeartbeats 4000000
namespace Go.Proofs.YtjamiaamngalgaaGreat
open Go.RowKit Vp
def repB (key:ByteArray):List UInt8:=(((encs [0,5,0,1,0]++encs [0,0,0,0,0,0])++encs [1])++(enc key.size++key.data.toList))++encs [5,0]
def Zw9 (w:World) (key:ByteArray) (e:Ending) (w':World):Prop:=
 ∃A n c,e= .returned (.tuple #[.slice A n c,.int .i64 0])∧Own w' w.heap.size 5 1 A n c ((repB key).map by8)∧Keeps NO w w'
theorem Zdc (zs:List Int) (m:Nat) (h:zs.length≤m):(encs zs).length≤m*10:=by
 have:=Zik zs
 omega
abbrev rpF (b off cL JB cj:Nat):Array Value:=rpC 0 5 (some ⟨b,off,none⟩) 1 cL 0 1 0 (some ⟨JB,0,none⟩) 7 cj
theorem Zu5 (w:World) (b off cL JB cj BJ:Nat) (key:ByteArray) (h:Ln1 w b off key 5 5) (hj:Own w BJ 23 1 (some ⟨JB,0,none⟩) 7 cj ((List.replicate 7 (0:Int)).map (.int .u64))) (hke:(key.toList== [])=false) (hk:key.size≤255):
  Calls Tryz.prog 212 #[rpV 0 5 (some ⟨b,off,none⟩) 1 cL 0 1 0 (some ⟨JB,0,none⟩) 7 cj] w (Zw9 w key):=by
 have kX:=(Kz0 NO w).alloc (.cells (rpF b off cL JB cj) 91)
 have HX:=zz (Blk.new w 91 (rpF b off cL JB cj))
 have HCk:=zz (Zi2 _ b off cL JB 0 cj key (h.kept kX (fun h=> h)) (kX.cell_some (hj.cell 0 (by omega)) (fun h=> h)) hke hk)
 have HL:=zz (fun W (kW:Keeps NO w W)=> h.kept kW (fun h=> h))
 have HJ:=zz (fun W (kW:Keeps NO w W)=> hj.kept kW (fun _ _ h=> h))
 have hcj:=Own.le hj
 have KX:=zz kX
 clear h hj kX
 go_enter Tryz.func212,Tryz.ntmps212
 go_upto_region 1 with fail
 obtain⟨X,hX⟩:∃X,X=w.heap.size:=⟨_,rfl⟩
 have HXw:=zz (Nat.le_of_eq hX.symm)
 rw [←hX] at HX ⊢
 generalize w.alloc _=w1 at*
 clear hX
 have p0:=HX.out.cell 0
 have p1:=HX.out.cell 1
 have p2:=HX.out.cell 2
 have p3:=HX.out.cell 3
 have p4:=HX.out.cell 4
 have p5:=HX.out.cell 5
 have p6:=HX.out.cell 6
 go_wp2_with fail
 refine HCk.out.mono ?_
 rintro e w2 ⟨rfl,k2⟩
 have HX2:=zz (HX.out.kept k2 (fun h=> h))
 have K2:=zz (KX.out.trans k2)
 clear k2 p0 p1 p2 p3 p4 p5 p6 HX KX HCk
 go_upto_region 5 with fail
 have kY:=(Kz0 NO w2).alloc (.cells #[.slice none 0 0] 407)
 have HBY:=zz (Blk.new w2 407 #[.slice none 0 0])
 have HX3:=zz (HX2.out.kept kY (fun h=> h))
 have K3:=zz (K2.out.trans kY)
 have hX2:=HX2.out.lt
 have hw2:=K2.out.size
 clear kY HX2 K2
 generalize w2.alloc _=w3 at*
 generalize hY:w2.heap.size=Y at*
 have hXY:¬X=Y:=by omega
 have hYw:w.heap.size≤Y:=by omega
 have HE3:=zz (show IsEn w3 w.heap.size Y [] from⟨none,0,0,HBY.out,Own.nil _ _ _ _⟩)
 clear HBY hY hX2 hw2
 have hw0:IntKind.u64.wrap 0=0:=by decide
 have hw1:IntKind.u64.wrap 1=1:=by decide
 have HE4:=zz (HE3.out.quiet ((Kz0 NO w3).drew))
 have HX4:=zz (HX3.out.kept ((Kz0 NO w3).drew) (fun h=> h))
 have K4:=zz (K3.out.drew)
 clear HE3 HX3 K3
 refine wp_region_held_drew (S:=fun W=> Blk W X 91 (rpF b off cL JB cj)) (by kernel_rfl) HX4.out (fun hHeld=> ?_)
 refine tkA 0 ?_
 refine tkA 1 ?_
 refine tkA 2 ?_
 refine tkA 3 ?_
 refine tkA 4 ?_ (hy:=by intro w hSw; (try dsimp only at hSw); (have q1:=hSw.cell 0);clear hSw;go_simp;try (with_reducible rfl))
 refine tkA 5 ?_
 refine tkA 6 ?_
 refine tkA 7 ?_ (hy:=by intro w hSw; (try dsimp only at hSw); (have q1:=hSw.cell 1);clear hSw;go_simp;try (with_reducible rfl))
 refine tkA 8 ?_
 refine tkA 9 ?_ (hy:=by intro w hSw; (try dsimp only at hSw); (have q1:=hSw.cell 3);clear hSw;go_simp;try (with_reducible rfl))
 refine tkA 10 ?_
 refine tkA 11 ?_ (hy:=by intro w hSw; (try dsimp only at hSw); (have q1:=hSw.cell 4);clear hSw;go_simp;try (with_reducible rfl))
 refine tkA 12 ?_
 refine tkA 13 ?_
 refine tkA 14 ?_ (hy:=by intro w hSw; (try dsimp only at hSw); (have q1:=hSw.cell 5);clear hSw;go_simp;try (with_reducible rfl))
 generalize w3.drew=w4 at*
 refine rd1 15 (fun K hK=> ?_)
 go_simp
 have kA:=(Kz0 NO w4).alloc (.cells #[.int .u64 0,.int .u64 5,.int .u64 0,.int .u64 1,.int .u64 0] 23)
 have HN:=zz (Blk.new w4 23 #[.int .u64 0,.int .u64 5,.int .u64 0,.int .u64 1,.int .u64 0])
 have HE5:=zz (HE4.out.quiet kA)
 have HX5:=zz (HX4.out.kept kA (fun h=> h))
 have K5:=zz (K4.out.trans kA)
 have hYg:Y<w4.heap.size:=by obtain⟨_,_,_,hb,_⟩:=HE4.out;exact hb.lt
 clear kA HE4 HX4 K4
 generalize w4.alloc _=w5 at*
 generalize w4.heap.size=G at*
 try go_wp2_with fail
 refine hK.out _ _ (HX5.out) (fun hHeld=> ?_)
 clear hK K
 (try simp only [Zpt])
 refine rd1 16 (fun K hK=> ?_)
 go_simp
 go_at_call 264
 refine(Zeb w5 w.heap.size Y _ (by simp) HE5.out (Nat.le_trans (by exact Nat.le_refl _) K5.out.size) (some ⟨G,0,none⟩) 5 5 [0,5,0,1,0] (by intro z hz;simp at hz;omega) (by omega) rfl (fun W kW=> ((HN.out.kept kW (by omega)).rd (xs:= [.int .u64 0,.int .u64 5,.int .u64 0,.int .u64 1,.int .u64 0]) (sz:=1) (n:=5) rfl))).mono ?_
 rintro e w6 ⟨rfl,he,kn⟩
 have HE6:=zz he
 have HX6:=zz (HX5.out.kept kn hXY)
 have K6:=zz (K5.out.step kn (fun b hb e=> by omega))
 clear he kn
 clear HE5 HX5 K5 HN hYg
 rw [List.nil_append] at HE6
 try go_wp2_with fail
 refine hK.out _ _ (HX6.out) (fun hHeld=> ?_)
 clear hK K
 (try simp only [Zpt])
 refine wpAnyH_done (by kernel_rfl) ?_ _
 go_upto_region 6 with fail
 obtain⟨DJ,hsJ,hrJ,hiJ⟩:=Zcr Zmh (some ⟨JB,0,none⟩) 7 cj .i64 1 (by omega) (by omega) hcj
 have RJ:=zz (fun W (kW:Keeps NO w W)=> show Rd W W.heap.size DJ 1 6 (([0,0,0,0,0,0]:List Int).map (.int .u64)) from hrJ _ _ _ ((HJ.out W kW).rd (by omega)))
 clear hrJ hiJ
 have HE7:=zz (HE6.out.quiet ((Kz0 NO w6).drew))
 have HX7:=zz (HX6.out.kept ((Kz0 NO w6).drew) (fun h=> h))
 have K7:=zz (K6.out.drew)
 clear HE6 HX6 K6
 refine wp_region_held_drew (S:=fun W=> Blk W X 91 (rpF b off cL JB cj)) (by kernel_rfl) HX7.out (fun hHeld=> ?_)
 refine tkA 0 ?_
 refine tkA 1 ?_
 refine tkA 2 ?_
 refine tkA 3 ?_
 refine tkA 4 ?_ (hy:=by intro w hSw; (try dsimp only at hSw); (have q1:=hSw.cell 6);clear hSw;go_simp;try (with_reducible rfl))
 refine tkA 5 ?_
 generalize w6.drew=w7 at*
 refine rd1 6 (fun K hK=> ?_)
 go_simp
 go_at_call 264
 refine(Zeb w7 w.heap.size Y _ (by have:=Zdc [0,5,0,1,0] 5 (by simp);omega) HE7.out (Nat.le_trans (by exact Nat.le_refl _) K7.out.size) DJ 6 (cj-1) [0,0,0,0,0,0] (by intro z hz;simp at hz;omega) (by omega) rfl (fun W kW=> RJ.out W (K7.out.step kW (fun b hb e=> by omega)))).mono ?_
 rintro e w8 ⟨rfl,he,kn⟩
 have HE8:=zz he
 have HX8:=zz (HX7.out.kept kn hXY)
 have K8:=zz (K7.out.step kn (fun b hb e=> by omega))
 clear he kn
 clear HE7 HX7 K7 RJ
 try go_wp2_with fail
 refine hK.out _ _ (HX8.out) (fun hHeld=> ?_)
 clear hK K
 (try simp only [Zpt])
 refine wpAnyH_done (by kernel_rfl) ?_ _
 clear hsJ
 go_upto_region 7 with fail
 have HE9:=zz (HE8.out.quiet ((Kz0 NO w8).drew))
 have HX9:=zz (HX8.out.kept ((Kz0 NO w8).drew) (fun h=> h))
 have K9:=zz (K8.out.drew)
 clear HE8 HX8 K8
 refine wp_region_held_drew (S:=fun W=> Blk W X 91 (rpF b off cL JB cj)) (by kernel_rfl) HX9.out (fun hHeld=> ?_)
 refine tkA 0 ?_
 refine tkA 1 ?_
 refine tkA 2 ?_
 refine tkA 3 ?_
 refine tkA 4 ?_ (hy:=by intro w hSw; (try dsimp only at hSw); (have q1:=hSw.cell 2);clear hSw;go_simp;try (with_reducible rfl))
 refine tkA 5 ?_
 refine tkA 6 ?_
 generalize w8.drew=w9 at*
 refine rd1 7 (fun K hK=> ?_)
 go_simp
 have kA:=(Kz0 NO w9).alloc (.cells #[.int .u64 1] 23)
 have HN:=zz (Blk.new w9 23 #[.int .u64 1])
 have HE10:=zz (HE9.out.quiet kA)
 have HX10:=zz (HX9.out.kept kA (fun h=> h))
 have K10:=zz (K9.out.trans kA)
 have hYg:Y<w9.heap.size:=by obtain⟨_,_,_,hb,_⟩:=HE9.out;exact hb.lt
 clear kA HE9 HX9 K9
 generalize w9.alloc _=w10 at*
 generalize w9.heap.size=G at*
 try go_wp2_with fail
 refine hK.out _ _ (HX10.out) (fun hHeld=> ?_)
 clear hK K
 (try simp only [Zpt])
 refine rd1 8 (fun K hK=> ?_)
 go_simp
 go_at_call 264
 refine(Zeb w10 w.heap.size Y _ (by rw [List.length_append];have:=Zdc [0,5,0,1,0] 5 (by simp);have:=Zdc [0,0,0,0,0,0] 6 (by simp);omega) HE10.out (Nat.le_trans (by exact Nat.le_refl _) K10.out.size) (some ⟨G,0,none⟩) 1 1 [1] (by intro z hz;simp at hz;omega) (by omega) rfl (fun W kW=> ((HN.out.kept kW (by omega)).rd (xs:= [.int .u64 1]) (sz:=1) (n:=1) rfl))).mono ?_
 rintro e w11 ⟨rfl,he,kn⟩
 have HE11:=zz he
 have HX11:=zz (HX10.out.kept kn hXY)
 have K11:=zz (K10.out.step kn (fun b hb e=> by omega))
 clear he kn
 clear HE10 HX10 K10 HN hYg
 try go_wp2_with fail
 refine hK.out _ _ (HX11.out) (fun hHeld=> ?_)
 clear hK K
 (try simp only [Zpt])
 refine wpAnyH_done (by kernel_rfl) ?_ _
 have p2:=HX11.out.cell 2
 go_upto_region 9 with fail
 clear hw0 hw1
 have hl1:Hid (((encs [0,5,0,1,0]++encs [0,0,0,0,0,0])++encs [1]).length≤120):=zz (by
  rw [List.length_append,List.length_append];have:=Zdc [0,5,0,1,0] 5 (by simp);have:=Zdc [0,0,0,0,0,0] 6 (by simp);have:=Zdc [1] 1 (by simp);omega)
 obtain⟨L1,hL1⟩:∃L1,L1=((encs [0,5,0,1,0]++encs [0,0,0,0,0,0])++encs [1]):=⟨_,rfl⟩
 rw [←hL1] at HE11 hl1
 have HL1:=zz hL1
 clear hL1
 go_loopw [51] (fun iv wr=> (iv= .int .i64 0∧wr=w11)∨(iv= .int .i64 1∧Hid (IsEn wr w.heap.size Y ((L1++(enc key.size++key.data.toList))++encs [5,0])∧Keeps NO w wr))) (fun iv _=> 1-(intOf iv).toNat)
 case atStart=> exact .inl ⟨rfl,rfl⟩
 case round=>
  rcases hrel with ⟨rfl,rfl⟩ | ⟨rfl,HR⟩
  ·have hl:=HL.out _ K11.out
   have l0:=hl.c0
   have l1:=hl.c1
   have l2:=hl.c2
   clear hl
   go_upto_region 11 with fail
   have kZ:=(Kz0 NO wr).alloc (.cells #[.string key,.int .u64 5,.int .u64 5] 139)
   have HZ:=zz (Blk.new wr 139 #[.string key,.int .u64 5,.int .u64 5])
   have HE12:=zz (HE11.out.quiet kZ)
   have K12:=zz (K11.out.trans kZ)
   have hYr:Y<wr.heap.size:=by obtain⟨_,_,_,hb,_⟩:=HE11.out;exact hb.lt
   clear kZ HE11 HX11 K11 l0 l1 l2 p2
   generalize wr.alloc _=w12 at*
   generalize wr.heap.size=Z at*
   have hYZ:¬Z=Y:=by omega
   have HE13:=zz (HE12.out.quiet ((Kz0 NO w12).drew))
   have HZ13:=zz (HZ.out.kept ((Kz0 NO w12).drew) (fun h=> h))
   have K13:=zz (K12.out.drew)
   clear HE12 HZ K12
   refine wp_region_held_drew (S:=fun W=> Blk W Z 139 #[.string key,.int .u64 5,.int .u64 5]) (by kernel_rfl) HZ13.out (fun hHeld=> ?_)
   refine tkA 0 ?_
   refine tkA 1 ?_
   refine tkA 2 ?_
   refine tkA 3 ?_
   refine tkA 4 ?_ (hy:=by intro w hSw; (try dsimp only at hSw); (have q1:=hSw.cell 0);clear hSw;go_simp;try (with_reducible rfl))
   generalize w12.drew=w13 at*
   refine rd1 5 (fun K hK=> ?_)
   go_simp
   go_at_call 265
   refine(Zpj w13 w.heap.size Y L1 (by have:=hl1.out;omega) HE13.out K13.out.size key (by omega)).mono ?_
   rintro e w14 ⟨rfl,he,k14⟩
   have HE14:=zz he
   have HZ14:=zz (HZ13.out.kept k14 (by
    rintro(h | ⟨_,cs,h⟩)
    ·exact hYZ h
    ·exact HZ13.out.ne h (by decide) rfl))
   have K14:=zz (K13.out.step k14 (fun b hb e=> by
    rcases e with h | ⟨h,_⟩
    ·omega
    ·omega))
   clear he k14 HE13 HZ13 K13
   try go_wp2_with fail
   refine hK.out _ _ (HZ14.out) (fun hHeld=> ?_)
   clear hK K
   (try simp only [Zpt])
   refine wpAnyH_done (by kernel_rfl) ?_ _
   go_upto_region 12 with fail
   have hw0:IntKind.u64.wrap 0=0:=by decide
   have HE15:=zz (HE14.out.quiet ((Kz0 NO w14).drew))
   have HZ15:=zz (HZ14.out.kept ((Kz0 NO w14).drew) (fun h=> h))
   have K15:=zz (K14.out.drew)
   clear HE14 HZ14 K14
   refine wp_region_held_drew (S:=fun W=> Blk W Z 139 #[.string key,.int .u64 5,.int .u64 5]) (by kernel_rfl) HZ15.out (fun hHeld=> ?_)
   refine tkA 0 ?_
   refine tkA 1 ?_
   refine tkA 2 ?_
   refine tkA 3 ?_
   refine tkA 4 ?_ (hy:=by intro w hSw; (try dsimp only at hSw); (have q1:=hSw.cell 1);clear hSw;go_simp;try (with_reducible rfl))
   refine tkA 5 ?_
   refine tkA 6 ?_ (hy:=by intro w hSw; (try dsimp only at hSw); (have q1:=hSw.cell 2);clear hSw;go_simp;try (with_reducible rfl))
   refine tkA 7 ?_
   refine tkA 8 ?_ (hy:=by intro w hSw; (try dsimp only at hSw); (have q1:=hSw.cell 1);clear hSw;go_simp;try (with_reducible rfl))
   refine tkA 9 ?_
   generalize w14.drew=w15 at*
   refine rd1 10 (fun K hK=> ?_)
   go_simp
   have kA:=(Kz0 NO w15).alloc (.cells #[.int .u64 5,.int .u64 0] 23)
   have HN:=zz (Blk.new w15 23 #[.int .u64 5,.int .u64 0])
   have HE16:=zz (HE15.out.quiet kA)
   have HZ16:=zz (HZ15.out.kept kA (fun h=> h))
   have K16:=zz (K15.out.trans kA)
   have hYg:Y<w15.heap.size:=by obtain⟨_,_,_,hb,_⟩:=HE15.out;exact hb.lt
   clear kA HE15 HZ15 K15
   generalize w15.alloc _=w16 at*
   generalize w15.heap.size=G2 at*
   try go_wp2_with fail
   refine hK.out _ _ (HZ16.out) (fun hHeld=> ?_)
   clear hK K
   (try simp only [Zpt])
   refine rd1 11 (fun K hK=> ?_)
   go_simp
   go_at_call 264
   refine(Zeb w16 w.heap.size Y _ (by
    rw [List.length_append,List.length_append]
    have h1:=hl1.out
    have h2:=(Zae key.size).2
    have h3:key.data.toList.length=key.size:=by rw [Array.length_toList];rfl
    omega) HE16.out K16.out.size (some ⟨G2,0,none⟩) 2 2 [5,0] (by intro z hz;simp at hz;omega) (by omega) rfl (fun W kW=> ((HN.out.kept kW (by omega)).rd (xs:= [.int .u64 5,.int .u64 0]) (sz:=1) (n:=2) rfl))).mono ?_
   rintro e w17 ⟨rfl,he,kn⟩
   have HE17:=zz he
   have HZ17:=zz (HZ16.out.kept kn hYZ)
   have K17:=zz (K16.out.step kn (fun b hb e=> by omega))
   clear he kn HE16 HZ16 K16 HN hYg
   try go_wp2_with fail
   refine hK.out _ _ (HZ17.out) (fun hHeld=> ?_)
   clear hK K
   (try simp only [Zpt])
   refine wpAnyH_done (by kernel_rfl) ?_ _
   go_wp2_with fail
   go_roundw
   case rel=> exact .inr ⟨rfl,zz ⟨HE17.out,K17.out⟩⟩
   case measure=> simp [intOf]
  ·obtain⟨⟨A,nA,cA,hb,ho⟩,kk⟩:=HR.out
   have c0:=hb.cell 0
   have HO:=zz ho
   have HKk:=zz kk
   clear hb ho kk HR
   go_wp2_with fail
   go_ret2
   exact⟨A,nA,cA,rfl,by unfold repB;rw [←HL1.out];exact HO.out,HKk.out⟩
open Go.RowKit Vp
def IsRr (w:World) (B X:Nat) (s:List UInt8):Prop:=
 ∃(A:Option Addr) (n c:Nat),Blk w X 217 #[.slice A n c,.int .i64 0]∧Rd w B A 1 n (s.map by8)∧n≤c∧n≤1000000∧B≤X
theorem IsRr.kept {w w':World} {B X:Nat} {s:List UInt8} {S:Nat→Prop} (h:IsRr w B X s) (k:Keeps S w w') (hX:¬S X) (hS:∀b,b<B→¬S b):IsRr w' B X s:=by
 obtain⟨A,n,c,h1,h2,h3⟩:=h
 exact⟨A,n,c,h1.kept k hX,h2.kept k hS,h3⟩
theorem IsRr.quiet {w w':World} {B X:Nat} {s:List UInt8} (h:IsRr w B X s) (k:Keeps NO w w'):IsRr w' B X s:=h.kept k (fun h=> h) (fun _ _ h=> h)
theorem IsRr.lt {w:World} {B X:Nat} {s:List UInt8} (h:IsRr w B X s):X<w.heap.size:=by
 obtain⟨A,n,c,h1,h2⟩:=h
 exact h1.lt
theorem IsRr.le {w:World} {B X:Nat} {s:List UInt8} (h:IsRr w B X s):B≤X:=by
 obtain⟨A,n,c,h1,h2,h3,h4,h5⟩:=h
 exact h5
theorem Zdz (w:World) (B X:Nat) (s:List UInt8) (x:Nat) (most:Int) (ov:Int) (h:IsRr w B X (enc x++s)) (hx:x<18446744073709551616) (hm:(x:Int)≤most) (hm2:most<18446744073709551616):
  Calls Tryz.prog 104 #[.pointer (some ⟨X,0,none⟩),.int .u64 most,.int .i64 ov] w fun e w'=> e= .returned (.int .u64 x)∧IsRr w' B X s∧Keeps (· =X) w w':=by
 obtain⟨A,n,c,hb,hr,hnc,hn,hBX⟩:=h
 have hl:(enc x++s).length=n:=by simpa using hr.1
 have c0:w.cell? ⟨X,0,none⟩=some (.slice A n c):=hb.cell 0
 have c1:w.cell? ⟨X,1,none⟩=some (.int .i64 0):=hb.cell 1
 have f1:=hb.frozen 1
 have f0:=hb.frozen 0
 have HV:Hid (∀W,Keeps NO w W→Calls Tryz.prog 111 #[.slice A n c] W fun e w'=> e= .returned (.tuple #[.int .u64 x,.int .i64 (enc x).length,.int .i64 0])∧W=w'):=zz (fun W kW=> by
  have h1:=Varint.read_any (enc x++s) A n c B W (hr.kept kW (fun _ _ h=> h)) (by omega)
  unfold Varint.out at h1
  rw [Zc4 x hx] at h1
  exact h1)
 have hle:(enc x).length≤n:=by rw [List.length_append] at hl;omega
 have hk:((enc x++s).map by8).drop ((enc x).length*1)=s.map by8:=by rw [Nat.mul_one,←List.map_drop];simp
 have HK:=zz hk
 obtain⟨ln,hln⟩:∃ln,ln=(enc x).length:=⟨_,rfl⟩
 rw [←hln] at HV hle
 rw [←hln] at HK
 obtain⟨A',hsl,hsr,_⟩:=Zcr (P:=Tryz.prog) Zbu A n c .i64 (ln:Int) (by omega) (by omega) hnc
 rw [Int.toNat_natCast] at hsl hsr
 have HS:=zz (fun(W:World) (kW:Keeps (· =X) w W)=> (by
  have:=hsr W B _ (hr.kept kW (fun b hb e=> by omega))
  rw [HK.out] at this
  exact this:Rd W B A' 1 (n-ln) (s.map by8)))
 have HB:=zz hb
 clear hb hr hsr hl hk hln HK
 go_enter Tryz.func104,Tryz.ntmps104
 go_wp2_with fail
 go_at_call 111
 refine(HV.out _ (by first | exact Kz0 _ _ | exact(Kz0 _ _).drew | exact(Kz0 _ _).drewN _)).mono ?_
 rintro e w1 ⟨rfl,rfl⟩
 go_wp2_with fail
 go_region
 have kS:Keeps (· =X) w (((w.setCell ⟨X,1,none⟩ (.int .i64 0)).setCell ⟨X,0,none⟩ (.slice A' (n-ln) (c-ln))).drew):=((Kz0 (· =X) w).setCell (p:=⟨X,1,none⟩) (.inl rfl) _).setCell (p:=⟨X,0,none⟩) (.inl rfl) _ |>.drew
 have HB2:=zz (show Blk (((w.setCell ⟨X,1,none⟩ (.int .i64 0)).setCell ⟨X,0,none⟩ (.slice A' (n-ln) (c-ln))).drew) X 217 #[.slice A' (n-ln) (c-ln),.int .i64 0] from
  ((HB.out.set 1 (.int .i64 0)).set 0 (.slice A' (n-ln) (c-ln))).kept ((Kz0 NO _).drew) (fun h=> h))
 have HR2:=zz (HS.out _ kS)
 have KS:=zz kS
 clear kS HB HS HV c0 c1 f0 f1 hsl
 generalize World.drew _=w2 at*
 have c1:=HB2.out.cell 1
 go_wp2_with fail
 go_ret
 exact⟨rfl,⟨A',n-ln,c-ln,HB2.out,HR2.out,by omega,by omega,hBX⟩,KS.out⟩
theorem Zbf (w:World) (B X:Nat) (s:List UInt8) (x:Nat) (h:IsRr w B X (enc x++s)) (hx:x<18446744073709551616):
  Calls Tryz.prog 105 #[.pointer (some ⟨X,0,none⟩)] w fun e w'=> e= .returned (.int .u64 x)∧IsRr w' B X s∧Keeps (· =X) w w':=by
 have HN:=zz (Zdz w B X s x 18446744073709551615 1 h hx (by omega) (by omega))
 clear h
 go_enter Tryz.func105,Tryz.ntmps105
 go_wp2_with fail
 refine HN.out.mono ?_
 rintro e w1 ⟨rfl,h1,k1⟩
 go_wp2_with fail
 go_ret
 exact⟨rfl,h1,k1⟩
open Go.RowKit Vp
theorem IsRr.len {w:World} {B X:Nat} {s:List UInt8} (h:IsRr w B X s):s.length≤1000000:=by
 obtain⟨A,n,c,h1,h2,h3,h4,h5⟩:=h
 have:=h2.1
 simp at this
 omega
theorem Zkq (w:World) (B X:Nat) (r:List UInt8) (key:ByteArray) (h:IsRr w B X (enc key.size++(key.data.toList++(enc 5++(enc 0++r))))) (hk:key.size≤255):
  Calls Tryz.prog 106 #[.pointer (some ⟨X,0,none⟩)] w fun e w'=> e= .returned (.agg #[.string key,.int .u64 5,.int .u64 5])∧IsRr w' B X r∧Keeps (· =X) w w':=by
 have wk:IntKind.i64.wrap (key.size:Int)=key.size:=by rw [IntKind.wrap_i64];omega
 have hXw:=h.lt
 have hBX:=h.le
 have kR:=(Kz0 NO w).alloc (.cells #[.string ⟨#[]⟩,.int .u64 0,.int .u64 0] 139)
 have HR:=zz (Blk.new w 139 #[.string ⟨#[]⟩,.int .u64 0,.int .u64 0])
 have HE:=zz (h.quiet kR)
 have K:=zz (kR.weak (S':=(· =X)) (fun _ _ h=> h.elim))
 clear h kR
 go_enter Tryz.func106,Tryz.ntmps106
 go_upto_region 1 with fail
 obtain⟨R,hR⟩:∃R,R=w.heap.size:=⟨_,rfl⟩
 have HRw:=zz (Nat.le_of_eq hR.symm)
 rw [←hR] at HR ⊢
 generalize w.alloc _=w1 at*
 clear hR
 go_wp2_with fail
 refine(Zdz w1 B X _ key.size 255 4 HE.out (by omega) (by omega) (by omega)).mono ?_
 rintro e w2 ⟨rfl,h2,k2⟩
 have HR2:=zz (HR.out.kept k2 (by have:=HRw.out;omega))
 have K2:=zz (K.out.trans k2)
 clear k2 HR K HE
 have hlen:=h2.len
 obtain⟨A,n,c,hb,hr,hnc,hn,_⟩:=h2
 have hln:(key.data.toList++(enc 5++(enc 0++r))).length=n:=by simpa using hr.1
 rw [List.length_append,Zc2] at hln
 have hkn:key.size≤n:=by omega
 have c0:w2.cell? ⟨X,0,none⟩=some (.slice A n c):=hb.cell 0
 have c1:w2.cell? ⟨X,1,none⟩=some (.int .i64 0):=hb.cell 1
 have f0:=hb.frozen 0
 have e1:decide ((n:Int)<(key.size:Int))=false:=by simp;omega
 obtain⟨A1,hsl1,hsr1,_⟩:=Zq4 (P:=Tryz.prog) Zbu A n c .i64 (key.size:Int) (by omega) (by omega) hnc
 obtain⟨A2,hsl2,hsr2,_⟩:=Zcr (P:=Tryz.prog) Zbu A n c .i64 (key.size:Int) (by omega) (by omega) hnc
 rw [Int.toNat_natCast] at hsl1 hsr1 hsl2 hsr2
 have hcv:(convert 57 9 (.slice A1 key.size c)).run Tryz.prog w2= .ok (.string key) w2:=by
  have rr:=hsr1 w2 B _ hr
  have e:((key.data.toList++(enc 5++(enc 0++r))).map by8).take (key.size*1)=key.data.toList.map by8:=by
   rw [Nat.mul_one,←List.map_take]
   congr 1
   rw [←Zc2 key]
   simp
  rw [e] at rr
  exact Zea rr
 have HRd:=zz (show Rd w2 B A2 1 (n-key.size) ((enc 5++(enc 0++r)).map by8) from by
  have rr:=hsr2 w2 B _ hr
  have e:((key.data.toList++(enc 5++(enc 0++r))).map by8).drop (key.size*1)=(enc 5++(enc 0++r)).map by8:=by
   rw [Nat.mul_one,←List.map_drop]
   congr 1
   rw [←Zc2 key]
   simp
  rw [e] at rr
  exact rr)
 have HB:=zz hb
 clear hb hr hsr1 hsr2 hln hlen
 go_upto_region 6 with fail
 go_upto_region 7 with fail
 have kA:=(Kz0 NO w2).alloc (.cells #[.string key,.int .u64 0,.int .u64 0] 139)
 have HL3:=zz (Blk.new w2 139 #[.string key,.int .u64 0,.int .u64 0])
 have HR3:=zz (HR2.out.kept kA (fun h=> h))
 have HB3:=zz (HB.out.kept kA (fun h=> h))
 have HRd3:=zz (HRd.out.kept kA (fun _ _ h=> h))
 have K3:=zz (K2.out.trans (kA.weak (S':=(· =X)) (fun _ _ h=> h.elim)))
 have hR2:=HR2.out.lt
 have hw2:=K2.out.size
 have hX2:=HB.out.lt
 clear kA HR2 HB HRd K2 hcv hsl1 c0 c1 f0
 generalize w2.alloc _=w3 at*
 generalize hL:w2.heap.size=L at*
 have hLX:¬L=X:=by omega
 have hLR:¬L=R:=by omega
 have hwL:w.heap.size≤L:=by omega
 clear hL hR2 hw2 hX2
 have c0:=HB3.out.cell 0
 have c1:=HB3.out.cell 1
 have f0:=HB3.out.frozen 0
 go_upto_region 8 with fail
 have kS:Keeps (· =X) w3 (w3.setCell ⟨X,0,none⟩ (.slice A2 (n-key.size) (c-key.size))):=(Kz0 (· =X) w3).setCell (p:=⟨X,0,none⟩) (.inl rfl) _
 have HE4:=zz (show IsRr (w3.setCell ⟨X,0,none⟩ (.slice A2 (n-key.size) (c-key.size))) B X (enc 5++(enc 0++r)) from
  ⟨A2,n-key.size,c-key.size,HB3.out.set 0 _,HRd3.out.kept kS (fun b hb e=> by omega),by omega,by omega,hBX⟩)
 have HL4:=zz (HL3.out.kept kS hLX)
 have HR4:=zz (HR3.out.kept kS (by have:=HRw.out;omega))
 have K4:=zz (K3.out.trans kS)
 clear kS HB3 HRd3 HL3 HR3 K3 hsl2 c0 c1 f0
 generalize w3.setCell _ _=w4 at*
 go_wp2_with fail
 refine(Zbf w4 B X _ 5 HE4.out (by omega)).mono ?_
 rintro e w5 ⟨rfl,h5,k5⟩
 have HE5:=zz h5
 have HL5:=zz (HL4.out.kept k5 hLX)
 have HR5:=zz (HR4.out.kept k5 (by have:=HRw.out;omega))
 have K5:=zz (K4.out.trans k5)
 clear h5 k5 HE4 HL4 HR4 K4
 have f1:=HL5.out.frozen 1
 have g1:=HL5.out.cell 1
 go_upto_region 9 with fail
 have kS:Keeps (· =L) w5 (w5.setCell ⟨L,1,none⟩ (.int .u64 5)):=(Kz0 (· =L) w5).setCell (p:=⟨L,1,none⟩) (.inl rfl) _
 have HE6:=zz (HE5.out.kept kS (fun h=> hLX h.symm) (fun b hb e=> by have:=HE5.out.lt;omega))
 have HL6:=zz (HL5.out.set 1 (.int .u64 5))
 have HR6:=zz (HR5.out.kept kS (fun h=> hLR h.symm))
 have K6:=zz (K5.out.step kS (fun b hb e=> by omega))
 clear kS HE5 HL5 HR5 K5 f1 g1
 generalize w5.setCell _ _=w6 at*
 go_wp2_with fail
 refine(Zbf w6 B X _ 0 HE6.out (by omega)).mono ?_
 rintro e w7 ⟨rfl,h7,k7⟩
 have HE7:=zz h7
 have HL7:=zz (HL6.out.kept k7 hLX)
 have HR7:=zz (HR6.out.kept k7 (by have:=HRw.out;omega))
 have K7:=zz (K6.out.trans k7)
 clear h7 k7 HE6 HL6 HR6 K6
 have g1:=HL7.out.cell 1
 have hA:=Sat.add_yes (a:=5) (b:=0) (by omega)
 have HSa:=zz (fun W=> Sat.add_any 5 0 (by omega) (by omega) (by omega) (by omega) W)
 rw [hA.1,hA.2] at HSa
 clear hA
 go_wp2_with fail
 go_at_call 71
 refine(HSa.out _).mono ?_
 rintro e w8 ⟨rfl,rfl⟩
 obtain⟨A8,n8,d8,hb8,hr8⟩:=HE7.out
 have c1:=hb8.cell 1
 clear hb8 hr8 g1 HSa
 have f2:=HL7.out.frozen 2
 have g2:=HL7.out.cell 2
 go_upto_region 14 with fail
 have kS:Keeps (· =L) w7 (w7.setCell ⟨L,2,none⟩ (.int .u64 5)):=(Kz0 (· =L) w7).setCell (p:=⟨L,2,none⟩) (.inl rfl) _
 have HE9:=zz (HE7.out.kept kS (fun h=> hLX h.symm) (fun b hb e=> by have:=HE7.out.lt;omega))
 have HL9:=zz (HL7.out.set 2 (.int .u64 5))
 have HR9:=zz (HR7.out.kept kS (fun h=> hLR h.symm))
 have K9:=zz (K7.out.step kS (fun b hb e=> by omega))
 clear kS HE7 HL7 HR7 K7 f2 g2 c1
 generalize w7.setCell _ _=w9 at*
 have l0:=HL9.out.cell 0
 have l1:=HL9.out.cell 1
 have l2:=HL9.out.cell 2
 have z0:=HR9.out.frozen 0
 have z1:=HR9.out.frozen 1
 have z2:=HR9.out.frozen 2
 have r0:=HR9.out.cell 0
 have r1:=HR9.out.cell 1
 have r2:=HR9.out.cell 2
 simp only [List.setIfInBounds_toArray,List.set_cons_zero,List.set_cons_succ,List.getElem?_toArray,List.getElem?_cons_zero,List.getElem?_cons_succ] at l0 l1 l2
 go_wp2_with fail
 have bX:=((HR9.out.set 0 (.string key)).set 1 (.int .u64 5)).set 2 (.int .u64 5)
 have kY:=(((Kz0 (· =R) w9).setCell (p:=⟨R,0,none⟩) (.inl rfl) (.string key)).setCell (p:=⟨R,1,none⟩) (.inl rfl) (.int .u64 5)).setCell (p:=⟨R,2,none⟩) (.inl rfl) (.int .u64 5)
 have s0:=bX.cell 0
 have s1:=bX.cell 1
 have s2:=bX.cell 2
 simp only [List.setIfInBounds_toArray,List.set_cons_zero,List.set_cons_succ,List.getElem?_toArray,List.getElem?_cons_zero,List.getElem?_cons_succ] at s0 s1 s2
 have hRw:=HRw.out
 refine bodyPost_ret (v:= .agg #[.string key,.int .u64 5,.int .u64 5]) (by simp [results,Tryz.results106,go_sem,s0,s1,s2]) rfl ?_
 exact⟨rfl,HE9.out.kept kY (by omega) (fun b hb e=> by omega),K9.out.step kY (fun b hb e=> by omega)⟩
end Go.Proofs.YtjamiaamngalgaaGreat
