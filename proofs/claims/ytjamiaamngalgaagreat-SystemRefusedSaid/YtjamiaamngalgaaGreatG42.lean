/-
  Parts: saving of one element: f; saving of one element: A; table of one key by savi; What the arena does leav; A tier. No conditions beyond those of the statement.
-/
import Derived.Test.YtjamiaamngalgaaGreatG41
import Derived.Test.YtjamiaamngalgaaGreatG15
import Derived.Test.YtjamiaamngalgaaGreatG27
import Derived.Test.YtjamiaamngalgaaGreatG02
import Derived.Test.YtjamiaamngalgaaGreatG35
set_option linter.unusedVariables false
set_option linter.unusedSimpArgs false
set_option maxRecDepth 1000000
set_option maxHeartbeats 4000000
namespace Go.Proofs.YtjamiaamngalgaaGreat
open Go.RowKit Cfp
theorem Zr8 (w:World) (B B':Nat) (p:SvP) (t:Int) (h:Sv1 w B B' p none t):Calls Tryz.prog 361 #[.pointer (some ⟨p.s,0,none⟩)] w fun e w'=> e= .returned (.int .i64 0)∧Keeps NO w w':=by
 obtain⟨s,g,gb,gp,x,gt,gc,tc,ge⟩:=p
 have c3:=h.blk.cell 3
 have e0:=h.en.cell 0
 have e1:=h.en.cell 1
 have e2:=h.en.cell 2
 have hge:ge<w.heap.size:=h.en.lt
 dsimp only [svE] at e0 e1 e2 c3
 clear h
 go_enter Tryz.func361,Tryz.ntmps361
 go_wp2_with fail
 go_loopw [13] (fun i wr=> i= .int .i64 0∧wr=w) (fun _ _=> 0)
 case atStart=> exact⟨rfl,rfl⟩
 case round=>
  obtain⟨rfl,rfl⟩:=hrel
  go_wp2_with fail
  go_ret
  exact⟨rfl,(Kz0 _ _).alloc _⟩
theorem Zr1 (w:World) (B B':Nat) (p:SvP) (u:Option (ByteArray × Int)) (t:Int) (h:Sv1 w B B' p u t):Calls Tryz.prog 358 #[.pointer (some ⟨p.s,0,none⟩)] w fun e w'=> e= .returned (.int .u64 0)∧w=w':=by
 obtain⟨s,g,gb,gp,x,gt,gc,tc,ge⟩:=p
 have c4:=h.blk.cell 4
 clear h
 go_enter Tryz.func358,Tryz.ntmps358
 go_wp2_with fail
 go_ret
 exact⟨rfl,rfl⟩
theorem Zty (w:World) (B B':Nat) (p:SvP) (k:ByteArray) (v:Int) (t:Int) (h:Sv1 w B B' p (some (k,v)) t) (hk:k.size≤140737488351232):Calls Tryz.prog 353 #[.pointer (some ⟨p.s,0,none⟩),.string k] w fun e w'=> e= .returned (.tuple #[.agg #[.string k,.int .u64 v,.int .u64 0],.bool true])∧Keeps NO w w':=by
 obtain⟨s,g,gb,gp,x,gt,gc,tc,ge⟩:=p
 have hX:=Blk.new w 263 #[.string ⟨#[]⟩,.int .u64 0,.int .u64 0]
 have kX:=(Kz0 NO w).alloc (.cells #[.string ⟨#[]⟩,.int .u64 0,.int .u64 0] 263)
 have c1:=h.blk.cell 1
 have hsw:s<w.heap.size:=h.blk.lt
 have hge:ge<w.heap.size:=h.en.lt
 have HG:=zz (Zq9 _ B x gt gc tc k 0 ((h.quiet kX).ix) hk)
 have HX:=zz hX
 have HK:=zz kX
 have HH:=zz (h.quiet kX)
 dsimp only at c1
 clear h hX kX
 go_enter Tryz.func353,Tryz.ntmps353
 go_wp2_with fail
 refine HG.out.mono ?_
 rintro e w2 ⟨rfl,k2⟩
 have HX2:=zz (HX.out.kept k2 (fun h=> h))
 have K2:=zz (HK.out.trans k2)
 have H2:=HH.out.quiet k2
 have HKS:Hid (∀W a b c,Keeps NO w W→Keeps NO w (((W.setCell ⟨w.heap.size,0,none⟩ a).setCell ⟨w.heap.size,1,none⟩ b).setCell ⟨w.heap.size,2,none⟩ c)):=zz (fun W a b c k=> ((k.setCell (p:=⟨w.heap.size,0,none⟩) (.inr (Nat.le_refl _)) a).setCell (p:=⟨w.heap.size,1,none⟩) (.inr (Nat.le_refl _)) b).setCell (p:=⟨w.heap.size,2,none⟩) (.inr (Nat.le_refl _)) c)
 clear k2 HX HK HG
 generalize w.heap.size=X at*
 have hne:ge≠X:=by omega
 have hne2:s≠X:=by omega
 have x0:=HX2.out.cell 0
 have x1:=HX2.out.cell 1
 have x2:=HX2.out.cell 2
 have f0:=HX2.out.frozen 0
 have f1:=HX2.out.frozen 1
 have f2:=HX2.out.frozen 2
 have c3:=H2.blk.cell 3
 have e0:=H2.en.cell 0
 have e1:=H2.en.cell 1
 have e2:=H2.en.cell 2
 dsimp only [svE] at c3 e0 e1 e2
 clear H2 HH c1
 go_wp2_with fail
 have b9:=((HX2.out.set 0 (.string k)).set 1 (.int .u64 v)).set 2 (.int .u64 0)
 have r0:=b9.cell 0
 have r1:=b9.cell 1
 have r2:=b9.cell 2
 simp only [List.setIfInBounds_toArray,List.set_cons_zero,List.set_cons_succ,List.getElem?_toArray,List.getElem?_cons_zero,List.getElem?_cons_succ] at r0 r1 r2
 refine bodyPost_ret (v:= .tuple #[.agg #[.string k,.int .u64 v,.int .u64 0],.bool true]) (by simp [results,Tryz.results353,go_sem,r0,r1,r2]) rfl ?_
 exact⟨rfl,HKS.out _ _ _ _ K2.out⟩
open Go.RowKit Cfp
theorem Sv1.total {w:World} {B B':Nat} {p:SvP} {u:Option (ByteArray × Int)} {t:Int} (h:Sv1 w B B' p u t) (v:Int):Sv1 (w.setCell ⟨p.s,5,none⟩ (.int .u64 v)) B B' p u v:=by
 have kE:=(Kz0 (· =p.s) w).setCell (p:=⟨p.s,5,none⟩) (.inl rfl) (.int .u64 v)
 refine⟨h.blk.set 5 (.int .u64 v),fun e=> (h.rk e).kept kE ⟨?_,?_,?_⟩,h.ix.kept kE ⟨?_,?_,?_⟩,h.en.kept kE ?_,h.le,h.lt⟩
 ·exact(h.rk e).blk.ne h.blk (by decide)
 ·obtain⟨cs,h2⟩:=(h.rk e).lb;exact h2.ne h.blk (by decide)
 ·exact(h.rk e).pl.ne h.blk (by decide)
 ·exact h.ix.blk.ne h.blk (by decide)
 ·exact h.ix.tb.ne_blk h.blk (by decide) ((Za0 _ _ _).2 rfl)
 ·exact h.ix.cs.ne h.blk (by decide)
 ·exact h.en.ne h.blk (by decide)
theorem Ztz (w:World) (B B':Nat) (p:SvP) (h:Sv1 w B B' p none 0) (hB:B≤w.heap.size) (k:ByteArray) (hk:k.size≤140737488351232) (hke:(k.toList== [])=false) (v:Int) (v0:0<v) (v1:v≤9223372036854775808):
  Calls Tryz.prog 351 #[.pointer (some ⟨p.s,0,none⟩),.string k,.int .u64 v] w fun e w'=> e= .returned (.int .i64 0)∧Sv1 w' B B' p (some (k,v)) v∧Keeps (fun b=> B≤b∧b<B'∧SvF p b) w w':=by
 obtain⟨s,g,gb,gp,x,gt,gc,tc,ge⟩:=p
 have c5:=h.blk.cell 5
 have c4:=h.blk.cell 4
 have c1:=h.blk.cell 1
 have f5:=h.blk.frozen 5
 have hsw:s<w.heap.size:=h.blk.lt
 have HF:=zz (fun W=> Sat.fits_any 0 v (by omega) (by omega) (by omega) (by omega) W)
 rw [show Sat.fits 0 v=true from by unfold Sat.fits;simp;omega] at HF
 have hev:IntKind.u64.wrap v=v:=by rw [IntKind.wrap_u64];omega
 have hv0:¬v=0:=by omega
 have HH:=zz h
 clear h
 dsimp only at c1
 go_enter Tryz.func351,Tryz.ntmps351
 go_wp2_with fail
 refine(HF.out w).mono ?_
 rintro e w1 ⟨rfl,rfl⟩
 go_upto_region 10 with fail
 have H1:=zz (HH.out.total v)
 have K1:=zz ((Kz0 (fun b=> B≤b∧b<B'∧SvF ⟨s,g,gb,gp,x,gt,gc,tc,ge⟩ b) w).setCell (p:=⟨s,5,none⟩) (.inl ⟨HH.out.le.1,HH.out.lt.1,.inl rfl⟩) (.int .u64 v))
 clear HH c5 c4 c1 f5 HF
 dsimp only at H1
 generalize w.setCell _ _=w1 at*
 have HG:=zz (Zur w1 B x gt gc tc H1.out.ix k hk)
 have c1:=H1.out.blk.cell 1
 dsimp only at c1
 go_wp2_with fail
 refine HG.out.mono ?_
 rintro e w2 ⟨rfl,k2⟩
 have H2:=zz (H1.out.quiet k2)
 have K2:=zz (K1.out.step0 k2)
 clear k2 H1 K1 HG c1
 have HFr:=zz (Zr8 w2 B B' _ v H2.out)
 dsimp only at HFr
 go_wp2_with fail
 refine HFr.out.mono ?_
 rintro e w3 ⟨rfl,k3⟩
 have H3:=zz (H2.out.quiet k3)
 have K3:=zz (K2.out.step0 k3)
 clear k3 H2 K2 HFr
 have HSe:=zz (Ztu w3 B B' _ v H3.out (by have:=K3.out.size;omega) k hk v (by omega) v1)
 have c4:=H3.out.blk.cell 4
 dsimp only at HSe c4
 go_wp2_with fail
 refine HSe.out.mono ?_
 rintro e w4 ⟨rfl,h4,h5,k4⟩
 have HI:=zz h4
 have HE:=zz h5
 have HB4:=zz (H3.out.blk.kept k4 (fun e=> e.2.2.1 rfl))
 have K4:=zz (K3.out.step k4 (fun b hb e=> ⟨e.1,e.2.1,e.2.2.2⟩))
 clear h4 h5 k4 HSe K3 c4
 go_wp2_with fail
 go_ret
 exact⟨rfl,⟨HB4.out,(fun e=> by cases e),HI.out,HE.out,H3.out.le,H3.out.lt⟩,K4.out⟩
theorem Zrb (w:World) (B B':Nat) (p:SvP) (t:Int) (h:Sv1 w B B' p none t):
  Calls Tryz.prog 352 #[.pointer (some ⟨p.s,0,none⟩)] w fun e w'=> e= .returned (.slice none 0 0)∧Keeps NO w w':=by
 obtain⟨s,g,gb,gp,x,gt,gc,tc,ge⟩:=p
 have HK:=zz (Zsb w B x gt gc tc h.ix)
 have c1:=h.blk.cell 1
 dsimp only at c1
 clear h
 go_enter Tryz.func352,Tryz.ntmps352
 go_wp2_with fail
 refine HK.out.mono ?_
 rintro e w1 ⟨rfl,k1⟩
 have K1:=zz k1
 clear k1 HK c1
 go_wp2_with fail
 go_loopw [3,17] (fun o i wr=> o= .slice none 0 0∧i= .int .i64 0∧wr=w1) (fun _ _ _=> 0)
 case atStart=> exact⟨rfl,rfl,rfl⟩
 case round=>
  obtain⟨rfl,rfl,rfl⟩:=hrel
  go_wp2_with fail
  go_ret
  exact⟨rfl,K1.out⟩
theorem Zra (w:World) (B B':Nat) (p:SvP) (t:Int) (k:ByteArray) (v:Int) (h:Sv1 w B B' p (some (k,v)) t) (hk:k.size≤140737488351232):
  Calls Tryz.prog 352 #[.pointer (some ⟨p.s,0,none⟩)] w fun e w'=> ∃A c,e= .returned (.slice A 1 c)∧Own w' w.heap.size 263 3 A 1 c [.string k,.int .u64 v,.int .u64 0]∧Keeps NO w w':=by
 obtain⟨s,g,gb,gp,x,gt,gc,tc,ge⟩:=p
 have HK:=zz (Zsa w B x gt gc tc k 0 h.ix)
 have c1:=h.blk.cell 1
 dsimp only at c1
 have HH:=zz h
 clear h
 go_enter Tryz.func352,Tryz.ntmps352
 go_wp2_with fail
 refine HK.out.mono ?_
 rintro e w1 ⟨A1,d1,rfl,o1,k1⟩
 obtain⟨g1,rfl,l1,m1⟩:=Own.some_ o1 (by omega)
 have K1:=zz k1
 have O1:=zz o1
 have H1:=zz (HH.out.quiet k1)
 clear k1 o1 HK c1 HH
 go_wp2_with fail
 go_loopw [3,17] (fun o i wr=> ((o= .slice none 0 0∧i= .int .i64 0)∨∃(A:Option Addr) (c:Nat),i= .int .i64 1∧o= .slice A 1 c∧Own wr w.heap.size 263 3 A 1 c [.string k,.int .u64 v,.int .u64 0])∧Keeps NO w1 wr) (fun _ i _=> 2-(intOf i).toNat)
 case atStart=> exact⟨.inl ⟨rfl,rfl⟩,Kz0 _ _⟩
 case round=>
  obtain⟨hor,kr⟩:=hrel
  have KR:=zz kr
  have HR:=zz (H1.out.quiet kr)
  have HG:=zz (Zq9 wr B x gt gc tc k 0 HR.out.ix hk)
  have OR:=O1.out.kept kr (fun _ _ h=> h)
  have q0:=OR.cell 0 (by omega)
  simp only [List.getElem?_cons_zero] at q0
  have c1:=HR.out.blk.cell 1
  dsimp only at c1
  clear kr H1 OR
  rcases hor with ⟨rfl,rfl⟩ | ⟨A,c,rfl,rfl,ho⟩
  ·go_wp2_with fail
   refine HG.out.mono ?_
   rintro e w2 ⟨rfl,k2⟩
   have K2:=zz (KR.out.trans k2)
   have H2:=zz (HR.out.quiet k2)
   have c3:=H2.out.blk.cell 3
   have e0:=H2.out.en.cell 0
   have e1:=H2.out.en.cell 1
   have e2:=H2.out.en.cell 2
   have hge:ge<w2.heap.size:=H2.out.en.lt
   dsimp only [svE] at c3 e0 e1 e2
   have hsz:w.heap.size≤w2.heap.size:=(K1.out.trans K2.out).size
   clear HR HG c1 q0 KR k2
   go_wp2_with (at_builtin;refine Za5 _ Zqg rfl (.tmp 31) (.tmp 39) rfl w.heap.size [] rfl (Own.nil _ _ _ _) _ (m:=1) [.string k,.int .u64 v,.int .u64 0] rfl (by exact Blk.rd (sz:=3) (xs:= [.string k,.int .u64 v,.int .u64 0]) (Blk.new_at _ _ _ _ (by simp)) rfl) (by simp [Value.oneCell']) (by simp only [maxLen];omega) (by omega) (by simp;omega) ?_;intro A6 c6 w6 o6 k6 hA6;have O6:=zz o6;have K6:=zz ((K2.out.alloc _).step k6 (fun b hb e=> by obtain⟨_,h,_⟩:=e;cases h));clear o6 k6 hA6)
   go_roundw
   case rel=> exact⟨.inr ⟨A6,c6,rfl,rfl,O6.out⟩,K6.out⟩
   case measure=> simp [intOf]
  ·have HO:=zz ho
   clear ho HG HR
   go_wp2_with fail
   go_ret
   exact⟨A,c,rfl,HO.out,K1.out.trans KR.out⟩
open Go.RowKit Cfp
structure Tb1 (w:World) (B t:Nat) (p:SvP) (u:Option (ByteArray × Int)) (tot:Int):Prop where
 blk:Blk w t 334 #[.iface 358 (.pointer (some ⟨p.s,0,none⟩))]
 sv:Sv1 w B t p u tot
section
variable {w w':World} {B t:Nat} {p:SvP} {u:Option (ByteArray × Int)} {tot:Int} {S:Nat→Prop}
theorem Tb1.kept (h:Tb1 w B t p u tot) (k:Keeps S w w') (hS:∀b,B≤b→b≤t→¬S b):Tb1 w' B t p u tot:=
 ⟨h.blk.kept k (hS t (by have:=h.sv.le.1;have:=h.sv.lt.1;omega) (Nat.le_refl _)),h.sv.kept k (fun b h1 h2=> hS b h1 (by omega))⟩
theorem Tb1.quiet (h:Tb1 w B t p u tot) (k:Keeps NO w w'):Tb1 w' B t p u tot:=h.kept k (fun _ _ _ h=> h)
end
theorem Ztn (w:World):Calls Tryz.prog 182 #[.int .i64 1,.int .i64 1] w fun e w'=> ∃t p,e= .returned (.tuple #[.pointer (some ⟨t,0,none⟩),.int .i64 0])∧Tb1 w' w.heap.size t p none 0∧Keeps NO w w':=by
 go_enter Tryz.func182,Tryz.ntmps182
 go_wp2_with fail
 refine(Ztx w).mono ?_
 rintro e w1 ⟨p,rfl,h1,k1⟩
 have H1:=zz h1
 have K1:=zz k1
 clear h1 k1
 go_wp2_with fail
 go_ret2
 have kA:=(Kz0 NO w1).alloc (.cells #[.iface 358 (.pointer (some ⟨p.s,0,none⟩))] 334)
 exact⟨_,p,rfl,⟨Blk.new w1 _ _,H1.out.quiet kA⟩,K1.out.trans kA⟩
theorem Ztr (w:World) (B t:Nat) (p:SvP) (h:Tb1 w B t p none 0) (hB:B≤w.heap.size) (k:ByteArray) (hk:k.size≤140737488351232) (hke:(k.toList== [])=false) (v:Int) (v0:0<v) (v1:v≤9223372036854775808):
  Calls Tryz.prog 230 #[.pointer (some ⟨t,0,none⟩),.string k,.int .u64 v] w fun e w'=> e= .returned (.int .i64 0)∧Tb1 w' B t p (some (k,v)) v∧Keeps (fun b=> B≤b∧b<t∧SvF p b) w w':=by
 have HA:=zz (Ztz w B t p h.sv hB k hk hke v v0 v1)
 have c0:=h.blk.cell 0
 have HB:=zz h.blk
 clear h
 have hm:∀w,(method 646 358 (.pointer (some ⟨p.s,0,none⟩)) "Add").run Tryz.prog w= .ok (351,.pointer (some ⟨p.s,0,none⟩)) w:=fun _=> by kernel_rfl
 go_enter Tryz.func230,Tryz.ntmps230
 go_wp2_with fail
 refine HA.out.mono ?_
 rintro e w2 ⟨rfl,h2,k2⟩
 have H2:=zz h2
 have K2:=zz k2
 clear h2 k2
 go_wp2_with fail
 go_ret
 exact⟨rfl,⟨HB.out.kept K2.out (fun e=> Nat.lt_irrefl _ e.2.1),H2.out⟩,K2.out⟩
theorem Zqw (w:World) (t s:Nat) (hb:Blk w t 334 #[.iface 358 (.pointer (some ⟨s,0,none⟩))]) (k kk:ByteArray) (vv:Int) (bb:Bool)
  (HA:Hid (∀W,Keeps NO w W→Calls Tryz.prog 353 #[.pointer (some ⟨s,0,none⟩),.string k] W fun e w'=> e= .returned (.tuple #[.agg #[.string kk,.int .u64 vv,.int .u64 0],.bool bb])∧Keeps NO W w')):
  Calls Tryz.prog 231 #[.pointer (some ⟨t,0,none⟩),.string k] w fun e w'=> e= .returned (.tuple #[.agg #[.string kk,.int .u64 vv,.int .u64 0],.bool bb])∧Keeps NO w w':=by
 have HB:=zz hb
 clear hb
 have hm:∀w,(method 646 358 (.pointer (some ⟨s,0,none⟩)) "Get").run Tryz.prog w= .ok (353,.pointer (some ⟨s,0,none⟩)) w:=fun _=> by kernel_rfl
 have c0:=HB.out.cell 0
 have htw:t<w.heap.size:=HB.out.lt
 have HX:=zz (Blk.new w 263 #[.string ⟨#[]⟩,.int .u64 0,.int .u64 0])
 have HK:=zz ((Kz0 NO w).alloc (.cells #[.string ⟨#[]⟩,.int .u64 0,.int .u64 0] 263))
 go_enter Tryz.func231,Tryz.ntmps231
 go_wp2_with fail
 refine(HA.out _ HK.out).mono ?_
 rintro e w2 ⟨rfl,k2⟩
 have HX2:=zz (HX.out.kept k2 (fun h=> h))
 have K2:=zz (HK.out.trans k2)
 have HKS:Hid (∀W a b c,Keeps NO w W→Keeps NO w (((W.setCell ⟨w.heap.size,0,none⟩ a).setCell ⟨w.heap.size,1,none⟩ b).setCell ⟨w.heap.size,2,none⟩ c)):=zz (fun W a b c k=> ((k.setCell (p:=⟨w.heap.size,0,none⟩) (.inr (Nat.le_refl _)) a).setCell (p:=⟨w.heap.size,1,none⟩) (.inr (Nat.le_refl _)) b).setCell (p:=⟨w.heap.size,2,none⟩) (.inr (Nat.le_refl _)) c)
 clear k2 HX HK HA c0 hm HB
 generalize w.heap.size=X at*
 have x0:=HX2.out.cell 0
 have x1:=HX2.out.cell 1
 have x2:=HX2.out.cell 2
 have f0:=HX2.out.frozen 0
 have f1:=HX2.out.frozen 1
 have f2:=HX2.out.frozen 2
 go_wp2_with fail
 have b9:=((HX2.out.set 0 (.string kk)).set 1 (.int .u64 vv)).set 2 (.int .u64 0)
 have r0:=b9.cell 0
 have r1:=b9.cell 1
 have r2:=b9.cell 2
 simp only [List.setIfInBounds_toArray,List.set_cons_zero,List.set_cons_succ,List.getElem?_toArray,List.getElem?_cons_zero,List.getElem?_cons_succ] at r0 r1 r2
 refine bodyPost_ret (v:= .tuple #[.agg #[.string kk,.int .u64 vv,.int .u64 0],.bool bb]) (by simp [results,Tryz.results231,go_sem,r0,r1,r2]) rfl ?_
 exact⟨rfl,HKS.out _ _ _ _ K2.out⟩
theorem Zq0 (w:World) (B t:Nat) (p:SvP) (tot:Int) (k:ByteArray) (v:Int) (h:Tb1 w B t p (some (k,v)) tot) (hk:k.size≤140737488351232):
  Calls Tryz.prog 231 #[.pointer (some ⟨t,0,none⟩),.string k] w fun e w'=> e= .returned (.tuple #[.agg #[.string k,.int .u64 v,.int .u64 0],.bool true])∧Keeps NO w w':=
 Zqw w t p.s h.blk k k v true (zz (fun W kW=> Zty W B t p k v tot (h.sv.quiet kW) hk))
theorem Zqr (w:World) (B t:Nat) (p:SvP) (u:Option (ByteArray × Int)) (tot:Int) (h:Tb1 w B t p u tot):
  Calls Tryz.prog 131 #[.pointer (some ⟨t,0,none⟩)] w fun e w'=> e= .returned (.int .u64 0)∧w=w':=by
 have HA:=zz (Zr1 w B t p u tot h.sv)
 have c0:=h.blk.cell 0
 clear h
 have hm:∀w,(method 646 358 (.pointer (some ⟨p.s,0,none⟩)) "Untracked").run Tryz.prog w= .ok (358,.pointer (some ⟨p.s,0,none⟩)) w:=fun _=> by kernel_rfl
 go_enter Tryz.func131,Tryz.ntmps131
 go_wp2_with fail
 refine HA.out.mono ?_
 rintro e w2 ⟨rfl,rfl⟩
 go_wp2_with fail
 go_ret
 exact⟨rfl,rfl⟩
theorem Zqz (w:World) (B t:Nat) (p:SvP) (tot:Int) (h:Tb1 w B t p none tot):
  Calls Tryz.prog 193 #[.pointer (some ⟨t,0,none⟩)] w fun e w'=> e= .returned (.slice none 0 0)∧Keeps NO w w':=by
 have HA:=zz (Zrb w B t p tot h.sv)
 have c0:=h.blk.cell 0
 clear h
 have hm:∀w,(method 646 358 (.pointer (some ⟨p.s,0,none⟩)) "Entries").run Tryz.prog w= .ok (352,.pointer (some ⟨p.s,0,none⟩)) w:=fun _=> by kernel_rfl
 go_enter Tryz.func193,Tryz.ntmps193
 go_wp2_with fail
 refine HA.out.mono ?_
 rintro e w2 ⟨rfl,k2⟩
 have K2:=zz k2
 clear k2 c0
 go_wp2_with fail
 go_ret
 exact⟨rfl,K2.out⟩
theorem Zqy (w:World) (B t:Nat) (p:SvP) (tot:Int) (k:ByteArray) (v:Int) (h:Tb1 w B t p (some (k,v)) tot) (hk:k.size≤140737488351232):
  Calls Tryz.prog 193 #[.pointer (some ⟨t,0,none⟩)] w fun e w'=> ∃A c,e= .returned (.slice A 1 c)∧Own w' w.heap.size 263 3 A 1 c [.string k,.int .u64 v,.int .u64 0]∧Keeps NO w w':=by
 have HA:=zz (Zra w B t p tot k v h.sv hk)
 have c0:=h.blk.cell 0
 clear h
 have hm:∀w,(method 646 358 (.pointer (some ⟨p.s,0,none⟩)) "Entries").run Tryz.prog w= .ok (352,.pointer (some ⟨p.s,0,none⟩)) w:=fun _=> by kernel_rfl
 go_enter Tryz.func193,Tryz.ntmps193
 go_wp2_with fail
 refine HA.out.mono ?_
 rintro e w2 ⟨A,c,rfl,o2,k2⟩
 have K2:=zz k2
 have O2:=zz o2
 clear k2 o2 c0
 go_wp2_with fail
 go_ret
 exact⟨A,c,rfl,O2.out,K2.out⟩
open Go.RowKit Cfp
section
variable {w w':World} {B B0 B':Nat}
theorem Blk.ars {t:TypeId} {b:Nat} {cs:Array Value} (h:Blk w b t cs) (k:Keeps (ArS B0 w) w w') (h1:t≠144) (h2:t≠147) (h3:t≠306):Blk w' b t cs:=h.kept k (ArS.not h h1 h2 h3)
theorem Own.ars {base n c sz:Nat} {e:TypeId} {A:Option Addr} {xs:List Value} (h:Own w base e sz A n c xs) (k:Keeps (ArS B0 w) w w') (h1:e≠144) (h2:e≠147) (h3:e≠306):Own w' base e sz A n c xs:=by
 refine h.kept k (fun b hb=> ?_)
 obtain⟨cs,hc⟩:=h.blk hb
 exact ArS.not hc h1 h2 h3
theorem Zru {M:Nat} {m:Array MapEntry} {z:Nat} (h:w.heap[M]?=some (.map m z)) (k:Keeps (ArS B0 w) w w'):w'.heap[M]?=some (.map m z):=by
 refine(k.block M (by rcases Nat.lt_or_ge M w.heap.size with h1 | h1; · exact h1
                      ·rw [Array.getElem?_eq_none h1] at h;cases h) (fun⟨_,cs,t,h2,_⟩=> ?_)).trans h
 have:=h.symm.trans h2
 cases this
theorem Sk.ars {lo hi g d n:Nat} {R:Cmp.Rows} {zs:List Int} {seed total:Int} {bs:Nat→Nat} {bt ct:Nat} (h:Sk w lo hi g d n R zs seed total bs bt ct) (k:Keeps (ArS B0 w) w w'):Sk w' lo hi g d n R zs seed total bs bt ct:=by
 obtain⟨⟨cs,hb,hc⟩,h2,h3,h4,h5,h6,h7,h8,h9,h10,h11,h12,h13,h14,h15,xs,h16⟩:=h
 refine⟨⟨cs,hb.ars k (by decide) (by decide) (by decide),hc⟩,fun i hi=> (h2 i hi).ars k (by decide) (by decide) (by decide),?_,h4,h5,h6,h7,h8,h9,h10,h11,h12,h13,h14,h15,xs,h16.ars k (by decide) (by decide) (by decide)⟩
 refine⟨h3.1,fun hn=> ?_⟩
 obtain⟨b,off,e,hb2,hcell⟩:=h3.2 hn
 injection e with e
 injection e with e1 e2
 subst e1 e2
 exact⟨bt,0,rfl,by have:=k.size;omega,fun j u hu=> k.cell_some (hcell j u hu) (ArS.not h16 (by decide) (by decide) (by decide))⟩
theorem Ix1.ars {g gt gc tc:Nat} {u:Option (ByteArray × Int)} (h:Ix1 w B g gt gc tc u) (k:Keeps (ArS B0 w) w w'):Ix1 w' B g gt gc tc u:=
 ⟨h.blk.ars k (by decide) (by decide) (by decide),h.tb.ars k (by decide) (by decide) (by decide),h.cs.ars k (by decide) (by decide) (by decide),h.le⟩
theorem Rk1.ars {g gb gp:Nat} (h:Rk1 w B g gb gp) (k:Keeps (ArS B0 w) w w'):Rk1 w' B g gb gp:=by
 obtain⟨cs,hb⟩:=h.lb
 exact⟨h.blk.ars k (by decide) (by decide) (by decide),h.ls.kept k (fun b e=> by rw [e];exact ArS.not hb (by decide) (by decide) (by decide)),h.pl.ars k (by decide) (by decide) (by decide),h.le⟩
theorem Sv1.ars {p:SvP} {u:Option (ByteArray × Int)} {t:Int} (h:Sv1 w B B' p u t) (k:Keeps (ArS B0 w) w w'):Sv1 w' B B' p u t:=
 ⟨h.blk.ars k (by decide) (by decide) (by decide),fun e=> (h.rk e).ars k,h.ix.ars k,h.en.ars k (by decide) (by decide) (by decide),h.le,h.lt⟩
theorem Tb1.ars {t:Nat} {p:SvP} {u:Option (ByteArray × Int)} {tot:Int} (h:Tb1 w B t p u tot) (k:Keeps (ArS B0 w) w w'):Tb1 w' B t p u tot:=
 ⟨h.blk.ars k (by decide) (by decide) (by decide),h.sv.ars k⟩
end
open Go.RowKit Cfp
abbrev trC (c:Cfg) (C T:Option Addr) (n k j:Nat) (a p:Nat) (tb ex sk rw hd:Value):Array Value:=
 #[.pointer (some ⟨a,0,none⟩),.pointer (some ⟨p,0,none⟩),.int .i64 c.length,.int .i64 c.lateness,.int .i64 c.windows,.int .i64 c.shards,.int .i64 c.spread,.int .i64 c.queue,.int .i64 c.mode,.int .i64 c.slots,.int .i64 c.exact_,.int .u64 c.promote,.int .i64 c.depth,.int .i64 c.width,.int .i64 c.top,.int .i64 c.key,.slice C n k,.slice T 16 j,.int .u64 c.seed,tb,ex,sk,rw,hd]
structure Tr0 (S:Nat→Prop) (w w1:World) (g a p:Nat) (c:Cfg) (C T:Option Addr) (n k j:Nat) (tb ex sk rw:Value) (er:Int):Prop where
 cf:Blk w1 g 27 (cfC c C n k T 16 j)
 er_:Blk w1 (g+1) 31 #[.int .i64 er]
 mp:w1.heap[g+2]?=some (.map #[] 0)
 tr:Blk w1 (g+3) 258 (trC c C T n k j a p tb ex sk rw (.map (some (g+2))))
 pt:Blk w1 (g+4) 177 #[.pointer (some ⟨g+3,0,none⟩)]
 kp:Keeps S w w1
 hg:g=w.heap.size
section
variable {w w1 w2:World} {g a p:Nat} {c:Cfg} {C T:Option Addr} {n k j:Nat} {tb ex sk rw:Value} {er:Int} {S:Nat→Prop}
theorem Tr0.lt (h:Tr0 S w w1 g a p c C T n k j tb ex sk rw er):g+4<w1.heap.size:=h.pt.lt
theorem Tr0.quiet (h:Tr0 S w w1 g a p c C T n k j tb ex sk rw er) (kk:Keeps NO w1 w2):Tr0 S w w2 g a p c C T n k j tb ex sk rw er:=
 ⟨h.cf.kept kk (fun h=> h),h.er_.kept kk (fun h=> h),(kk.block _ (by have:=h.lt;omega) (fun h=> h)).trans h.mp,h.tr.kept kk (fun h=> h),h.pt.kept kk (fun h=> h),h.kp.step0 kk,h.hg⟩
theorem Tr0.tb_ (h:Tr0 S w w1 g a p c C T n k j tb ex sk rw er) (v:Value):Tr0 S w (w1.setCell ⟨g+3,19,none⟩ v) g a p c C T n k j v ex sk rw er:=by
 have kk:=(Kz0 (· =g+3) w1).setCell (p:=⟨g+3,19,none⟩) (.inl rfl) v
 exact⟨h.cf.kept kk (by omega),h.er_.kept kk (by omega),(kk.block _ (by have:=h.lt;omega) (by omega)).trans h.mp,h.tr.set 19 v,h.pt.kept kk (by omega),h.kp.setCell (p:=⟨g+3,19,none⟩) (.inr (by have:=h.hg;show w.heap.size≤g+3;omega)) v,h.hg⟩
theorem Tr0.ex_ (h:Tr0 S w w1 g a p c C T n k j tb ex sk rw er) (v:Value):Tr0 S w (w1.setCell ⟨g+3,20,none⟩ v) g a p c C T n k j tb v sk rw er:=by
 have kk:=(Kz0 (· =g+3) w1).setCell (p:=⟨g+3,20,none⟩) (.inl rfl) v
 exact⟨h.cf.kept kk (by omega),h.er_.kept kk (by omega),(kk.block _ (by have:=h.lt;omega) (by omega)).trans h.mp,h.tr.set 20 v,h.pt.kept kk (by omega),h.kp.setCell (p:=⟨g+3,20,none⟩) (.inr (by have:=h.hg;show w.heap.size≤g+3;omega)) v,h.hg⟩
theorem Tr0.sk_ (h:Tr0 S w w1 g a p c C T n k j tb ex sk rw er) (v:Value):Tr0 S w (w1.setCell ⟨g+3,21,none⟩ v) g a p c C T n k j tb ex v rw er:=by
 have kk:=(Kz0 (· =g+3) w1).setCell (p:=⟨g+3,21,none⟩) (.inl rfl) v
 exact⟨h.cf.kept kk (by omega),h.er_.kept kk (by omega),(kk.block _ (by have:=h.lt;omega) (by omega)).trans h.mp,h.tr.set 21 v,h.pt.kept kk (by omega),h.kp.setCell (p:=⟨g+3,21,none⟩) (.inr (by have:=h.hg;show w.heap.size≤g+3;omega)) v,h.hg⟩
theorem Tr0.err (h:Tr0 S w w1 g a p c C T n k j tb ex sk rw er) (v:Int):Tr0 S w (w1.setCell ⟨g+1,0,none⟩ (.int .i64 v)) g a p c C T n k j tb ex sk rw v:=by
 have kk:=(Kz0 (· =g+1) w1).setCell (p:=⟨g+1,0,none⟩) (.inl rfl) (.int .i64 v)
 exact⟨h.cf.kept kk (by omega),h.er_.set 0 (.int .i64 v),(kk.block _ (by have:=h.lt;omega) (by omega)).trans h.mp,h.tr.kept kk (by omega),h.pt.kept kk (by omega),h.kp.setCell (p:=⟨g+1,0,none⟩) (.inr (by have:=h.hg;show w.heap.size≤g+1;omega)) _,h.hg⟩
theorem Tr0.rw_ (h:Tr0 S w w1 g a p c C T n k j tb ex sk rw er) (v:Value):Tr0 S w (w1.setCell ⟨g+3,22,none⟩ v) g a p c C T n k j tb ex sk v er:=by
 have kk:=(Kz0 (· =g+3) w1).setCell (p:=⟨g+3,22,none⟩) (.inl rfl) v
 exact⟨h.cf.kept kk (by omega),h.er_.kept kk (by omega),(kk.block _ (by have:=h.lt;omega) (by omega)).trans h.mp,h.tr.set 22 v,h.pt.kept kk (by omega),h.kp.setCell (p:=⟨g+3,22,none⟩) (.inr (by have:=h.hg;show w.heap.size≤g+3;omega)) v,h.hg⟩
theorem Tr0.ars {B0:Nat} (h:Tr0 NO w w1 g a p c C T n k j tb ex sk rw er) (kk:Keeps (ArS B0 w1) w1 w2):Tr0 (ArS B0 w) w w2 g a p c C T n k j tb ex sk rw er:=
 ⟨h.cf.ars kk (by decide) (by decide) (by decide),h.er_.ars kk (by decide) (by decide) (by decide),Zru h.mp kk,h.tr.ars kk (by decide) (by decide) (by decide),h.pt.ars kk (by decide) (by decide) (by decide),ArS.quiet h.kp kk,h.hg⟩
abbrev TrS (W:World) (g:Nat) (c:Cfg) (C T:Option Addr) (n k j:Nat):Prop:=W.cell? ⟨g+4,0,none⟩=some (.pointer (some ⟨g+3,0,none⟩))∧Blk W g 27 (cfC c C n k T 16 j)
theorem Tr0.trS (h:Tr0 S w w1 g a p c C T n k j tb ex sk rw er):TrS w1 g c C T n k j:=⟨h.pt.cell 0,h.cf⟩
end
structure TrM (S:Nat→Prop) (w W:World) (g a p:Nat) (c:Cfg) (C T:Option Addr) (n k j:Nat) (rw:Value) (t:Nat) (sv:SvP) (B1 ge gs:Nat) (bs:Nat→Nat) (bt ct lo hi:Nat) (ts:List Int):Prop where
 t0:Tr0 S w W g a p c C T n k j (.pointer (some ⟨t,0,none⟩)) (.pointer (some ⟨ge,0,none⟩)) (.pointer (some ⟨gs,0,none⟩)) rw 0
 tb:Tb1 W B1 t sv none 0
 ex:Blk W ge 365 #[.int .i64 0,.slice none 0 0]
 sk:Sk W lo hi gs 1 1 (Cmp.news 1 1) ts c.seed 0 bs bt ct
 sb:gs≠bt
 o1:g+4<B1
 o2:t<ge
 o3:ge<lo
section
variable {w w1 w2:World} {g a p:Nat} {c:Cfg} {C T:Option Addr} {n k j:Nat} {rw:Value} {S:Nat→Prop} {t:Nat} {sv:SvP} {B1 ge gs:Nat} {bs:Nat→Nat} {bt ct lo hi:Nat} {ts:List Int}
theorem TrM.quiet (h:TrM S w w1 g a p c C T n k j rw t sv B1 ge gs bs bt ct lo hi ts) (kk:Keeps NO w1 w2):TrM S w w2 g a p c C T n k j rw t sv B1 ge gs bs bt ct lo hi ts:=
 ⟨h.t0.quiet kk,h.tb.quiet kk,h.ex.kept kk (fun h=> h),h.sk.kept kk (fun _ _ _ h=> h),h.sb,h.o1,h.o2,h.o3⟩
theorem TrM.ars {B0:Nat} (h:TrM NO w w1 g a p c C T n k j rw t sv B1 ge gs bs bt ct lo hi ts) (kk:Keeps (ArS B0 w1) w1 w2):TrM (ArS B0 w) w w2 g a p c C T n k j rw t sv B1 ge gs bs bt ct lo hi ts:=
 ⟨h.t0.ars kk,h.tb.ars kk,h.ex.ars kk (by decide) (by decide) (by decide),h.sk.ars kk,h.sb,h.o1,h.o2,h.o3⟩
theorem TrM.rows (h:TrM S w w1 g a p c C T n k j rw t sv B1 ge gs bs bt ct lo hi ts) (v:Value):TrM S w (w1.setCell ⟨g+3,22,none⟩ v) g a p c C T n k j v t sv B1 ge gs bs bt ct lo hi ts:=by
 have kk:=(Kz0 (· =g+3) w1).setCell (p:=⟨g+3,22,none⟩) (.inl rfl) v
 have o1:=h.o1
 have o2:=h.o2
 have o3:=h.o3
 have o4:=h.tb.sv.le.1
 have o5:=h.tb.sv.lt.1
 exact⟨h.t0.rw_ v,h.tb.kept kk (fun b h1 h2 e=> by omega),h.ex.kept kk (by omega),h.sk.kept kk (fun b h1 h2 e=> by omega),h.sb,o1,o2,o3⟩
theorem TrM.err (h:TrM S w w1 g a p c C T n k j rw t sv B1 ge gs bs bt ct lo hi ts):TrM S w (w1.setCell ⟨g+1,0,none⟩ (.int .i64 0)) g a p c C T n k j rw t sv B1 ge gs bs bt ct lo hi ts:=by
 have kk:=(Kz0 (· =g+1) w1).setCell (p:=⟨g+1,0,none⟩) (.inl rfl) (.int .i64 0)
 have o1:=h.o1
 have o2:=h.o2
 have o3:=h.o3
 have o4:=h.tb.sv.le.1
 have o5:=h.tb.sv.lt.1
 exact⟨h.t0.err 0,h.tb.kept kk (fun b h1 h2 e=> by omega),h.ex.kept kk (by omega),h.sk.kept kk (fun b h1 h2 e=> by omega),h.sb,o1,o2,o3⟩
end
end Go.Proofs.YtjamiaamngalgaaGreat
