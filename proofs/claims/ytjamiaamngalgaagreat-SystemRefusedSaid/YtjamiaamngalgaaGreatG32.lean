/-
  Parts: merge.Total, merge.Keys; merge.Line's closure, of; merge.Line of one summar; merge.All, merge.Check. No conditions beyond those of the statement.
-/
import Derived.Test.YtjamiaamngalgaaGreatG29
import Derived.Test.YtjamiaamngalgaaGreatG15
import Derived.Test.YtjamiaamngalgaaGreatG31
import Derived.Test.YtjamiaamngalgaaGreatG00
import Derived.Test.YtjamiaamngalgaaGreatG27
import Derived.Test.YtjamiaamngalgaaGreatG09
import Derived.Test.YtjamiaamngalgaaGreatG08
set_option linter.unusedVariables false
set_option linter.unusedSimpArgs false
set_option maxRecDepth 1000000
set_option maxHeartbeats 4000000
namespace Go.Proofs.YtjamiaamngalgaaGreat
open Go.RowKit Cfp
structure OneS (w:World) (B g:Nat) (tot un:Int) (A:Option Addr) (cA:Nat) (R:Option Addr) (cR:Nat) (x:Ln) (F:Zaq):Prop where
 c0:w.cell? ⟨g,0,none⟩=some (.int .u64 tot)
 c1:w.cell? ⟨g,1,none⟩=some (.slice A 1 cA)
 c2:w.cell? ⟨g,2,none⟩=some (.int .u64 un)
 c3:w.cell? ⟨g,3,none⟩=some (.slice R 1 cR)
 gB:g<B
 sm:SmIn w B A 1 [x] R 1 F
section
variable {w w':World} {B B' g cA cR:Nat} {tot un:Int} {A R:Option Addr} {x:Ln} {F:Zaq} {S:Nat→Prop}
theorem OneS.kept (h:OneS w B g tot un A cA R cR x F) (k:Keeps S w w') (hs:∀b,b<B→¬S b):OneS w' B g tot un A cA R cR x F:=
 ⟨k.cell_some h.c0 (hs g h.gB),k.cell_some h.c1 (hs g h.gB),k.cell_some h.c2 (hs g h.gB),k.cell_some h.c3 (hs g h.gB),h.gB,h.sm.kept k hs⟩
theorem OneS.quiet (h:OneS w B g tot un A cA R cR x F) (k:Keeps NO w w'):OneS w' B g tot un A cA R cR x F:=h.kept k (fun _ _ h=> h)
theorem OneS.more (h:OneS w B g tot un A cA R cR x F) (hB:B≤B'):OneS w B' g tot un A cA R cR x F:=⟨h.c0,h.c1,h.c2,h.c3,Nat.lt_of_lt_of_le h.gB hB,h.sm.more hB⟩
theorem OneS.ent (h:OneS w B g tot un A cA R cR x F):∃b off,A=some ⟨b,off,none⟩∧b<B∧w.cell? ⟨b,off,none⟩=some (.string x.key)∧w.cell? ⟨b,off+1,none⟩=some (.int .u64 x.lo)∧w.cell? ⟨b,off+2,none⟩=some (.int .u64 x.hi):=by
 obtain⟨b,off,e,hb,hc⟩:=h.sm.ents.2 (by omega)
 exact⟨b,off,e,hb,hc 0 _ rfl,hc 1 _ rfl,hc 2 _ rfl⟩
end
theorem Zi5 (w:World) (B g cS:Nat) (tot un:Int) (A R:Option Addr) (cA cR:Nat) (x:Ln) (F:Zaq) (h:OneS w B g tot un A cA R cR x F) (t0:0≤tot) (t1:tot<18446744073709551616):
  Calls Tryz.prog 26 #[.slice (some ⟨g,0,none⟩) 1 cS] w fun e w'=> e= .returned (.int .u64 tot)∧Keeps NO w w':=by
 have c0:=h.c0
 have c1:=h.c1
 have c2:=h.c2
 have c3:=h.c3
 have hA:=(Sat.add_yes (a:=0) (b:=tot) (by omega)).1
 have HS:=zz (fun W=> Sat.add_any 0 tot (by omega) (by omega) t0 t1 W)
 rw [hA,Int.zero_add] at HS
 clear hA h
 go_enter Tryz.func26,Tryz.ntmps26
 go_upto_region 3 with fail
 go_loopw [3,8] (fun v iv wr=> (iv= .int .i64 0∧v= .int .u64 0∧wr=w)∨(iv= .int .i64 1∧v= .int .u64 tot∧Hid (Keeps NO w wr))) (fun _ iv _=> 1-(intOf iv).toNat)
 case atStart=> exact .inl ⟨rfl,rfl,rfl⟩
 case round=>
  rcases hrel with ⟨rfl,rfl,rfl⟩ | ⟨rfl,rfl,K⟩
  ·go_upto_region 5 with fail
   have b5:=Blk.new wr 78 (smC tot A 1 cA un R 1 cR)
   have K5:=zz ((Kz0 NO wr).alloc (.cells (smC tot A 1 cA un R 1 cR) 78))
   have q0:=b5.cell 0
   clear b5 c0 c1 c2 c3
   generalize wr.alloc _=w5 at*
   generalize wr.heap.size=X at*
   go_wp2_with fail
   refine(HS.out _).mono ?_
   rintro e w6 ⟨rfl,rfl⟩
   go_wp2_with fail
   go_roundw
   case rel=> exact .inr ⟨rfl,rfl,K5⟩
   case measure=> simp [intOf]
  ·go_wp2_with fail
   go_ret
   exact⟨rfl,K.out⟩
theorem Zv1:ElemOf Tryz.prog 190 9 1 16:=ElemOf.mk' (z:= .string ⟨#[]⟩) Tryz.underlying190 (by kernel_rfl) rfl (by omega)
theorem Zlc (w:World) (B g cS:Nat) (tot un:Int) (A R:Option Addr) (cA cR:Nat) (x:Ln) (F:Zaq) (h:OneS w B g tot un A cA R cR x F) (hB:B≤w.heap.size):
  Calls Tryz.prog 81 #[.slice (some ⟨g,0,none⟩) 1 cS] w fun e w'=> ∃b c,e= .returned (.slice (some ⟨b,0,none⟩) 1 c)∧w'.cell? ⟨b,0,none⟩=some (.string x.key)∧Keeps NO w w':=by
 have c0:=h.c0
 have c1:=h.c1
 have c2:=h.c2
 have c3:=h.c3
 obtain⟨b,off,rfl,hbB,d0,d1,d2⟩:=h.ent
 clear h
 go_enter Tryz.func81,Tryz.ntmps81
 go_upto_region 3 with fail
 go_loopw [3,10] (fun v iv wr=> (iv= .int .i64 0∧v= .slice none 0 0∧wr=w)∨(iv= .int .i64 1∧∃G c,v= .slice (some ⟨G,0,none⟩) 1 c∧Hid (wr.cell? ⟨G,0,none⟩=some (.string x.key))∧Hid (Keeps NO w wr))) (fun _ iv _=> 1-(intOf iv).toNat)
 case atStart=> exact .inl ⟨rfl,rfl,rfl⟩
 case round=>
  rcases hrel with ⟨rfl,rfl,rfl⟩ | ⟨rfl,G,c,rfl,HG,K⟩
  ·go_upto_region 5 with fail
   have b5:=Blk.new wr 78 (smC tot (some ⟨b,off,none⟩) 1 cA un R 1 cR)
   have k5:=(Kz0 NO wr).alloc (.cells (smC tot (some ⟨b,off,none⟩) 1 cA un R 1 cR) 78)
   have K5:=zz k5
   have q1:=b5.cell 1
   have e0:=k5.cell_some d0 (fun h=> h)
   have e1:=k5.cell_some d1 (fun h=> h)
   have e2:=k5.cell_some d2 (fun h=> h)
   clear b5 k5 c0 c1 c2 c3 d0 d1 d2
   generalize wr.alloc _=w5 at*
   generalize hX:wr.heap.size=X at*
   go_upto_region 6 with fail
   go_loopw [3,17] (fun v iv wq=> (iv= .int .i64 0∧v= .slice none 0 0∧wq=w5)∨(iv= .int .i64 1∧∃G c,v= .slice (some ⟨G,0,none⟩) 1 c∧Hid (wq.cell? ⟨G,0,none⟩=some (.string x.key))∧Hid (Keeps NO wr wq))) (fun _ iv _=> 1-(intOf iv).toNat)
   case atStart=> exact .inl ⟨rfl,rfl,rfl⟩
   case round=>
    rcases hrel with ⟨rfl,rfl,rfl⟩ | ⟨rfl,G,c,rfl,HG,K⟩
    ·go_upto_region 8 with fail
     have kA:=(Kz0 NO wr).alloc (.cells #[.string x.key,.int .u64 x.lo,.int .u64 x.hi] 263)
     have K8:=zz (K5.out.trans kA)
     have b8:=Blk.new wr 263 #[.string x.key,.int .u64 x.lo,.int .u64 x.hi]
     have q0:=b8.cell 0
     clear kA b8 e0 e1 e2 q1 K5
     generalize wr.alloc _=w8 at*
     generalize wr.heap.size=Y at*
     go_wp2_with (at_builtin;refine Za5 _ Zv1 rfl (.tmp 21) (.tmp 24) rfl 0 [] rfl (Own.nil _ _ _ _) _ (m:=1) [.string x.key] rfl (by exact Blk.rd (sz:=1) (xs:= [.string x.key]) (Blk.new_at _ _ _ _ (by simp)) rfl) (by simp [Value.oneCell']) (by simp only [maxLen];omega) (by omega) (by simp) ?_;intro A6 c6 w6 o6 k6 hA6;have O6:=zz o6;have K6:=zz ((K8.out.alloc _).step k6 (fun b hb e=> by obtain⟨_,h,_⟩:=e;cases h));clear o6 k6 hA6)
     obtain⟨G,rfl,_,_⟩:=O6.out.some_ (by omega)
     have HG:=zz (O6.out.cell 0 (by omega))
     clear O6 K8
     go_roundw
     case rel=> exact .inr ⟨rfl,G,c6,rfl,HG,K6⟩
     case measure=> simp [intOf]
    ·go_wp2_with fail
     go_roundw
     case rel=> exact .inr ⟨rfl,G,c,rfl,HG,K⟩
     case measure=> simp [intOf]
  ·go_wp2_with fail
   refine(Zh1 wr (some ⟨G,0,none⟩) 1 c (by omega)).mono ?_
   rintro e w5 ⟨rfl,rfl⟩
   go_wp2_with fail
   refine(Zmj w5 (some ⟨G,0,none⟩) 1 c (by omega)).mono ?_
   rintro e w6 ⟨rfl,rfl⟩
   go_wp2_with fail
   go_ret
   exact⟨G,c,rfl,HG.out,K.out⟩
open Go.RowKit Cfp
theorem Zrs (w:World) (B X2 X3 X4 X5 g cS SB so sc:Nat) (c:Cfg) (C T:Option Addr) (n k j:Nat) (key:ByteArray) (tot un:Int) (A R:Option Addr) (cA cR:Nat) (x:Ln) (F:Zaq) (lo hi:Int) (bb:Bool) (h0:U lo) (h1:U hi)
  (b2:Blk w X2 72 #[.slice (some ⟨g,0,none⟩) 1 cS]) (b3:Blk w X3 22 #[.slice (some ⟨SB,so,none⟩) 1 sc]) (b4:Blk w X4 27 (cfC c C n k T 16 j)) (b5:Blk w X5 9 #[.string key])
  (hS:w.cell? ⟨SB,so,none⟩=some (.int .i64 0)) (hSB:SB<w.heap.size) (h:OneS w B g tot un A cA R cR x F)
  (HB:∀W,Keeps NO w W→Calls Tryz.prog 204 #[Value.agg (cfC c C n k T 16 j),smV tot A 1 cA un R 1 cR,.string key] W fun e w'=> e= .returned (.tuple #[bnd lo hi,.bool bb])∧Keeps NO W w'):
  Calls Tryz.prog 202 #[bnd 0 0,.int .i64 0,.pointer (some ⟨X2,0,none⟩),.pointer (some ⟨X3,0,none⟩),.pointer (some ⟨X4,0,none⟩),.pointer (some ⟨X5,0,none⟩)] w fun e w'=> e= .returned (bnd lo hi)∧Keeps NO w w':=by
 have k1:=((Kz0 NO w).alloc (.cells #[.int .u64 0,.int .u64 0] 103)).alloc (.cells #[.int .u64 0,.int .u64 0] 103)
 have HX6:=zz ((Blk.new w 103 #[.int .u64 0,.int .u64 0]).alloc (.cells #[.int .u64 0,.int .u64 0] 103))
 have HX8:=zz (Blk.new_at (w.alloc (.cells #[.int .u64 0,.int .u64 0] 103)) 103 #[.int .u64 0,.int .u64 0] (w.heap.size+1) (by simp))
 have HF:=zz (fun W (kW:Keeps NO w W)=> show(W.cell? ⟨X2,0,none⟩=some (.slice (some ⟨g,0,none⟩) 1 cS)∧W.cell? ⟨X3,0,none⟩=some (.slice (some ⟨SB,so,none⟩) 1 sc)∧Blk W X4 27 (cfC c C n k T 16 j)∧W.cell? ⟨X5,0,none⟩=some (.string key))∧
   (W.cell? ⟨g,0,none⟩=some (.int .u64 tot)∧W.cell? ⟨g,1,none⟩=some (.slice A 1 cA)∧W.cell? ⟨g,2,none⟩=some (.int .u64 un)∧W.cell? ⟨g,3,none⟩=some (.slice R 1 cR)) from
  ⟨⟨(b2.kept kW (fun h=> h)).cell 0,(b3.kept kW (fun h=> h)).cell 0,b4.kept kW (fun h=> h),(b5.kept kW (fun h=> h)).cell 0⟩,⟨(h.quiet kW).c0,(h.quiet kW).c1,(h.quiet kW).c2,(h.quiet kW).c3⟩⟩)
 have HCo:=zz (fun W (kW:Keeps NO w W)=> Zpb W W.heap.size (some ⟨SB,so,none⟩) 1 sc [0] ⟨rfl,fun _=> ⟨SB,so,rfl,Nat.lt_of_lt_of_le hSB kW.size,fun q u hu=> by
  rcases q with _ | q
  ·simp at hu;rw [←hu];exact kW.cell_some hS (fun h=> h)
  ·simp at hu⟩⟩ (by omega) 0)
 have HBd:=zz HB
 have K1:=zz k1
 have HU:=zz (And.intro h0 h1)
 have HA:=zz (show Sat.add 0 lo=lo∧Sat.add 0 hi=hi from by
  obtain⟨_,h2⟩:=h0
  obtain⟨_,h3⟩:=h1
  rw [(Sat.add_yes (a:=0) (b:=lo) (by omega)).1,(Sat.add_yes (a:=0) (b:=hi) (by omega)).1]
  omega)
 clear k1 b2 b3 b4 b5 hS h HB h0 h1
 go_enter Tryz.func202,Tryz.ntmps202
 go_upto_region 1 with fail
 generalize hw1:(w.alloc _).alloc _=w1 at*
 clear hw1
 obtain⟨⟨q2,q3,_,_⟩,_⟩:=HF.out _ K1.out
 go_wp2_with fail
 refine(HCo.out w1 K1.out).mono ?_
 rintro e w2 ⟨rfl,rfl⟩
 rw [show([0]:List Int).contains 0=true from rfl]
 clear HCo q2 q3
 go_upto_region 3 with fail
 have K2:=zz (K1.out.drew)
 have HX62:=zz (HX6.out.kept ((Kz0 NO w2).drew) (fun h=> h))
 have HX82:=zz (HX8.out.kept ((Kz0 NO w2).drew) (fun h=> h))
 clear HX6 HX8 K1
 have hwX:w.heap.size<w2.drew.heap.size:=HX62.out.lt
 refine wp_region_held_drew (S:=fun W=> Keeps NO w W) (by kernel_rfl) K2.out (fun hHeld=> ?_)
 refine wpAnyH_take (i:=0) (v:=_) rfl (by kernel_rfl) (by kernel_rfl) (by kernel_rfl) (fun _ _ _ h=> h) (Zbg (c:=c) (C:=C) (T:=T) (n:=n) (k:=k) (q:=16) (j:=j) (g:=X4) (.tmp 4) rfl (fun _ h=> (HF.out _ h).1.2.2.1) (by simp [Act.eval,Act.put]) (by kernel_rfl)) (by assumption) ?_
 (try simp only [Zpt])
 refine tkA 1 ?_ (hy:=by intro w hSw; (try dsimp only at hSw); (obtain⟨⟨q2,_⟩,_⟩:=HF.out _ hSw);clear hSw;go_simp;try (with_reducible rfl))
 refine tkA 2 ?_
 refine tkA 3 ?_
 refine tkA 4 ?_ (hy:=by intro w hSw; (try dsimp only at hSw); (obtain⟨_,q0,q1,q2,q3⟩:=HF.out _ hSw);clear hSw;go_simp;try (with_reducible rfl))
 refine tkA 5 ?_ (hy:=by intro w hSw; (try dsimp only at hSw); (obtain⟨⟨_,_,_,q5⟩,_⟩:=HF.out _ hSw);clear hSw;go_simp;try (with_reducible rfl))
 generalize w2.drew=wd at*
 refine wpAnyH_ready (rs:= [6,10]) (by kernel_rfl) (by simp) (AllReadyH.cons rfl (fun K hK=> ?_) (AllReadyH.cons rfl (fun K hK=> ?_) AllReadyH.nil))
 ·go_simp
  go_at_call 204
  refine(HBd.out _ K2.out).mono ?_
  rintro e w3 ⟨rfl,k3⟩
  have K3:=zz (K2.out.trans k3)
  have HX63:=zz (HX62.out.kept k3 (fun h=> h))
  have HX83:=zz (HX82.out.kept k3 (fun h=> h))
  clear k3
  try go_wp2_with fail
  refine hK.out _ _ (K3.out) (fun hHeld=> ?_)
  clear hK K
  (try simp only [Zpt])
  refine tkA 7 ?_
  refine tkA 8 ?_
  refine tkA 9 ?_
  refine wpAnyH_ready (rs:= [10]) (by kernel_rfl) (by simp) (AllReadyH.cons rfl (fun K hK=> ?_) AllReadyH.nil)
  go_simp
  have kA:=(Kz0 NO w3).alloc (.cells #[.int .u64 0,.int .u64 0] 103)
  have HN:=zz (Blk.new w3 103 #[.int .u64 0,.int .u64 0])
  have HX64:=zz (HX63.out.kept kA (fun h=> h))
  have HX84:=zz (HX83.out.kept kA (fun h=> h))
  have K4:=zz (K3.out.trans kA)
  have hX3:=HX83.out.lt
  have hwX3:=K3.out.size
  clear kA HX63 HX83 K3
  generalize w3.alloc _=w4 at*
  generalize w3.heap.size=Y at*
  try go_wp2_with fail
  refine hK.out _ _ (K4.out) (fun hHeld=> ?_)
  clear hK K
  (try simp only [Zpt])
  have y0:=HN.out.cell 0
  have y1:=HN.out.cell 1
  have z0:=HN.out.frozen 0
  have z1:=HN.out.frozen 1
  refine rd1 11 (fun K hK=> ?_)
  go_simp
  have kS:=(K4.out.setCell (p:=⟨Y,0,none⟩) (.inr hwX3) (.int .u64 lo)).setCell (p:=⟨Y,1,none⟩) (.inr hwX3) (.int .u64 hi)
  have kY:=((Kz0 (· =Y) w4).setCell (p:=⟨Y,0,none⟩) (.inl rfl) (.int .u64 lo)).setCell (p:=⟨Y,1,none⟩) (.inl rfl) (.int .u64 hi)
  have HY:=zz ((HN.out.set 0 (.int .u64 lo)).set 1 (.int .u64 hi))
  have HX6Z:=zz (HX64.out.kept kY (by omega))
  have HX8Z:=zz (HX84.out.kept kY (by omega))
  have KZ:=zz kS
  clear kS kY y0 y1 z0 z1
  generalize World.setCell (World.setCell w4 _ _) _ _=wz at*
  try go_wp2_with fail
  refine hK.out _ _ (KZ.out) (fun hHeld=> ?_)
  clear hK K
  (try simp only [Zpt])
  refine tkA 12 ?_
  refine wpAnyH_done (by kernel_rfl) ?_ _
  have y0:=HY.out.cell 0
  have y1:=HY.out.cell 1
  have x0:=HX6Z.out.cell 0
  have x1:=HX6Z.out.cell 1
  simp only [List.setIfInBounds_toArray,List.set_cons_zero,List.set_cons_succ,List.getElem?_toArray,List.getElem?_cons_zero,List.getElem?_cons_succ] at y0 y1
  go_wp2_with fail
  refine(Ziq 0 0 lo hi ⟨by decide,by decide⟩ ⟨by decide,by decide⟩ HU.out.1 HU.out.2 wz).mono ?_
  rw [HA.out.1,HA.out.2]
  rintro e w9 ⟨rfl,k9⟩
  have HX89:=zz (HX8Z.out.kept k9 (fun h=> h))
  have K9:=zz (KZ.out.trans k9)
  have x0:=HX89.out.cell 0
  have x1:=HX89.out.cell 1
  have z0:=HX89.out.frozen 0
  have z1:=HX89.out.frozen 1
  clear k9 y0 y1
  go_wp2_with fail
  have bX:=((HX89.out.set 0 (.int .u64 lo)).set 1 (.int .u64 hi))
  have r0:=bX.cell 0
  have r1:=bX.cell 1
  simp only [List.setIfInBounds_toArray,List.set_cons_zero,List.set_cons_succ,List.getElem?_toArray,List.getElem?_cons_zero,List.getElem?_cons_succ] at r0 r1
  refine bodyPost_ret (v:=bnd lo hi) (by simp [results,Tryz.results202,go_sem,r0,r1]) rfl ?_
  exact⟨rfl,(K9.out.setCell (p:=⟨w.heap.size+1,0,none⟩) (.inr (Nat.le_succ _)) _).setCell (p:=⟨w.heap.size+1,1,none⟩) (.inr (Nat.le_succ _)) _⟩
 ·go_simp
  have kA:=(Kz0 NO wd).alloc (.cells #[.int .u64 0,.int .u64 0] 103)
  have HN:=zz (Blk.new wd 103 #[.int .u64 0,.int .u64 0])
  have HX63:=zz (HX62.out.kept kA (fun h=> h))
  have HX83:=zz (HX82.out.kept kA (fun h=> h))
  have K3:=zz (K2.out.trans kA)
  have hX3:=HX82.out.lt
  have hwX3:=K2.out.size
  clear kA HX62 HX82 K2
  generalize wd.alloc _=w3 at*
  generalize wd.heap.size=Y at*
  try go_wp2_with fail
  refine hK.out _ _ (K3.out) (fun hHeld=> ?_)
  clear hK K
  (try simp only [Zpt])
  refine rd1 6 (fun K hK=> ?_)
  go_simp
  go_at_call 204
  refine(HBd.out _ K3.out).mono ?_
  rintro e w4 ⟨rfl,k4⟩
  have K4:=zz (K3.out.trans k4)
  have HN4:=zz (HN.out.kept k4 (fun h=> h))
  have HX64:=zz (HX63.out.kept k4 (fun h=> h))
  have HX84:=zz (HX83.out.kept k4 (fun h=> h))
  clear k4 HN HX63 HX83 K3
  try go_wp2_with fail
  refine hK.out _ _ (K4.out) (fun hHeld=> ?_)
  clear hK K
  (try simp only [Zpt])
  refine tkA 7 ?_
  refine tkA 8 ?_
  refine tkA 9 ?_
  have y0:=HN4.out.cell 0
  have y1:=HN4.out.cell 1
  have z0:=HN4.out.frozen 0
  have z1:=HN4.out.frozen 1
  refine rd1 11 (fun K hK=> ?_)
  go_simp
  have kS:=(K4.out.setCell (p:=⟨Y,0,none⟩) (.inr hwX3) (.int .u64 lo)).setCell (p:=⟨Y,1,none⟩) (.inr hwX3) (.int .u64 hi)
  have kY:=((Kz0 (· =Y) w4).setCell (p:=⟨Y,0,none⟩) (.inl rfl) (.int .u64 lo)).setCell (p:=⟨Y,1,none⟩) (.inl rfl) (.int .u64 hi)
  have HY:=zz ((HN4.out.set 0 (.int .u64 lo)).set 1 (.int .u64 hi))
  have HX6Z:=zz (HX64.out.kept kY (by omega))
  have HX8Z:=zz (HX84.out.kept kY (by omega))
  have KZ:=zz kS
  clear kS kY y0 y1 z0 z1
  generalize World.setCell (World.setCell w4 _ _) _ _=wz at*
  try go_wp2_with fail
  refine hK.out _ _ (KZ.out) (fun hHeld=> ?_)
  clear hK K
  (try simp only [Zpt])
  refine tkA 12 ?_
  refine wpAnyH_done (by kernel_rfl) ?_ _
  have y0:=HY.out.cell 0
  have y1:=HY.out.cell 1
  have x0:=HX6Z.out.cell 0
  have x1:=HX6Z.out.cell 1
  simp only [List.setIfInBounds_toArray,List.set_cons_zero,List.set_cons_succ,List.getElem?_toArray,List.getElem?_cons_zero,List.getElem?_cons_succ] at y0 y1
  go_wp2_with fail
  refine(Ziq 0 0 lo hi ⟨by decide,by decide⟩ ⟨by decide,by decide⟩ HU.out.1 HU.out.2 wz).mono ?_
  rw [HA.out.1,HA.out.2]
  rintro e w9 ⟨rfl,k9⟩
  have HX89:=zz (HX8Z.out.kept k9 (fun h=> h))
  have K9:=zz (KZ.out.trans k9)
  have x0:=HX89.out.cell 0
  have x1:=HX89.out.cell 1
  have z0:=HX89.out.frozen 0
  have z1:=HX89.out.frozen 1
  clear k9 y0 y1
  go_wp2_with fail
  have bX:=((HX89.out.set 0 (.int .u64 lo)).set 1 (.int .u64 hi))
  have r0:=bX.cell 0
  have r1:=bX.cell 1
  simp only [List.setIfInBounds_toArray,List.set_cons_zero,List.set_cons_succ,List.getElem?_toArray,List.getElem?_cons_zero,List.getElem?_cons_succ] at r0 r1
  refine bodyPost_ret (v:=bnd lo hi) (by simp [results,Tryz.results202,go_sem,r0,r1]) rfl ?_
  exact⟨rfl,(K9.out.setCell (p:=⟨w.heap.size+1,0,none⟩) (.inr (Nat.le_succ _)) _).setCell (p:=⟨w.heap.size+1,1,none⟩) (.inr (Nat.le_succ _)) _⟩
open Go.RowKit Cfp
def Zvh (W:World) (e:Ending) (w':World):Prop:=∃SB so sc,e= .returned (.slice (some ⟨SB,so,none⟩) 1 sc)∧w'.cell? ⟨SB,so,none⟩=some (.int .i64 0)∧SB<w'.heap.size∧Keeps NO W w'
theorem Zrt (w:World) (B g cS:Nat) (c:Cfg) (hsh:c.shards=1) (C T:Option Addr) (n k j:Nat) (key:ByteArray) (tot un:Int) (A R:Option Addr) (cA cR:Nat) (x:Ln) (F:Zaq) (lo hi:Int) (bb:Bool) (h0:U lo) (h1:U hi) (h:OneS w B g tot un A cA R cR x F)
  (HSet:∀W,Keeps NO w W→Calls Tryz.prog 60 #[Value.agg (cfC c C n k T 16 j),.string key] W (Zvh W))
  (HB:∀W,Keeps NO w W→Calls Tryz.prog 204 #[Value.agg (cfC c C n k T 16 j),smV tot A 1 cA un R 1 cR,.string key] W fun e w'=> e= .returned (.tuple #[bnd lo hi,.bool bb])∧Keeps NO W w'):
  Calls Tryz.prog 140 #[Value.agg (cfC c C n k T 16 j),.slice (some ⟨g,0,none⟩) 1 cS,.string key,.slice none 0 0] w fun e w'=> e= .returned (.agg #[.string key,.int .u64 lo,.int .u64 hi])∧Keeps NO w w':=by
 obtain⟨X,hX⟩:∃X,X=w.heap.size:=⟨_,rfl⟩
 obtain⟨w1,hw1⟩:∃w1,w1=(((w.alloc (.cells (cfC c C n k T 16 j) 27)).alloc (.cells #[.slice (some ⟨g,0,none⟩) 1 cS] 72)).alloc (.cells #[.string key] 9)).alloc (.cells #[.string ⟨#[]⟩,.int .u64 0,.int .u64 0] 139):=⟨_,rfl⟩
 have k1:Keeps NO w w1:=by rw [hw1];exact((((Kz0 _ _).alloc _).alloc _).alloc _).alloc _
 have B4:Hid (Blk w1 X 27 (cfC c C n k T 16 j)):=zz (by rw [hw1,hX];exact(((Blk.new _ _ _).alloc _).alloc _).alloc _)
 have B2:Hid (Blk w1 (X+1) 72 #[.slice (some ⟨g,0,none⟩) 1 cS]):=zz (by rw [hw1,hX];exact((Blk.new_at _ _ _ _ (by simp)).alloc _).alloc _)
 have B5:Hid (Blk w1 (X+1+1) 9 #[.string key]):=zz (by rw [hw1,hX];exact(Blk.new_at _ _ _ _ (by simp)).alloc _)
 have B8:Hid (Blk w1 (X+1+1+1) 139 #[.string ⟨#[]⟩,.int .u64 0,.int .u64 0]):=zz (by rw [hw1,hX];exact Blk.new_at _ _ _ _ (by simp))
 have K1:=zz k1
 have HW:=zz hw1
 have HXw:=zz (Nat.le_of_eq hX.symm)
 have HSe:=zz HSet
 have HBd:=zz HB
 have HOn:=zz h
 have HU:=zz (And.intro h0 h1)
 have HSh:=zz hsh
 clear k1 hw1 HSet HB h h0 h1 hsh
 go_enter Tryz.func140,Tryz.ntmps140
 go_upto_region 1 with fail
 rw [←HW.out,←hX]
 clear HW
 have c5:=B5.out.cell 0
 clear hX
 go_wp2_with (refine Zah _ rfl B4.out rfl (by rfl) ?_;simp only [Act.put,List.setIfInBounds_toArray,List.set_cons_succ,List.set_cons_zero])
 refine(HSe.out w1 K1.out).mono ?_
 rintro e w2 ⟨SB,so,sc,rfl,hs0,hsl,k2⟩
 have K2:=zz (K1.out.trans k2)
 have kA:=((Kz0 NO w2).alloc (.cells #[.slice (some ⟨SB,so,none⟩) 1 sc] 22)).alloc (.cells #[.int .u64 0,.int .u64 0] 103)
 have HB4:=zz ((B4.out.kept k2 (fun h=> h)).kept kA (fun h=> h))
 have HB2:=zz ((B2.out.kept k2 (fun h=> h)).kept kA (fun h=> h))
 have HB5:=zz ((B5.out.kept k2 (fun h=> h)).kept kA (fun h=> h))
 have HB8:=zz ((B8.out.kept k2 (fun h=> h)).kept kA (fun h=> h))
 have HB9:=zz ((Blk.new w2 22 #[.slice (some ⟨SB,so,none⟩) 1 sc]).alloc (.cells #[.int .u64 0,.int .u64 0] 103))
 have HBs:=zz (Blk.new_at (w2.alloc (.cells #[.slice (some ⟨SB,so,none⟩) 1 sc] 22)) 103 #[.int .u64 0,.int .u64 0] (w2.heap.size+1) (by simp))
 have HS0:=zz (And.intro (kA.cell_some hs0 (fun h=> h)) (Nat.lt_of_lt_of_le hsl kA.size))
 have K3:=zz (K2.out.trans kA)
 have hw2:=K2.out.size
 go_upto_region 4 with fail
 clear k2 kA hs0 hsl B4 B2 B5 B8 c5 K2 K1
 generalize (w2.alloc _).alloc _=w3 at*
 generalize w2.heap.size=Y at*
 have q3:w3.cell? ⟨X,3,none⟩=some (.int .i64 1):=by rw [←HSh.out];exact HB4.out.cell 3
 have HOr:Hid (∀W,Calls Tryz.prog 205 #[.slice none 0 0,.int .i64 1] W fun e w'=> ∃A c,e= .returned (.slice A 1 c)∧Own w' W.heap.size 3 1 A 1 c (izs (rngI 0 1))∧Keeps NO W w'):=zz (fun W=> Zl7 W 1 (by omega))
 go_wp2_with fail
 refine(HOr.out w3).mono ?_
 rintro e w4 ⟨AO,cO,rfl,oO,k4⟩
 obtain⟨GO,rfl,_,hGO⟩:=oO.some_ (by omega)
 have o0:w4.cell? ⟨GO,0,none⟩=some (.int .i64 0):=oO.cell 0 (by omega)
 have HB4':=zz (HB4.out.kept k4 (fun h=> h))
 have HB2':=zz (HB2.out.kept k4 (fun h=> h))
 have HB5':=zz (HB5.out.kept k4 (fun h=> h))
 have HB8':=zz (HB8.out.kept k4 (fun h=> h))
 have HB9':=zz (HB9.out.kept k4 (fun h=> h))
 have HBs':=zz (HBs.out.kept k4 (fun h=> h))
 have HS0':=zz (And.intro (k4.cell_some HS0.out.1 (fun h=> h)) (Nat.lt_of_lt_of_le HS0.out.2 k4.size))
 have K4:=zz (K3.out.trans k4)
 clear k4 oO HB4 HB2 HB5 HB8 HB9 HBs HS0 K3 q3 HOr
 have hXY:X+1+1+1<w4.heap.size:=HB8'.out.lt
 go_upto_region 5 with fail
 go_loopw [23] (fun iv wr=> (iv= .int .i64 0∧wr=w4)∨(iv= .int .i64 1∧Hid (Blk wr (Y+1) 103 #[.int .u64 lo,.int .u64 hi]∧Blk wr (X+1+1) 9 #[.string key]∧Blk wr (X+1+1+1) 139 #[.string ⟨#[]⟩,.int .u64 0,.int .u64 0]∧Keeps NO w wr))) (fun iv _=> 1-(intOf iv).toNat)
 case atStart=> exact .inl ⟨rfl,rfl⟩
 case round=>
  rcases hrel with ⟨rfl,rfl⟩ | ⟨rfl,HR⟩
  ·have s0:=HBs'.out.cell 0
   have s1:=HBs'.out.cell 1
   go_wp2_with fail
   refine(Zrs wr B (X+1) Y X (X+1+1) g cS SB so sc c C T n k j key tot un A R cA cR x F lo hi bb HU.out.1 HU.out.2 HB2'.out HB9'.out HB4'.out HB5'.out HS0'.out.1 HS0'.out.2 (HOn.out.quiet K4.out) (fun W kW=> HBd.out W (K4.out.trans kW))).mono ?_
   rintro e w5 ⟨rfl,k5⟩
   have HB55:=zz (HB5'.out.kept k5 (fun h=> h))
   have HB85:=zz (HB8'.out.kept k5 (fun h=> h))
   have HBs5:=zz (HBs'.out.kept k5 (fun h=> h))
   have K5:=zz (K4.out.trans k5)
   have f0:=HBs5.out.frozen 0
   have f1:=HBs5.out.frozen 1
   have s0:=HBs5.out.cell 0
   have s1:=HBs5.out.cell 1
   clear k5 HB4' HB2' HB5' HB8' HB9' HBs' HS0' K4 o0
   go_wp2_with fail
   have kY:=((Kz0 (· =Y+1) w5).setCell (p:=⟨Y+1,0,none⟩) (.inl rfl) (.int .u64 lo)).setCell (p:=⟨Y+1,1,none⟩) (.inl rfl) (.int .u64 hi)
   go_roundw
   case rel=> exact .inr ⟨rfl,zz ⟨(HBs5.out.set 0 (.int .u64 lo)).set 1 (.int .u64 hi),HB55.out.kept kY (fun e=> HB55.out.ne HBs5.out (by decide) e),HB85.out.kept kY (fun e=> HB85.out.ne HBs5.out (by decide) e),K5.out.step kY (fun b hb e=> by omega)⟩⟩
   case measure=> simp [intOf]
  ·obtain⟨r1,r2,r3,kr⟩:=HR.out
   have HB8r:=zz r3
   have Kr:=zz kr
   have s0:=r1.cell 0
   have s1:=r1.cell 1
   have p0:=r2.cell 0
   have x0:=r3.cell 0
   have x1:=r3.cell 1
   have x2:=r3.cell 2
   have f0:=r3.frozen 0
   have f1:=r3.frozen 1
   have f2:=r3.frozen 2
   clear r1 r2 r3 kr HB4' HB2' HB5' HB8' HB9' HBs' HS0' K4 o0 HR
   go_wp2_with fail
   have bX:=((HB8r.out.set 0 (.string key)).set 1 (.int .u64 lo)).set 2 (.int .u64 hi)
   have r0:=bX.cell 0
   have r1:=bX.cell 1
   have r2:=bX.cell 2
   simp only [List.setIfInBounds_toArray,List.set_cons_zero,List.set_cons_succ,List.getElem?_toArray,List.getElem?_cons_zero,List.getElem?_cons_succ] at r0 r1 r2
   refine bodyPost_ret (v:= .agg #[.string key,.int .u64 lo,.int .u64 hi]) (by simp [results,Tryz.results140,go_sem,r0,r1,r2]) rfl ?_
   have hxl:=HXw.out
   exact⟨rfl,((Kr.out.setCell (p:=⟨X+1+1+1,0,none⟩) (.inr (by show w.heap.size≤X+1+1+1;omega)) _).setCell (p:=⟨X+1+1+1,1,none⟩) (.inr (by show w.heap.size≤X+1+1+1;omega)) _).setCell (p:=⟨X+1+1+1,2,none⟩) (.inr (by show w.heap.size≤X+1+1+1;omega)) _⟩
open Go.RowKit Cfp
theorem Zqf:ElemOf Tryz.prog 89 139 3 32:=ElemOf.mk' (z:= .agg #[.string ⟨#[]⟩,.int .u64 0,.int .u64 0]) Tryz.underlying89 (by kernel_rfl) rfl (by omega)
theorem Zue (w:World) (B g cS:Nat) (c:Cfg) (C T:Option Addr) (n k j:Nat) (key:ByteArray) (tot un:Int) (A R:Option Addr) (cA cR:Nat) (x:Ln) (hxk:x.key=key) (F:Zaq) (lo hi:Int) (h:OneS w B g tot un A cA R cR x F) (hB:B≤w.heap.size)
  (HL:∀W,Keeps NO w W→Calls Tryz.prog 140 #[Value.agg (cfC c C n k T 16 j),.slice (some ⟨g,0,none⟩) 1 cS,.string key,.slice none 0 0] W fun e w'=> e= .returned (.agg #[.string key,.int .u64 lo,.int .u64 hi])∧Keeps NO W w'):
  Calls Tryz.prog 78 #[Value.agg (cfC c C n k T 16 j),.slice (some ⟨g,0,none⟩) 1 cS,.slice none 0 0] w fun e w'=> ∃A' c',e= .returned (.slice A' 1 c')∧Own w' w.heap.size 139 3 A' 1 c' [.string key,.int .u64 lo,.int .u64 hi]∧Keeps NO w w':=by
 obtain⟨X,hX⟩:∃X,X=w.heap.size:=⟨_,rfl⟩
 obtain⟨w1,hw1⟩:∃w1,w1=w.alloc (.cells (cfC c C n k T 16 j) 27):=⟨_,rfl⟩
 have k1:Keeps NO w w1:=by rw [hw1];exact(Kz0 _ _).alloc _
 have B4:Hid (Blk w1 X 27 (cfC c C n k T 16 j)):=zz (by rw [hw1,hX];exact Blk.new _ _ _)
 have HK:=zz (Zlc w1 B g cS tot un A R cA cR x F (h.quiet k1) (Nat.le_trans hB k1.size))
 rw [hxk] at HK
 have K1:=zz k1
 have HW:=zz hw1
 have HLi:=zz HL
 have HXw:=zz (Nat.le_of_eq hX.symm)
 clear k1 hw1 h hxk HL
 go_enter Tryz.func78,Tryz.ntmps78
 go_upto_region 1 with fail
 rw [←HW.out,←hX]
 clear HW hX
 go_wp2_with fail
 refine HK.out.mono ?_
 rintro e w2 ⟨b,cK,rfl,q0,k2⟩
 have K2:=zz (K1.out.trans k2)
 have HB2:=zz (B4.out.kept k2 (fun h=> h))
 clear k2 B4 K1 HK
 go_upto_region 3 with fail
 go_loopw [7,13] (fun lv iv wr=> (iv= .int .i64 0∧lv= .slice none 0 0∧wr=w2)∨(iv= .int .i64 1∧∃A' c',lv= .slice A' 1 c'∧Hid (Own wr w.heap.size 139 3 A' 1 c' [.string key,.int .u64 lo,.int .u64 hi]∧Keeps NO w wr))) (fun _ iv _=> 1-(intOf iv).toNat)
 case atStart=> exact .inl ⟨rfl,rfl,rfl⟩
 case round=>
  rcases hrel with ⟨rfl,rfl,rfl⟩ | ⟨rfl,A',c',rfl,HR⟩
  ·skip
   go_wp2_with (refine Zah _ rfl HB2.out rfl (by rfl) ?_;simp only [Act.put,List.setIfInBounds_toArray,List.set_cons_succ,List.set_cons_zero])
   refine(HLi.out wr K2.out).mono ?_
   rintro e w3 ⟨rfl,k3⟩
   have K3:=zz (K2.out.trans k3)
   have hw3:=K3.out.size
   clear k3 HB2 K2 q0
   go_wp2_with (at_builtin;refine Za5 _ Zqf rfl (.tmp 17) (.tmp 23) rfl w.heap.size [] rfl (Own.nil _ _ _ _) _ (m:=1) [.string key,.int .u64 lo,.int .u64 hi] rfl (by exact Blk.rd (sz:=3) (xs:= [.string key,.int .u64 lo,.int .u64 hi]) (Blk.new_at _ _ _ _ (by simp)) rfl) (by simp [Value.oneCell']) (by simp only [maxLen];omega) (by omega) (by simp;omega) ?_;intro A6 c6 w6 o6 k6 hA6;have O6:=zz o6;have K6:=zz ((K3.out.alloc _).step k6 (fun b hb e=> by obtain⟨_,h,_⟩:=e;cases h));clear o6 k6 hA6)
   go_roundw
   case rel=> exact .inr ⟨rfl,A6,c6,rfl,zz ⟨O6.out,K6.out⟩⟩
   case measure=> simp [intOf]
  ·go_wp2_with fail
   go_ret
   exact⟨A',c',rfl,HR.out.1,HR.out.2⟩
theorem Zoa (w:World) (B g cS:Nat) (c:Cfg) (hr:Rtd c) (hsh:c.shards=1) (C T:Option Addr) (n k j:Nat) (tot un:Int) (A R:Option Addr) (cA cR:Nat) (x:Ln) (F:Zaq) (h:OneS w B g tot un A cA R cR x F) (hB:B≤w.heap.size) (t0:0≤tot) (t1:tot≤9223372036854775808)
  (hck:Zd1 c.depth c.width tot un [x] (Cmp.rowsL F 1)=0):
  Calls Tryz.prog 25 #[Value.agg (cfC c C n k T 16 j),.slice (some ⟨g,0,none⟩) 1 cS] w fun e w'=> e= .returned (.int .i64 0)∧Keeps NO w w':=by
 obtain⟨X,hX⟩:∃X,X=w.heap.size:=⟨_,rfl⟩
 obtain⟨w1,hw1⟩:∃w1,w1=w.alloc (.cells (cfC c C n k T 16 j) 27):=⟨_,rfl⟩
 have k1:Keeps NO w w1:=by rw [hw1];exact(Kz0 _ _).alloc _
 have B4:Hid (Blk w1 X 27 (cfC c C n k T 16 j)):=zz (by rw [hw1,hX];exact Blk.new _ _ _)
 have HRt:=zz (fun W=> Zce c hr C T n k j W)
 have HCk:=zz (fun W (kW:Keeps NO w W)=> Zhp W B c C T n k 16 j tot un A R 1 cA 1 cR [x] F (h.quiet kW).sm (Nat.le_trans hB kW.size))
 rw [hck] at HCk
 have HTo:=zz (fun W (kW:Keeps NO w W)=> Zi5 W B g cS tot un A R cA cR x F (h.quiet kW) t0 (by omega))
 have K1:=zz k1
 have HW:=zz hw1
 have HOn:=zz h
 have HSh:=zz hsh
 have e9:decide (9223372036854775808<tot)=false:=by simpa using t1
 clear k1 hw1 h hr hsh hck
 go_enter Tryz.func25,Tryz.ntmps25
 go_upto_region 1 with fail
 rw [←HW.out,←hX]
 clear HW hX
 go_wp2_with (refine Zah _ rfl B4.out rfl (by rfl) ?_;simp only [Act.put,List.setIfInBounds_toArray,List.set_cons_succ,List.set_cons_zero])
 refine(HRt.out w1).mono ?_
 rintro e w2 ⟨rfl,hw2⟩
 have k2:Keeps NO w1 w2:=by rw [hw2];exact(Kz0 _ _).alloc _
 have K2:=zz (K1.out.trans k2)
 have HB2:=zz (B4.out.kept k2 (fun h=> h))
 have q3:w2.cell? ⟨X,3,none⟩=some (.int .i64 1):=by rw [←HSh.out];exact HB2.out.cell 3
 clear k2 hw2 B4 K1 HRt
 go_upto_region 7 with fail
 go_loopw [21] (fun iv wr=> (iv= .int .i64 0∧wr=w2)∨(iv= .int .i64 1∧Hid (Keeps NO w wr))) (fun iv _=> 1-(intOf iv).toNat)
 case atStart=> exact .inl ⟨rfl,rfl⟩
 case round=>
  rcases hrel with ⟨rfl,rfl⟩ | ⟨rfl,HR⟩
  ·have g0:=(HOn.out.quiet K2.out).c0
   have g1:=(HOn.out.quiet K2.out).c1
   have g2:=(HOn.out.quiet K2.out).c2
   have g3:=(HOn.out.quiet K2.out).c3
   go_upto_region 9 with fail
   have kA:=(Kz0 NO wr).alloc (.cells (smC tot A 1 cA un R 1 cR) 78)
   have HN:=zz (Blk.new wr 78 (smC tot A 1 cA un R 1 cR))
   have HB3:=zz (HB2.out.kept kA (fun h=> h))
   have K3:=zz (K2.out.trans kA)
   clear kA g0 g1 g2 g3 q3 HB2 K2
   generalize wr.alloc _=w3 at*
   generalize wr.heap.size=Y at*
   have s0:=HN.out.cell 0
   have s1:=HN.out.cell 1
   have s2:=HN.out.cell 2
   have s3:=HN.out.cell 3
   go_wp2_with (refine Zah _ rfl HB3.out rfl (by rfl) ?_;simp only [Act.put,List.setIfInBounds_toArray,List.set_cons_succ,List.set_cons_zero])
   refine(HCk.out w3 K3.out).mono ?_
   rintro e w4 ⟨rfl,k4⟩
   have K4:=zz (K3.out.trans k4)
   clear k4 s0 s1 s2 s3 HN HB3 K3
   go_wp2_with fail
   go_roundw
   case rel=> exact .inr ⟨rfl,K4⟩
   case measure=> simp [intOf]
  ·go_wp2_with fail
   refine(HTo.out wr HR.out).mono ?_
   rintro e w3 ⟨rfl,k3⟩
   have K3:=zz (HR.out.trans k3)
   clear k3
   go_wp2_with fail
   go_ret
   exact⟨rfl,K3.out⟩
theorem Zrr (w:World) (B g cS:Nat) (c:Cfg) (hsh:c.shards=1) (hsp:c.spread=1) (C T:Option Addr) (n k j:Nat) (tot:Int) (A R:Option Addr) (cA cR:Nat) (x:Ln) (F:Zaq) (h:OneS w B g tot 0 A cA R cR x F)
  (HC:∀W,Keeps NO w W→Calls Tryz.prog 25 #[Value.agg (cfC c C n k T 16 j),.slice (some ⟨g,0,none⟩) 1 cS] W fun e w'=> e= .returned (.int .i64 0)∧Keeps NO W w'):
  Calls Tryz.prog 83 #[Value.agg (cfC c C n k T 16 j),.slice (some ⟨g,0,none⟩) 1 cS] w fun e w'=> e= .returned (.int .u64 0)∧Keeps NO w w':=by
 obtain⟨X,hX⟩:∃X,X=w.heap.size:=⟨_,rfl⟩
 obtain⟨w1,hw1⟩:∃w1,w1=w.alloc (.cells (cfC c C n k T 16 j) 27):=⟨_,rfl⟩
 have k1:Keeps NO w w1:=by rw [hw1];exact(Kz0 _ _).alloc _
 have B4:Hid (Blk w1 X 27 (cfC c C n k T 16 j)):=zz (by rw [hw1,hX];exact Blk.new _ _ _)
 have HCk:=zz HC
 have HOn:=zz h
 have HS:=zz (And.intro hsh hsp)
 have HSa:=zz (fun W=> Sat.add_any 0 0 (by omega) (by omega) (by omega) (by omega) W)
 rw [(Sat.add_yes (a:=0) (b:=0) (by omega)).1,Int.add_zero] at HSa
 have K1:=zz k1
 have HW:=zz hw1
 clear k1 hw1 HC h hsh hsp
 go_enter Tryz.func83,Tryz.ntmps83
 go_upto_region 1 with fail
 rw [←HW.out,←hX]
 clear HW hX
 go_wp2_with (refine Zah _ rfl B4.out rfl (by rfl) ?_;simp only [Act.put,List.setIfInBounds_toArray,List.set_cons_succ,List.set_cons_zero])
 refine(HCk.out w1 K1.out).mono ?_
 rintro e w2 ⟨rfl,k2⟩
 have K2:=zz (K1.out.trans k2)
 have HB2:=zz (B4.out.kept k2 (fun h=> h))
 have q3:w2.cell? ⟨X,3,none⟩=some (.int .i64 1):=by rw [←HS.out.1];exact HB2.out.cell 3
 have q4:w2.cell? ⟨X,4,none⟩=some (.int .i64 1):=by rw [←HS.out.2];exact HB2.out.cell 4
 have g2:=(HOn.out.quiet K2.out).c2
 clear k2 B4 K1 HCk
 go_upto_region 5 with fail
 go_loopw [5,15] (fun v iv wr=> (iv= .int .i64 0∨iv= .int .i64 1)∧v= .int .u64 0∧wr=w2) (fun _ iv _=> 1-(intOf iv).toNat)
 case atStart=> exact⟨.inl rfl,rfl,rfl⟩
 case round=>
  obtain⟨rfl | rfl,rfl,rfl⟩:=hrel
  ·obtain⟨wo,rfl⟩:∃wo:World,wo=wr:=⟨_,rfl⟩
   go_upto_region 9 with fail
   go_loopw [7,20] (fun v iv wr=> (iv= .int .i64 0∨iv= .int .i64 1)∧v= .int .u64 0∧wr=wo) (fun _ iv _=> 1-(intOf iv).toNat)
   case atStart=> exact⟨.inl rfl,rfl,rfl⟩
   case round=>
    obtain⟨rfl | rfl,rfl,rfl⟩:=hrel
    ·go_wp2_with fail
     refine(HSa.out _).mono ?_
     rintro e w6 ⟨rfl,rfl⟩
     go_wp2_with fail
     go_roundw
     case rel=> exact⟨.inr rfl,rfl,trivial⟩
     case measure=> simp [intOf]
    ·go_wp2_with fail
     go_roundw
     case rel=> exact⟨.inr rfl,rfl,trivial⟩
     case measure=> simp [intOf]
  ·go_wp2_with fail
   go_ret
   exact⟨rfl,K2.out⟩
end Go.Proofs.YtjamiaamngalgaaGreat
