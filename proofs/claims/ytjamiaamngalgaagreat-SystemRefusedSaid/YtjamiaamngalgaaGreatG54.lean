/-
  Parts: A new cluster of one sha; The example's sizes; script.Run of the exampl; heavykeystop.awake; SystemRefused: th. No conditions beyond those of the statement.
-/
import Derived.Test.YtjamiaamngalgaaGreatG53
import Derived.Test.YtjamiaamngalgaaGreatG22
import Derived.Test.YtjamiaamngalgaaGreatG00
import Derived.Test.YtjamiaamngalgaaGreatG34
import Derived.Test.YtjamiaamngalgaaGreatG26
import Derived.Test.YtjamiaamngalgaaGreatG23
import Derived.Test.YtjamiaamngalgaaGreatG24
set_option linter.unusedVariables false
set_option linter.unusedSimpArgs false
set_option maxRecDepth 1000000
set_option maxHeartbeats 4000000
namespace Go.Proofs.YtjamiaamngalgaaGreat
open Go.RowKit Go.Maps Cfp
theorem Zl1 (l:List (Int × Int)) (n:Nat) (hn:l.length=n) (CA:Option Addr) (cap:Nat):(Zap l n CA cap).cls=l.map mkC:=by
 show(l.take n).map mkC=l.map mkC
 rw [List.take_of_length_le (by omega)]
theorem Zl0 (l:List (Int × Int)) (n:Nat) (hn:l.length=n) (CA:Option Addr) (cap:Nat):Zak (Zap l n CA cap)=l:=by
 unfold Zak
 rw [Zl1 l n hn,List.map_map]
 conv=> rhs;rw [←List.map_id l]
 exact List.map_congr_left (fun x _=> rfl)
theorem Zg2 (l:List (Int × Int)) (n:Nat) (hn:l.length=n) (CA:Option Addr) (cap:Nat) (i:Nat):(Za6 (Zap l n CA cap)).getD i 0=0:=by
 unfold Za6
 rw [Zl1 l n hn,List.map_map,List.getD,List.getElem?_map]
 cases l[i]? <;> rfl
theorem CluSt.fdg {wb w0 w':World} {c:Cfg} {n:Nat} {l:List (Int × Int)} {ts:List Int} {kc:Nat} (h:CluSt w0 w' c n l ts kc) (kb:Keeps NO wb w0) (kk:Keeps NO w0 w') (hsh:c.shards=1) (hq:c.queue=1) (htr:0≤Za4 c)
  {c0 c1 c2 c3 c4:Int} (hl:l=sh5 c0 c1 c2 c3 c4) (hn:l.length=n) (hcl:Za7 l=0):
  ∃a p led ML s q G MT mb SB cap C T k j R EA capE sA L,FdG wb w' kc a p led ML s q G MT mb SB cap c C T n k j ts 1 (Za4 c+c.shards*c.queue) c0 c1 c2 c3 c4 none 0 [] 0 [] R [PE.zero] EA capE (.map []) sA L 0 0∧(∀i,(Za6 sA).getD i 0=0):=by
 obtain⟨a,p,led,ML,C,T,k,j,Ls,SA,cap,CA,ac,pg,pm,Ba,Bp,⟨oC,oT⟩,⟨hBa,hAr⟩,⟨hBp,hPo⟩,⟨hLed,hM⟩,⟨hLl,oS,hSh⟩,⟨g1,g2,g3,g4,g5⟩,hblk⟩:=h.all
 have hb0:=kb.size
 have hb1:=kk.size
 obtain⟨x,rfl⟩:∃x,Ls= [x]:=by
  rcases Ls with _ | ⟨x,_ | ⟨y,r⟩⟩
  ·simp at hLl;omega
  ·exact⟨x,rfl⟩
  ·simp at hLl;omega
 obtain⟨SB,rfl,_,_⟩:=oS.some_ (by simp)
 obtain⟨B,hB,hS,hQ⟩:=hSh x (by simp)
 have gx:=g5 x (by simp)
 have hq1:c.queue.toNat=1:=by rw [hq];rfl
 rw [hq1] at hQ
 have hMl:ML≠led:=fun e=> by
  subst e
  have:=hM.symm.trans hLed
  injection this with this
  cases this
 have hAr':IsArH w' Ba a (Zap l n CA ac) NO:=hAr
 refine⟨a,p,led,ML,x.s,x.q,x.G,x.M,pm,SB,cap,C,T,k,j,List.replicate 1 Wt.zero,some ⟨pg,0,none⟩,1,Zap l n CA ac,fun _=> [],
  ⟨kb.trans kk,hblk,oS.base_le hb0,hS.blk,Mp.of_empty hS.map,oT.base_le hb0,⟨hLed,Mp.of_empty hM,rfl,by simp,by simp,⟨by omega,by omega⟩,hMl⟩,
   ⟨hQ.baseLe (by omega),hPo.baseLe (by omega),hAr'.base (by omega),?_,by omega,?_,by omega⟩,⟨by omega,?_⟩,by omega,by omega,by omega⟩,Zg2 l n hn CA ac⟩
 ·exact QInv.zero _ (Zs5 l hcl CA ac n hn) (by rw [Zl0 l n hn,hl]) (Zg2 l n hn CA ac) rfl
 ·rw [hsh,hq]
  show(0:Int)≤_
  omega
 ·have:=hS.le.2
  omega
open Go.RowKit Go.Maps Cfp Nil
theorem Zud (c:Cfg) (h:Nil.Mild c) (l:List (Int × Int)) (hf:l.map Prod.fst= [8,24,32,80,256]) (hs:l.map Prod.snd=Zac c l):l=sh5 3 3 3 2 2∧Zac c l= [3,3,3,2,2]:=by
 have hd:Zac c l= [3,3,3,2,2]:=by
  have hfit:∀z:Int,fit l z=([8,24,32,80,256]:List Int).findIdx (fun x=> decide (z≤x)):=fun z=> by
   rw [←hf,List.findIdx_map]
   rfl
  have hln:l.length=5:=by have:=congrArg List.length hf;simpa using this
  have ht:Za4 c=1:=by unfold Za4;rw [h.shards,h.windows,h.slots,h.exact_];decide
  unfold Zac
  rw [hfit,hfit,hfit,hfit,hln,ht,h.shards,h.windows,h.depth,h.width,h.queue,h.key]
  decide
 rw [hd] at hs
 refine⟨?_,hd⟩
 rcases l with _ | ⟨a,_ | ⟨b,_ | ⟨x,_ | ⟨d,_ | ⟨e,_ | ⟨f,r⟩⟩⟩⟩⟩⟩ <;> try (exfalso;simp at hf;done)
 ·skip
  simp only [List.map_cons,List.map_nil,List.cons.injEq,and_true] at hf hs
  obtain⟨f1,f2,f3,f4,f5⟩:=hf
  obtain⟨s1,s2,s3,s4,s5⟩:=hs
  obtain⟨a1,a2⟩:=a
  obtain⟨b1,b2⟩:=b
  obtain⟨c1,c2⟩:=x
  obtain⟨d1,d2⟩:=d
  obtain⟨e1,e2⟩:=e
  simp only at f1 f2 f3 f4 f5 s1 s2 s3 s4 s5
  subst f1 f2 f3 f4 f5 s1 s2 s3 s4 s5
  rfl
open Go.RowKit Go.Maps Cfp
def PFe (w:World) (c:Cfg) (key:ByteArray) (ts:List Int) (kc:Nat) (V:World):Prop:=
 ∃a p led ML s q G MT mb SB cap C T k j st sc x R E EA capE D sA L,FdG w V kc a p led ML s q G MT mb SB cap c C T 5 k j ts 1 (Za4 c+c.shards*c.queue) 3 3 3 2 2 st sc [(0,5)] 1 [x] R E EA capE D sA L 1 2∧x.win=0∧x.wgt=5∧x.text=key.data.toList
theorem Zvu (w:World) (c:Cfg) (hm:Nil.Mild c) (l:List (Int × Int)) (hl:l=sh5 3 3 3 2 2) (hd:Zac c l= [3,3,3,2,2]) (C T:Option Addr) (k j B:Nat) (hr:Rd w B C 2 5 (clv l)) (ts:List Int) (hT:Rd w B T 1 16 (ts.map (.int .u64))) (htz:∀z∈ts,0≤z∧z<1) (hB:B≤w.heap.size)
  (key:ByteArray) (hke:(key.toList== [])=false) (h1:1≤key.size) (h2:key.size≤8) (ob oc:Nat) (k1 k2:ByteArray) (fA:Option Addr) (fn fc:Nat) (hops:Blk w ob 131 (opsC fA fn fc k1 k2))
  (ev:EvR) (hev:EvIn c.key ev ⟨key,0,5,0⟩) (hfr:Rd w B fA 1 fn ((Stp.frame (Zay [ev])).map by8)) (hfit:(Zay [ev]).length≤4096):
  Calls Tryz.prog 48 #[Value.agg (cfC c C 5 k T 16 j),.slice (some ⟨ob,0,none⟩) 2 oc] w (Ran1 w key):=by
 have hf:=hm.fine
 have hsp:c.spread=1:=by have:=hf.spread;have:=hm.shards;omega
 have hrt:Rtd c:=⟨hf.shards,hf.spread,hf.seed⟩
 have htr:Za4 c=1:=by unfold Za4;rw [hm.shards,hm.windows,hm.slots,hm.exact_];decide
 have hz:∀z∈ts,0≤z∧z<18446744073709551616:=fun z hz=> by have:=htz z hz;omega
 have hv:Zdu c 0 0=0:=by simp [Zdu,Zcv,hm.length,hm.lateness,hm.windows]
 have hlow:Zcv c 5=5:=by simp [Zcv,hm.length,hm.lateness]
 have hcl:Za7 l=0:=by rw [hl];decide
 have hln:l.length=5:=by rw [hl];rfl
 have hrm:Room c l:=⟨4,(256,2),by rw [hl];rfl,by rw [hl];rfl,by rw [hm.width];decide,by decide,by rw [hm.key];decide⟩
 have hfv:Zfc (Zac c l) l=0:=by rw [hd,hl];decide
 refine Zvv w c C T 5 k j key hke (by omega) ob oc k1 k2 fA fn fc hops (PFe w c key ts) (fun W kW=> ?_) ?_ ?_ ?_
 ·refine(Zmm W c hf l hcl hrm hfv ts C T 5 k j B (hr.kept kW (fun _ _ h=> h)) (hT.kept kW (fun _ _ h=> h)) (Nat.le_trans hB kW.size)).mono ?_
  rintro e w' ⟨kc,rfl,hst,kk⟩
  obtain⟨a,p,led,ML,s,q,G,MT,mb,SB,cap,C2,T2,k2,j2,R,EA,capE,sA,L,hG,hlv⟩:=hst.fdg kW kk hm.shards hm.queue (by omega) hl hln hcl
  refine⟨kc,rfl,hG.ge.1,hG.blk.lt,kk,fun W1 k1'=> ?_⟩
  refine((hG.quiet k1').feed key hf hrt hm.shards hm.queue rfl hv h1 h2 hz (by rw [htr,hm.shards,hm.queue];decide) (by omega) (by omega) hlv ev hev fA fn fc B (((hfr.kept kW (fun _ _ h=> h)).kept kk (fun _ _ h=> h)).kept k1' (fun _ _ h=> h)) (by have:=kW.size;have:=kk.size;have:=k1'.size;omega) hfit).mono ?_
  rintro e w2 ⟨A,co,rfl,ho,⟨st,sc,x,R2,E2,EA2,capE2,D2,sA2,L2,h3,hx⟩,kf⟩
  exact⟨A,co,rfl,ho,⟨a,p,led,ML,s,q,G,MT,mb,SB,cap,C2,T2,k2,j2,st,sc,x,R2,E2,EA2,capE2,D2,sA2,L2,h3,hx⟩,kf⟩
 ·rintro kc V V' r cs ⟨a,p,led,ML,s,q,G,MT,mb,SB,cap,C2,T2,k2,j2,st,sc,x,R2,E2,EA2,capE2,D2,sA2,L2,h3,hx⟩ hb hge kk
  exact⟨a,p,led,ML,s,q,G,MT,mb,SB,cap,C2,T2,k2,j2,st,sc,x,R2,E2,EA2,capE2,D2,sA2,L2,h3.kept kk (fun b e=> by subst e;exact⟨hge,_,cs,hb,by decide⟩),hx⟩
 ·rintro kc V V' ⟨a,p,led,ML,s,q,G,MT,mb,SB,cap,C2,T2,k2,j2,st,sc,x,R2,E2,EA2,capE2,D2,sA2,L2,h3,hx⟩ kk
  exact⟨a,p,led,ML,s,q,G,MT,mb,SB,cap,C2,T2,k2,j2,st,sc,x,R2,E2,EA2,capE2,D2,sA2,L2,h3.quiet kk,hx⟩
 ·rintro kc V ⟨a,p,led,ML,s,q,G,MT,mb,SB,cap,C2,T2,k2,j2,st,sc,x,R2,E2,EA2,capE2,D2,sA2,L2,h3,hx⟩
  obtain⟨es,cc,hMT,_⟩:=h3.mp
  obtain⟨es2,cc2,hML,_⟩:=h3.ld.map
  refine⟨h3.k0,⟨w.heap.size,mb⟩,MT,ML,⟨(Array.getElem?_eq_some_iff.1 hMT).1,(Array.getElem?_eq_some_iff.1 hML).1,h3.blk.lt⟩,⟨Nat.le_refl _,h3.ge.2,h3.ld.le.2,h3.ge.1⟩,fun b t cs hb=> ⟨Zc6 hMT hb,Zc6 hML hb⟩,⟨_,h3.blk⟩,fun V' kk=> ?_⟩
  exact(h3.quiet kk).toS.tick hx hf hlow hrt hm.shards hsp hm.depth hm.width hm.mode hm.slots hm.exact_ hf.top h1 h2 hz (by omega) (by rw [htr,hm.shards,hm.queue];decide) (by omega) (by omega)
open Go.RowKit Go.Maps Cfp Vp
abbrev evE (g:Nat):EvR:=⟨some ⟨g,0,none⟩,1,1,aT,0,5⟩
theorem Zux (g:Nat):EvIn 255 (evE g) ⟨aK,0,5,0⟩ where
 tags:=by intro t ht;simp at ht;subst ht;decide
 n:=Nat.le_of_lt_succ (by show(1:Nat)<9;omega)
 tm:=⟨Int.le_refl 0,by show(0:Int)≤1099511627776;omega⟩
 wt:=⟨by show(0:Int)≤5;omega,by show(5:Int)<18446744073709551616;omega⟩
 inp:=fun W A n c B hr hB hn=> by
  have hn1:n=1:=by
   have h:2=n*2:=hr.1
   omega
  subst hn1
  obtain⟨b,off,rfl,_⟩:=hr.2 (by omega)
  exact Zop W (some ⟨b,off,none⟩) 1 c 0 5 aK (fun V kV=> Zto V B b off c (hr.kept kV (fun _ _ h=> h)) (Nat.le_trans hB kV.size)) (by omega) (by omega) (by omega) (by omega) 255 (by decide)
theorem Zme (g:Nat):(Zay [evE g]).length≤4096:=by
 have e0:=(Zae 0).2
 have e1:=(Zae 1).2
 have e5:=(Zae 5).2
 have ea:=(Zae (⟨#[97]⟩:ByteArray).size).2
 have eb:=(Zae (⟨#[]⟩:ByteArray).size).2
 simp [Zay,evsb,evb,txb,tgb]
 omega
theorem Zvf:(aK.toList== [])=false:=by rw [ByteArray.toList_eq];rfl
theorem awake_ok (w:World):Calls Tryz.prog 10 #[] w fun e w'=> e= .returned (.bool true)∧Keeps NO w w':=by
 go_enter Tryz.func10,Tryz.ntmps10
 go_wp2_with fail
 refine(Nil.new_deck none 0 w.heap.size w (Nat.le_refl _)).mono ?_
 rintro e w1 ⟨rfl,hd,k1⟩
 have HCg:=zz (Nil.config_any w.heap.size w.heap.size w1 hd)
 have hg:=hd.lt
 have K1:=zz k1
 clear hd k1
 go_wp2_with fail
 refine HCg.out.mono ?_
 rintro e w2 ⟨c,l,G,b,ts,rfl,hm,hf,hs,hG,bG,htl,htz,bT,hb,_,k2⟩
 obtain⟨hl,hd⟩:=Zud c hm l hf hs
 subst hl
 have K2:=zz (K1.out.step k2 (fun b' hb' e=> by omega))
 have HMi:=zz hm
 have HDe:=zz hd
 have HTz:=zz htz
 have HRC:=zz (show Rd w2 w2.heap.size (some ⟨G,0,none⟩) 2 5 (clv (sh5 3 3 3 2 2)) from Blk.rd (sz:=2) (n:=5) (xs:=clv (sh5 3 3 3 2 2)) bG rfl)
 have HRT:=zz (show Rd w2 w2.heap.size (some ⟨b,0,none⟩) 1 16 (ts.map (.int .u64)) from Blk.rd (sz:=1) (n:=16) (xs:=ts.map (.int .u64)) bT (by simp [htl]))
 clear hm hf hs hd htz htl bG bT k2 HCg K1 hG hb hg
 go_upto_region 2 with fail
 have kX:=(Kz0 NO w2).alloc (.cells (cfC c (some ⟨G,0,none⟩) 5 5 (some ⟨b,0,none⟩) 16 16) 27)
 have BX:=zz (Blk.new w2 27 (cfC c (some ⟨G,0,none⟩) 5 5 (some ⟨b,0,none⟩) 16 16))
 have HRC:=zz (HRC.out.kept kX (fun _ _ h=> h))
 have HRT:=zz (HRT.out.kept kX (fun _ _ h=> h))
 have K3:=zz (K2.out.trans kX)
 have hs3:w2.heap.size≤_:=kX.size
 have hX3:=BX.out.lt
 clear kX K2
 obtain⟨X,hX⟩:∃X,X=w2.heap.size:=⟨_,rfl⟩
 obtain⟨wx,hwx⟩:∃wx,wx=w2.alloc (.cells (cfC c (some ⟨G,0,none⟩) 5 5 (some ⟨b,0,none⟩) 16 16) 27):=⟨_,rfl⟩
 rw [←hwx] at BX HRC HRT K3 hs3 hX3 ⊢
 rw [←hX] at BX HRC HRT hs3 hX3 ⊢
 clear hwx hX
 go_wp2_with fail
 obtain⟨g,hg⟩:∃g,g=wx.heap.size:=⟨_,rfl⟩
 obtain⟨w4,hw4⟩:∃w4,w4=(wx.alloc (.cells #[.string ⟨#[97]⟩,.string ⟨#[]⟩] 126)).alloc (.cells #[.slice (some ⟨wx.heap.size,0,none⟩) 1 1,.int .i64 0,.int .u64 5] 67):=⟨_,rfl⟩
 have BT:=Blk.new wx 126 #[.string ⟨#[97]⟩,.string ⟨#[]⟩]
 have kA:=(Kz0 NO wx).alloc (.cells #[.string ⟨#[97]⟩,.string ⟨#[]⟩] 126)
 have kB:=(Kz0 NO (wx.alloc (.cells #[.string ⟨#[97]⟩,.string ⟨#[]⟩] 126))).alloc (.cells #[.slice (some ⟨wx.heap.size,0,none⟩) 1 1,.int .i64 0,.int .u64 5] 67)
 have BE:=Blk.new_at (wx.alloc (.cells #[.string ⟨#[97]⟩,.string ⟨#[]⟩] 126)) 67 #[.slice (some ⟨wx.heap.size,0,none⟩) 1 1,.int .i64 0,.int .u64 5] (wx.heap.size+1) (by simp)
 have BT:=BT.kept kB (fun h=> h)
 have k4:=kA.trans kB
 rw [←hw4] at BE BT k4 ⊢
 rw [←hg] at BE BT ⊢
 have BX:=zz (BX.out.kept k4 (fun h=> h))
 have HRC:=zz (HRC.out.kept k4 (fun _ _ h=> h))
 have HRT:=zz (HRT.out.kept k4 (fun _ _ h=> h))
 have K4:=zz (K3.out.trans k4)
 have hs4:wx.heap.size≤_:=k4.size
 have hrE:=BE.rd (sz:=3) (n:=1) rfl
 have hrT:=BT.rd (sz:=2) (n:=1) rfl
 have hgE:=BE.lt
 clear BE BT k4 kA kB hw4 hg K3
 refine(Zsq _ 1 1 w4.heap.size [evE g] w4 hrE (Nat.le_refl _) (fun x hx=> by
  simp at hx
  subst hx
  exact⟨hrT,by intro t ht;simp [evE,aT] at ht;subst ht;decide,by show(1:Nat)≤8;omega,⟨Int.le_refl 0,by show(0:Int)≤1099511627776;omega⟩,⟨by show(0:Int)≤5;omega,by show(5:Int)<18446744073709551616;omega⟩⟩) (by omega) (by omega) (Zme g)).mono ?_
 rintro e w5 ⟨A5,n5,c5,rfl,o5,k5⟩
 have BX:=zz (BX.out.kept k5 (fun h=> h))
 have HRC:=zz (HRC.out.kept k5 (fun _ _ h=> h))
 have HRT:=zz (HRT.out.kept k5 (fun _ _ h=> h))
 have HRF:=zz (o5.rd (by omega))
 have HRG:=zz (hrT.kept k5 (fun _ _ h=> h))
 have K5:=zz (K4.out.trans k5)
 have hs5:w4.heap.size≤_:=k5.size
 clear o5 k5 K4 hrE hrT
 go_upto_region 3 with fail
 go_wp2_with (refine Zah _ rfl BX.out rfl (by rfl) ?_;simp only [Zpt])
 have kO:=(Kz0 NO w5).alloc (.cells (opsC A5 n5 c5 ⟨#[]⟩ ⟨#[]⟩) 131)
 have BO:=Blk.new w5 131 (opsC A5 n5 c5 ⟨#[]⟩ ⟨#[]⟩)
 have hs6:=BO.lt
 have HBX:=zz (BX.out.kept kO (fun h=> h))
 have K6:=zz (K5.out.trans kO)
 have hRC:=(HRC.out.kept kO (fun _ _ h=> h)).more (show X≤w5.heap.size by omega)
 have hRT:=(HRT.out.kept kO (fun _ _ h=> h)).more (show X≤w5.heap.size by omega)
 have hRF:=HRF.out.kept kO (fun _ _ h=> h)
 have hin:EvIn c.key (evE g) ⟨aK,0,5,0⟩:=by rw [HMi.out.key];exact Zux g
 refine(Zvu _ c HMi.out _ rfl HDe.out (some ⟨G,0,none⟩) (some ⟨b,0,none⟩) 5 16 w5.heap.size hRC ts hRT HTz.out (Nat.le_of_lt hs6) aK Zvf (by decide) (by decide) w5.heap.size 2 ⟨#[]⟩ ⟨#[]⟩ A5 n5 c5 BO (evE g) hin hRF (Zme g)).mono ?_
 rintro e w7 ⟨G',cG,A',co,RA,cA,A2,n2,c2,rfl,oG,oR,oB,k7⟩
 have K7:=zz (K6.out.trans k7)
 obtain⟨R0,rfl,hR0,hR1⟩:=oR.some_ (by omega)
 have g0:=oG.cell 0 (by omega)
 have g9:=oG.cell (1*8+1) (by omega)
 have r0:=oR.cell 0 (by omega)
 have HRb:=zz (oB.rd (by omega))
 have hcB:=oB.le
 have hG7:=(oG.inB ((Za0 _ _ _).2 rfl)).2
 simp only [rsC,List.getElem?_append,List.getElem?_cons_zero,List.getElem?_cons_succ,List.length_cons,List.length_nil] at g0 g9 r0
 clear oG oR oB k7 kO BO hRC hRT hRF hin K6 HRF HRC HRT BX HBX HTz HMi HDe HRG K5
 go_wp2_with fail
 refine(Zu7 w7 w7.heap.size A2 n2 c2 aK HRb.out (Nat.le_refl _) hcB Zvf (by decide)).mono ?_
 rintro e w8 ⟨GL,off,cL,GJ,cJ,rfl,hln,k8⟩
 have K8:=zz (K7.out.trans k8)
 have l1:=hln.c1
 have l2:=hln.c2
 have hGL:=block_lt_of_cell l1
 dsimp only at hGL
 clear k8 K7 HRb hln g0 g9 r0
 go_wp2_with fail
 go_ret
 exact⟨rfl,K8.out.alloc _⟩
open Go.RowKit Cfp
namespace systemRefused
theorem walk (w:World) (A1:Option Addr) (n1 c1:Nat) (z1:List Int) (r1:Rd w w.heap.size A1 1 n1 (z1.map (.int .i64))) (b1:∀z∈z1, -9223372036854775808≤z∧z<9223372036854775808) (s1:n1*8≤140737488351232) (l1:n1≤c1) (x:Int) (x0:0≤x) (x1:x<256):
  Calls Tryz.prog 3 #[.slice A1 n1 c1,.int .u8 x] w fun e w'=> e= .returned (.bool true)∧Below w.heap.size w w':=
 (main (zz awake_ok) w A1 n1 c1 z1 r1 b1 (by omega) x x0 x1).mono fun _ _ ⟨he,k⟩=> ⟨he,k.done⟩
end systemRefused
end Go.Proofs.YtjamiaamngalgaaGreat
