/-
  Parts: cluster.New: the loop ov; cluster.New: the loop ov; cluster.New of a valid c; SystemRefused: a configu. No conditions beyond those of the statement.
-/
import Derived.Test.YtjamiaamngalgaaGreatG00
import Derived.Test.YtjamiaamngalgaaGreatG20
import Derived.Deep.CutBlock
import Derived.Test.YtjamiaamngalgaaGreatG09
import Derived.Test.YtjamiaamngalgaaGreatG05
import Derived.Test.YtjamiaamngalgaaGreatG22
import Derived.Test.YtjamiaamngalgaaGreatG01
import Derived.Deep.CutRange
import Derived.Deep.RegionHeld3
set_option linter.unusedVariables false
set_option linter.unusedSimpArgs false
set_option maxRecDepth 1000000
set_option maxHeartbeats 4000000
namespace Go.Proofs.YtjamiaamngalgaaGreat
open Go.RowKit Cfp
theorem Zv2:ElemOf Tryz.prog 41 48 1 8:=ElemOf.mk' (z:= .pointer none) Tryz.underlying41 (by kernel_rfl) rfl (by omega)
namespace cnew
noncomputable def rg14:Code:=((Tryz.f9.body.bind (findReg 14)).getD .skip)
structure ShE where
 s:Nat
 q:Nat
 G:Nat
 M:Nat
def ShMade (w:World) (B0 a p:Nat) (c:Cfg) (C T:Option Addr) (n k j:Nat) (x:ShE):Prop:=
 ∃B,B0≤B∧ShB w B x.s a p x.q x.M c C T n k j∧IsQ w B x.q a p x.G c.queue.toNat [] (List.replicate c.queue.toNat Wt.zero)
theorem ShMade.kept {w w':World} {B0 a p:Nat} {c:Cfg} {C T:Option Addr} {n k j:Nat} {x:ShE} {S:Nat→Prop} (h:ShMade w B0 a p c C T n k j x) (kk:Keeps S w w') (hS:∀b,S b→b<B0):ShMade w' B0 a p c C T n k j x:=by
 obtain⟨B,h0,h1,h2⟩:=h
 refine⟨B,h0,h1.kept kk (fun e=> ?_) (fun e=> ?_),h2.kept kk (fun e=> ?_) (fun e=> ?_)⟩
 ·have:=hS _ e;have:=h1.le.1;omega
 ·have:=hS _ e;have:=h1.le.2;omega
 ·have:=hS _ e;have:=h2.le;omega
 ·have:=hS _ e;have:=(h2.own.inB ((Za0 _ _ _).2 rfl)).1;omega
theorem ShMade.apart {w w':World} {B0 a p:Nat} {c:Cfg} {C T:Option Addr} {n k j:Nat} {x:ShE} {S:Nat→Prop} (h:ShMade w B0 a p c C T n k j x) (kk:Keeps S w w') (hS:∀b,S b→∃cs,Blk w b 48 cs):ShMade w' B0 a p c C T n k j x:=by
 obtain⟨B,h0,h1,h2⟩:=h
 refine⟨B,h0,h1.kept kk (fun e=> ?_) (fun e=> ?_),h2.kept kk (fun e=> ?_) (fun e=> ?_)⟩
 ·obtain⟨cs,hc⟩:=hS _ e;exact h1.blk.ne hc (by decide) rfl
 ·obtain⟨cs,hc⟩:=hS _ e
  have:=h1.map
  unfold Blk at hc
  rw [hc] at this
  cases this
 ·obtain⟨cs,hc⟩:=hS _ e;exact h2.blk.ne hc (by decide) rfl
 ·obtain⟨cs,hc⟩:=hS _ e
  obtain⟨ds,hd⟩:=h2.blkG
  exact hd.ne hc (by decide) rfl
theorem reg14 (w1:World) (kc a p:Nat) (c:Cfg) (C T:Option Addr) (n k j:Nat) (h1:1≤c.queue) (h2:c.queue≤64)
  (b5:∀i v,((cfC c C n k T 16 j):Array Value).toList[i]?=some v→w1.cell? ⟨kc,0+i,none⟩=some v) (b17:w1.cell? ⟨kc,17,none⟩=some (.pointer (some ⟨a,0,none⟩))) (s0 s1 s2 s3 s4 s6 s8 s9 s10 s11 s12 s13 s14 s15 s16 s17 s18 s19 s20 s21 s22 s23 s24 s25 s26 s27 s28 s29 s30 s31 s32 s33 s34 s35 s36 s37 s38 s39 s40 s41 s42 s43 s44 s45 s46 s47 s48 s49 s50 s51 s52 s53 s54 s55 s56 s57 s58 s59 s60 s61 s62 s63 s64 s65 s66 s67 s68 s69 s70 s71 s72 s73 s74 s75 s76 s77 s78 s79 s80 s81 s82:Value):
  Code.wp Tryz.prog rg14 (NormPost fun a' w'=> ∃x,(ShMade w' w1.heap.size a p c C T n k j x∧Keeps NO w1 w')∧(∃u55 u56 u57 u58 u59 u60 u61 u62 u63 u64 u65 u66 u67:Value,a'=⟨#[s0,s1,s2,s3,s4,.pointer (some ⟨kc,0,none⟩),s6,.pointer (some ⟨p,0,none⟩),.pointer (some ⟨x.s,0,none⟩),.int .i64 0,s10,s11,s12,s13,s14,s15,s16,s17,s18,s19,s20,s21,s22,s23,s24,s25,s26,s27,s28,s29,s30,s31,s32,s33,s34,s35,s36,s37,s38,s39,s40,s41,s42,s43,s44,s45,s46,s47,s48,s49,s50,s51,s52,s53,s54,u55,u56,u57,u58,u59,u60,u61,u62,u63,u64,u65,u66,u67,s68,s69,s70,s71,s72,s73,s74,s75,s76,s77,s78,s79,s80,s81,s82],[]⟩)) ⟨#[s0,s1,s2,s3,s4,.pointer (some ⟨kc,0,none⟩),s6,.pointer (some ⟨p,0,none⟩),s8,s9,s10,s11,s12,s13,s14,s15,s16,s17,s18,s19,s20,s21,s22,s23,s24,s25,s26,s27,s28,s29,s30,s31,s32,s33,s34,s35,s36,s37,s38,s39,s40,s41,s42,s43,s44,s45,s46,s47,s48,s49,s50,s51,s52,s53,s54,s55,s56,s57,s58,s59,s60,s61,s62,s63,s64,s65,s66,s67,s68,s69,s70,s71,s72,s73,s74,s75,s76,s77,s78,s79,s80,s81,s82],[]⟩ w1:=by
 have HSg:Hid (∀W,Keeps NO w1 W→((∀i v,((cfC c C n k T 16 j):Array Value).toList[i]?=some v→W.cell? ⟨kc,0+i,none⟩=some v)∧True)∧W.cell? ⟨kc,17,none⟩=some (.pointer (some ⟨a,0,none⟩))∧True):=zz (fun W kW=> ⟨⟨fun i v hv=> kW.cell_some (b5 i v hv) (fun h=> h),trivial⟩,kW.cell_some b17 (fun h=> h),trivial⟩)
 have k0:Keeps NO w1 w1.drew:=(Kz0 _ _).drew
 have KK:=zz k0
 clear b5 b17 k0
 conv=> arg 2;whnf
 dsimp only
 refine wp_region_held_drew (S:=fun W=> ((∀i v,((cfC c C n k T 16 j):Array Value).toList[i]?=some v→W.cell? ⟨kc,0+i,none⟩=some v)∧True)∧W.cell? ⟨kc,17,none⟩=some (.pointer (some ⟨a,0,none⟩))∧True) (by kernel_rfl) (HSg.out _ KK.out) (fun hHeld=> ?_)
 refine tkH 0 ?_ (hy:=by intro w hSw; (try dsimp only at hSw);obtain⟨⟨hS1,hS2⟩,hS3,hS4⟩:=hSw;clear hS1;go_simp;try (with_reducible rfl))
 refine tkH 1 ?_ (hy:=by intro w hSw; (try dsimp only at hSw);obtain⟨⟨hS1,hS2⟩,hS3,hS4⟩:=hSw;clear hS1;go_simp;try (with_reducible rfl))
 refine tkH 2 ?_ (hy:=by intro w hSw; (try dsimp only at hSw);obtain⟨⟨hS1,hS2⟩,hS3,hS4⟩:=hSw;clear hS1;go_simp;try (with_reducible rfl))
 refine tkH 3 ?_ (hy:=by intro w hSw; (try dsimp only at hSw);obtain⟨⟨hS1,hS2⟩,hS3,hS4⟩:=hSw;clear hS1;go_simp;try (with_reducible rfl))
 refine tkH 4 ?_ (hy:=by intro w hSw; (try dsimp only at hSw);obtain⟨⟨hS1,hS2⟩,hS3,hS4⟩:=hSw;clear hS1;go_simp;try (with_reducible rfl))
 refine tkH 5 ?_ (hy:=by intro w hSw; (try dsimp only at hSw);obtain⟨⟨hS1,hS2⟩,hS3,hS4⟩:=hSw;clear hS1;go_simp;try (with_reducible rfl))
 refine tkH 6 ?_ (hy:=by intro w hSw; (try dsimp only at hSw);obtain⟨⟨hS1,hS2⟩,hS3,hS4⟩:=hSw;clear hS1;go_simp;try (with_reducible rfl))
 refine tkH 7 ?_ (hy:=by intro w hSw; (try dsimp only at hSw);obtain⟨⟨hS1,hS2⟩,hS3,hS4⟩:=hSw;clear hS1;go_simp;try (with_reducible rfl))
 refine wpAnyH_take (i:=8) (v:=_) rfl (by kernel_rfl) (by kernel_rfl) (by kernel_rfl) (fun _ _ _ h=> h) (Zal (c:=c) (C:=C) (T:=T) (n:=n) (k:=k) (q:=16) (j:=j) (g:=kc) (off:=0) (.tmp 63) rfl (fun _ h=> h.1.1) (by simp [Act.eval,Act.put]) (by kernel_rfl)) (by assumption) ?_
 (try simp only [Zpt])
 generalize w1.drew=wd at*
 refine rd1 9 (fun K hK=> ?_)
 go_simp
 go_at_call 14
 refine(Zki wd a p c C T n k j h1 h2).mono ?_
 rintro e w2 ⟨s,q,G,M,rfl,hb,hq,kk⟩
 have K2:=zz (KK.out.trans kk)
 have hs:=KK.out.size
 have HM:Hid (ShMade w2 w1.heap.size a p c C T n k j ⟨s,q,G,M⟩):=zz ⟨wd.heap.size,hs,hb,hq⟩
 clear kk KK hb hq
 try go_wp2_with fail
 refine hK.out _ _ (HSg.out _ K2.out) (fun hHeld=> ?_)
 clear hK K
 (try simp only [Zpt])
 refine tkH 10 ?_ (hy:=by intro w hSw; (try dsimp only at hSw);obtain⟨⟨hS1,hS2⟩,hS3,hS4⟩:=hSw;clear hS1;go_simp;try (with_reducible rfl))
 refine tkH 11 ?_ (hy:=by intro w hSw; (try dsimp only at hSw);obtain⟨⟨hS1,hS2⟩,hS3,hS4⟩:=hSw;clear hS1;go_simp;try (with_reducible rfl))
 refine tkH 12 ?_ (hy:=by intro w hSw; (try dsimp only at hSw);obtain⟨⟨hS1,hS2⟩,hS3,hS4⟩:=hSw;clear hS1;go_simp;try (with_reducible rfl))
 refine tkH 13 ?_ (hy:=by intro w hSw; (try dsimp only at hSw);obtain⟨⟨hS1,hS2⟩,hS3,hS4⟩:=hSw;clear hS1;go_simp;try (with_reducible rfl))
 refine tkH 14 ?_ (hy:=by intro w hSw; (try dsimp only at hSw);obtain⟨⟨hS1,hS2⟩,hS3,hS4⟩:=hSw;clear hS1;go_simp;try (with_reducible rfl))
 refine wpAnyH_done (by kernel_rfl) ?_ _
 exact⟨⟨s,q,G,M⟩,⟨HM.out,K2.out⟩,⟨_,_,_,_,_,_,_,_,_,_,_,_,_,rfl⟩⟩
end cnew
open Go.RowKit Cfp
namespace cnew
def Zg7:Code→List Code
 | .loop c=> c :: Zg7 c
 | .seq a b=> Zg7 a++Zg7 b
 | .block _ c=> Zg7 c
 | .scope c=> Zg7 c
 | .cond _ a b=> Zg7 a++Zg7 b
 | _=> []
def Zn8 (k:Nat) (W:Act→World→Prop):Exit→Act→World→Prop
 | .exit i,a,w=> i=k∧W a w
 | _,_,_=> False
noncomputable def lp:Code:=((Zg7 Tryz.f9.body.get!)[0]?.getD .skip)
def Zn6 (w0:World) (kc a p:Nat) (c:Cfg) (C T:Option Addr) (n k j led:Nat) (L:List ShE) (SA:Option Addr) (cap:Nat) (wr:World):Prop:=
 Own wr w0.heap.size 48 1 SA L.length cap (L.map fun x=> .pointer (some ⟨x.s,0,none⟩))∧(∀x∈L,ShMade wr w0.heap.size a p c C T n k j x)∧
  Blk wr kc 123 (cluC c C T n k j (.pointer (some ⟨a,0,none⟩)) SA L.length cap led none 0 0 0 false 0)∧Keeps (· =kc) w0 wr
theorem loop (w0:World) (kc a p:Nat) (c:Cfg) (C T:Option Addr) (n k j led:Nat) (h1:1≤c.queue) (h2:c.queue≤64) (m:Nat) (hm:m≤8)
  (hb:Blk w0 kc 123 (cluC c C T n k j (.pointer (some ⟨a,0,none⟩)) none 0 0 led none 0 0 0 false 0)) (s0 s1 s2 s3 s4 s6 s8 s9 s10 s11 s12 s13 s14 s15 s16 s17 s18 s19 s20 s21 s22 s23 s24 s25 s26 s27 s28 s29 s30 s31 s32 s33 s34 s35 s36 s37 s38 s39 s40 s41 s42 s43 s44 s45 s46 s47 s48 s49 s50 s51 s54 s55 s56 s57 s58 s59 s60 s61 s62 s63 s64 s65 s66 s67 s68 s69 s70 s71 s72 s73 s74 s75 s76 s77 s78 s79 s80 s81 s82:Value):
  Code.wp Tryz.prog (Code.loop lp) (Zn8 0 fun a' w'=> ∃L SA cap,L.length=m∧Zn6 w0 kc a p c C T n k j led L SA cap w'∧(∃u2 u3 u8 u9 u53 u54 u55 u56 u57 u58 u59 u60 u61 u62 u63 u64 u65 u66 u67 u68 u69 u70 u71 u72 u73 u74 u75 u76 u77 u78 u79 u80 u81:Value,a'=⟨#[s0,s1,u2,u3,s4,.pointer (some ⟨kc,0,none⟩),s6,.pointer (some ⟨p,0,none⟩),u8,u9,s10,s11,s12,s13,s14,s15,s16,s17,s18,s19,s20,s21,s22,s23,s24,s25,s26,s27,s28,s29,s30,s31,s32,s33,s34,s35,s36,s37,s38,s39,s40,s41,s42,s43,s44,s45,s46,s47,s48,s49,s50,s51,.int .i64 (m:Int),u53,u54,u55,u56,u57,u58,u59,u60,u61,u62,u63,u64,u65,u66,u67,u68,u69,u70,u71,u72,u73,u74,u75,u76,u77,u78,u79,u80,u81,s82],[]⟩)) ⟨#[s0,s1,s2,s3,s4,.pointer (some ⟨kc,0,none⟩),s6,.pointer (some ⟨p,0,none⟩),s8,s9,s10,s11,s12,s13,s14,s15,s16,s17,s18,s19,s20,s21,s22,s23,s24,s25,s26,s27,s28,s29,s30,s31,s32,s33,s34,s35,s36,s37,s38,s39,s40,s41,s42,s43,s44,s45,s46,s47,s48,s49,s50,s51,.int .i64 (m:Int),.int .i64 0,s54,s55,s56,s57,s58,s59,s60,s61,s62,s63,s64,s65,s66,s67,s68,s69,s70,s71,s72,s73,s74,s75,s76,s77,s78,s79,s80,s81,s82],[]⟩ w0:=by
 have hk0:=hb.lt
 have HI:Hid (Zn6 w0 kc a p c C T n k j led [] none 0 w0):=zz ⟨Own.nil _ _ _ _,fun x hx=> (by cases hx),hb,Kz0 _ _⟩
 clear hb
 conv=> arg 2;arg 1;whnf
 dsimp only
 go_loopw [53] (fun iv wr=> ∃(L:List ShE) (SA:Option Addr) (cap:Nat),L.length≤m∧iv= .int .i64 (L.length:Int)∧Hid (Zn6 w0 kc a p c C T n k j led L SA cap wr)) (fun iv _=> m-(intOf iv).toNat)
 case atStart=> exact⟨[],none,0,by simp,rfl,HI⟩
 case round=>
  obtain⟨L,SA,cap,hi,rfl,HS⟩:=hrel
  obtain⟨i,hil⟩:∃i,i=L.length:=⟨_,rfl⟩
  have HIL:=zz hil
  obtain⟨oS,mS,bS,kS⟩:=HS.out
  rw [←hil] at hi oS bS ⊢
  clear hil
  have OS:=zz oS
  have MS:=zz mS
  have BS:=zz bS
  have KS:=zz kS
  have hsr:=kS.size
  clear oS mS bS kS HS HI
  by_cases hlt:i<m
  ·have HLT:Hid (i+1≤m):=hlt
   have h0:(i:Int)<(m:Int):=by omega
   have h00:(0:Int)≤(i:Int):=by omega
   go_upto_region 14 with fail
   refine Code.wp_mono ?_ (reg14 wr kc a p c C T n k j h1 h2 (fun q v hv=> by
    have hq:q<17:=by have:=(List.getElem?_eq_some_iff.1 hv).1;simpa using this
    rw [Nat.zero_add,BS.out.cell q,←hv]
    simp only [List.getElem?_toArray]
    rcases q with _ | _ | _ | _ | _ | _ | _ | _ | _ | _ | _ | _ | _ | _ | _ | _ | _ | q <;> first | rfl | omega) (BS.out.cell 17) _ _ _ _ _ _ _ _ _ _ _ _ _ _ _ _ _ _ _ _ _ _ _ _ _ _ _ _ _ _ _ _ _ _ _ _ _ _ _ _ _ _ _ _ _ _ _ _ _ _ _ _ _ _ _ _ _ _ _ _ _ _ _ _ _ _ _ _ _ _ _ _ _ _ _ _ _ _ _ _ _)
   intro e a' w2 hex
   cases e <;> (first | exact hex.elim | skip)
   obtain⟨x,⟨hx,k2⟩,⟨v55,v56,v57,v58,v59,v60,v61,v62,v63,v64,v65,v66,v67,rfl⟩⟩:=hex
   have OS2:=zz (OS.out.kept k2 (fun _ _ h=> h))
   have BS2:=zz (BS.out.kept k2 (fun h=> h))
   have KS2:=zz (KS.out.step0 k2)
   have MS2:Hid (∀y∈L,ShMade w2 w0.heap.size a p c C T n k j y):=zz (fun y hy=> (MS.out y hy).kept k2 (fun _ h=> h.elim))
   have MX:Hid (ShMade w2 w0.heap.size a p c C T n k j x):=zz (by obtain⟨B,b1,b2,b3⟩:=hx;exact⟨B,by omega,b2,b3⟩)
   clear OS BS KS MS hx k2
   dsimp only
   have q18:w2.cell? ⟨kc,18,none⟩=some (.slice SA i cap):=BS2.out.cell 18
   have hs2:=KS2.out.size
   have kA:=(Kz0 NO w2).alloc (.cells #[.pointer (some ⟨x.s,0,none⟩)] 48)
   have HOA:=zz (OS2.out.kept kA (fun _ _ h=> h))
   have HRA:=zz (show Rd (w2.alloc (.cells #[.pointer (some ⟨x.s,0,none⟩)] 48)) (w2.alloc (.cells #[.pointer (some ⟨x.s,0,none⟩)] 48)).heap.size (some ⟨w2.heap.size,0,none⟩) 1 1 [.pointer (some ⟨x.s,0,none⟩)] from(Blk.new w2 48 #[.pointer (some ⟨x.s,0,none⟩)]).rd (xs:= [.pointer (some ⟨x.s,0,none⟩)]) (n:=1) (sz:=1) rfl)
   have HBA:=zz (BS2.out.kept kA (fun h=> h))
   have HKA:=zz (KS2.out.step0 kA)
   have HMA:Hid (∀y∈L++ [x],ShMade (w2.alloc (.cells #[.pointer (some ⟨x.s,0,none⟩)] 48)) w0.heap.size a p c C T n k j y):=zz (fun y hy=> by
    rcases List.mem_append.1 hy with h | h
    ·exact(MS2.out y h).kept kA (fun _ h=> h.elim)
    ·obtain rfl:y=x:=by simpa using h
     exact MX.out.kept kA (fun _ h=> h.elim))
   clear OS2 BS2 KS2 MS2 MX kA
   go_upto_region 18 with (at_builtin;refine Za5 _ Zv2 rfl (.tmp 75) (.tmp 77) rfl w0.heap.size (L.map fun x=> .pointer (some ⟨x.s,0,none⟩)) rfl HOA.out _ (m:=1) [.pointer (some ⟨x.s,0,none⟩)] rfl HRA.out (by simp [Value.oneCell']) (by simp only [maxLen];omega) (by omega) (by simp;omega) ?_;intro A7 c7 w7 o7 k7 _;have O7:=zz o7;have B7:=zz (HBA.out.kept k7 (fun h=> by have:=(HOA.out.inB h).1;omega));have K7:=zz (HKA.out.step k7 (fun b hb h=> by have:=(HOA.out.inB h).1;omega));have M7:=zz (fun y hy=> (HMA.out y hy).apart k7 (fun b hb=> HOA.out.blk hb));have q18':=B7.out.cell 18;have f18:=B7.out.frozen 18;clear o7 k7)
   have kS:Keeps (· =kc) w7 (w7.setCell ⟨kc,18,none⟩ (.slice A7 (i+1) c7)):=Keeps.setCell (S:=(· =kc)) (p:=⟨kc,18,none⟩) (Kz0 _ _) (.inl rfl) _
   have hl1:(L++ [x]).length=i+1:=by rw [List.length_append,←HIL.out];rfl
   have HN:Hid (Zn6 w0 kc a p c C T n k j led (L++ [x]) A7 c7 (w7.setCell ⟨kc,18,none⟩ (.slice A7 (i+1) c7))):=zz ⟨by
     rw [hl1,List.map_append]
     exact O7.out.kept kS (fun b hb e=> by have:=(O7.out.inB hb).1;omega),
    fun y hy=> (M7.out y hy).kept kS (fun b hb=> by omega),by rw [hl1];exact B7.out.set 18 _,K7.out.trans kS⟩
   have HL1:=zz hl1
   clear kS HOA HRA HBA HKA HMA O7 B7 K7 M7 q18 q18' f18 hl1
   generalize w7.setCell _ _=w8 at*
   go_wp2_with fail
   go_roundw
   case rel=> exact⟨L++ [x],A7,c7,by rw [HL1.out];exact HLT.out,by rw [HL1.out];go_num,HN⟩
   case measure=> have:=HLT.out;simp [intOf];omega
  ·obtain rfl:i=m:=by omega
   go_wp2_with fail
   have hs:Zn6 w0 kc a p c C T n k j led L SA cap wr:=⟨by rw [←HIL.out];exact OS.out,MS.out,by rw [←HIL.out];exact BS.out,KS.out⟩
   first | exact⟨rfl,L,SA,cap,HIL.out.symm,hs,_,_,_,_,_,_,_,_,_,_,_,_,_,_,_,_,_,_,_,_,_,_,_,_,_,_,_,_,_,_,_,_,_,rfl⟩ | exact⟨rfl,L,HIL.out.symm,⟨SA,cap,hs⟩,_,_,_,_,_,_,_,_,_,_,_,_,_,_,_,_,_,_,_,_,_,_,_,_,_,_,_,_,_,_,_,_,_,rfl⟩ | exact⟨rfl,⟨L,HIL.out.symm,⟨SA,cap,hs⟩⟩,_,_,_,_,_,_,_,_,_,_,_,_,_,_,_,_,_,_,_,_,_,_,_,_,_,_,_,_,_,_,_,_,_,rfl⟩ | exact⟨rfl,L,⟨SA,cap,HIL.out.symm,hs⟩,_,_,_,_,_,_,_,_,_,_,_,_,_,_,_,_,_,_,_,_,_,_,_,_,_,_,_,_,_,_,_,_,_,rfl⟩ | (trace_state;fail)
end cnew
open Go.RowKit Cfp cnew
theorem Zio:∀l:List (Int × Int),clv l=prs l
 | []=> rfl
 | c :: l=> by
   show Value.int .i64 c.1 :: .int .i64 c.2 :: clv l= [Value.int .i64 c.1,.int .i64 c.2]++prs l
   rw [Zio l]
   rfl
structure CluSt (w0 w':World) (c:Cfg) (n:Nat) (l:List (Int × Int)) (ts:List Int) (kc:Nat):Prop where
 all:∃(a p led M:Nat) (C T:Option Addr) (k j:Nat) (L:List ShE) (SA:Option Addr) (cap:Nat) (CA:Option Addr) (ac:Nat) (pg pm Ba Bp:Nat),
  (Own w' w0.heap.size 35 2 C n k (clv l)∧Own w' w0.heap.size 23 1 T 16 j (ts.map (.int .u64)))∧(w0.heap.size≤Ba∧IsAr w' Ba a (Zap l n CA ac))∧
  (w0.heap.size≤Bp∧IsPo w' Bp p a (Za4 c+c.shards*c.queue) [PE.zero] (some ⟨pg,0,none⟩) 1 pm (.map []))∧
  (Blk w' led 213 #[.map (some M),.int .i64 0,.int .u64 0,.int .u64 0,.int .u64 0,.int .u64 0,.int .u64 0,.int .u64 0,.int .u64 0]∧w'.heap[M]?=some (.map #[] 0))∧
  ((L.length:Int)=c.shards∧Own w' w0.heap.size 48 1 SA L.length cap (L.map fun x=> .pointer (some ⟨x.s,0,none⟩))∧∀x∈L,ShMade w' w0.heap.size a p c C T n k j x)∧
  (w0.heap.size≤led∧w0.heap.size≤M∧w0.heap.size≤kc∧M<pm∧∀x∈L,pm<x.M)∧
  Blk w' kc 123 (cluC c C T n k j (.pointer (some ⟨a,0,none⟩)) SA L.length cap led none 0 0 0 false 0)
def Zvo (w:World) (c:Cfg) (n:Nat) (l:List (Int × Int)) (ts:List Int) (e:Ending) (w':World):Prop:=
 ∃kc,e= .returned (.tuple #[.pointer (some ⟨kc,0,none⟩),.int .i64 0])∧CluSt w w' c n l ts kc∧Keeps NO w w'
theorem Zmm (w:World) (c:Cfg) (hf:Fine c) (l:List (Int × Int)) (hcl:Za7 l=0) (hrm:Room c l) (hv:Zfc (Zac c l) l=0) (ts:List Int) (C T:Option Addr) (n k j B:Nat) (hr:Rd w B C 2 n (clv l)) (hT:Rd w B T 1 16 (ts.map (.int .u64))) (hB:B≤w.heap.size):
  Calls Tryz.prog 9 #[Value.agg (cfC c C n k T 16 j)] w (Zvo w c n l ts):=by
 have hlen:l.length=n:=by have:=hr.1;rw [Zax] at this;omega
 obtain⟨⟨n0,n1⟩,_⟩:=Zan l hcl
 rw [hlen] at n0 n1
 obtain⟨w1,hw1⟩:∃w1,w1=w.alloc (.cells (cfC c C n k T 16 j) 27):=⟨_,rfl⟩
 have k1:Keeps NO w w1:=by rw [hw1];exact(Kz0 _ _).alloc _
 have B1:Hid (Blk w1 w.heap.size 27 (cfC c C n k T 16 j)):=zz (by rw [hw1];exact Blk.new _ _ _)
 have HR:=zz (hr.kept k1 (fun _ _ h=> h))
 have HT:=zz (hT.kept k1 (fun _ _ h=> h))
 have hs1:w.heap.size<w1.heap.size:=B1.out.lt
 have HV:=zz (Zdh c hf l hcl hrm C T n k j B w1 HR.out (by omega))
 rw [hv] at HV
 have HTr:=zz (fun W (kW:Keeps NO w1 W)=> Zdv c hf l hcl hrm C T n k j B W (HR.out.kept kW (fun _ _ h=> h)) (by have:=kW.size;omega))
 have HCl:=zz (fun W (kW:Keeps NO w1 W)=> Zmt W B c C T n k j l ts (HR.out.kept kW (fun _ _ h=> h)) (HT.out.kept kW (fun _ _ h=> h)) (by have:=kW.size;omega) (by omega))
 have HAr:=zz (fun W (kW:Keeps NO w1 W)=> Ztc l hcl C n k B W (by rw [←Zio];exact HR.out.kept kW (fun _ _ h=> h)) (by have:=kW.size;omega))
 have K1:=zz k1
 have HW:=zz hw1
 have HF:=zz hf
 have HLn:=zz hlen
 clear hw1 k1 hr hT hv hcl hrm hf hlen
 go_enter Tryz.func9,Tryz.ntmps9
 go_upto_region 1 with fail
 rw [←HW.out]
 clear HW
 go_wp2_with (refine Zah _ rfl B1.out rfl (by rfl) ?_;simp only [Zpt])
 refine HV.out.mono ?_
 rintro e w2 ⟨rfl,k2⟩
 have B1:=zz (B1.out.kept k2 (fun h=> h))
 have K12:=zz k2
 clear k2 HV
 go_wp2_with (refine Zah _ rfl B1.out rfl (by rfl) ?_;simp only [Zpt])
 refine(HCl.out _ K12.out).mono ?_
 rintro e w3 ⟨C',k',T',j',rfl,oC,oT,k3⟩
 have hs2:=K12.out.size
 have OC:=zz (oC.base_le (show w.heap.size≤_ by omega))
 have OT:=zz (oT.base_le (show w.heap.size≤_ by omega))
 have B1:=zz (B1.out.kept k3 (fun h=> h))
 have K13:=zz (K12.out.trans k3)
 clear oC oT k3 K12 HCl
 go_wp2_with fail
 refine(Zjk w3).mono ?_
 rintro e w4 ⟨led,M,rfl,bL,mL,hlM,k4⟩
 have OC:=zz (OC.out.kept k4 (fun _ _ h=> h))
 have OT:=zz (OT.out.kept k4 (fun _ _ h=> h))
 have B1:=zz (B1.out.kept k4 (fun h=> h))
 have K14:=zz (K13.out.trans k4)
 have BL:=zz bL
 have ML:=zz mL
 have hled0:w.heap.size≤led∧w.heap.size≤M:=by have:=K13.out.size;omega
 clear k4 K13 bL mL
 go_upto_region 6 with fail
 have kA:=(Kz0 NO w4).alloc (.cells (cluC c C' T' n k' j' (.pointer none) none 0 0 led none 0 0 0 false 0) 123)
 have BK:=zz (Blk.new w4 123 (cluC c C' T' n k' j' (.pointer none) none 0 0 led none 0 0 0 false 0))
 have OC:=zz (OC.out.kept kA (fun _ _ h=> h))
 have OT:=zz (OT.out.kept kA (fun _ _ h=> h))
 have B1:=zz (B1.out.kept kA (fun h=> h))
 have BL:=zz (BL.out.kept kA (fun h=> h))
 have ML:=zz ((kA.block M (lt_of_block ML.out) (fun h=> h)).trans ML.out)
 have K15:=zz (K14.out.trans kA)
 have hkc1:w1.heap.size≤w4.heap.size:=K14.out.size
 clear kA K14
 generalize w4.alloc _=w5 at*
 generalize w4.heap.size=kc at*
 have q14:w5.cell? ⟨w.heap.size,14,none⟩=some (.slice C n k):=B1.out.cell 14
 go_wp2_with fail
 refine(HAr.out w5 K15.out).mono ?_
 rintro e w6 ⟨a,CA,ac,rfl,ha,k6⟩
 have hs5:=K15.out.size
 have hkc5:=BK.out.lt
 have hkM:M≠kc:=by
  intro e
  have h1:=ML.out
  have h2:=BK.out
  unfold Blk at h2
  rw [e,h2] at h1
  cases h1
 have hkL:led≠kc:=BL.out.ne BK.out (by decide)
 have OC:=zz (OC.out.kept k6 (fun _ _ h=> h))
 have OT:=zz (OT.out.kept k6 (fun _ _ h=> h))
 have B1:=zz (B1.out.kept k6 (fun h=> h))
 have BL:=zz (BL.out.kept k6 (fun h=> h))
 have ML:=zz ((k6.block M (lt_of_block ML.out) (fun h=> h)).trans ML.out)
 have BK:=zz (BK.out.kept k6 (fun h=> h))
 have K16:=zz (K15.out.trans k6)
 have q17:=BK.out.cell 17
 have f17:=BK.out.frozen 17
 have kS:Keeps (· =kc) w6 (w6.setCell ⟨kc,17,none⟩ (.pointer (some ⟨a,0,none⟩))):=Keeps.setCell (S:=(· =kc)) (p:=⟨kc,17,none⟩) (Kz0 _ _) (.inl rfl) _
 have HA:=zz (ha.kept kS (fun b hb=> by subst hb;exact .inl hkc5))
 have OC:=zz (OC.out.kept kS (fun b hb e=> OC.out.ne_blk BK.out (by decide) hb e))
 have OT:=zz (OT.out.kept kS (fun b hb e=> OT.out.ne_blk BK.out (by decide) hb e))
 have B1:=zz (B1.out.kept kS (fun e=> B1.out.ne BK.out (by decide) e))
 have BL:=zz (BL.out.kept kS hkL)
 have ML:=zz ((kS.block M (lt_of_block ML.out) hkM).trans ML.out)
 have BK:=zz (BK.out.set 17 (.pointer (some ⟨a,0,none⟩)))
 have K17:=zz ((K1.out.trans K16.out).step kS (fun b hb e=> by omega))
 have K17c:=zz (K16.out.step kS (fun b hb e=> by omega))
 clear kS k6 ha q14 K15 K16 HAr
 go_upto_region 9 with fail
 clear q17 f17
 generalize w6.setCell _ _=w7 at*
 have HTr7:=zz (fun W (kW:Keeps NO w7 W)=> HTr.out W (K17c.out.trans kW))
 have hs7:=K17c.out.size
 have hkc7:=BK.out.lt
 refine Code.wp_mono ?_ (Zo7 w7 w.heap.size kc a c C T n k j HF.out HTr7 B1.out (BK.out.cell 17) _ _ _ _ _ _ _ _ _ _ _ _ _ _ _ _ _ _ _ _ _ _ _ _ _ _ _ _ _ _ _ _ _ _ _ _ _ _ _ _ _ _ _ _ _ _ _ _ _ _ _ _ _ _ _ _ _ _ _ _ _ _ _ _ _ _ _ _ _ _ _ _ _ _ _ _ _ _ _ _ _)
 intro e a' w8 hex
 cases e <;> (first | exact hex.elim | skip)
 obtain⟨p,⟨Bp,pg,pm,hBp,ip,k8⟩,⟨v32,v33,v34,v35,v36,v37,v38,v39,v40,v41,v42,v43,v44,v45,v46,v47,rfl⟩⟩:=hex
 have hM7:M<w7.heap.size:=lt_of_block ML.out
 have hpm8:pm<w8.heap.size:=by obtain⟨es,cc,hh⟩:=ip.map.block;exact lt_of_block hh
 have hMpm:M<pm:=by have:=ip.lem;omega
 have OC:=zz (OC.out.kept k8 (fun _ _ h=> h))
 have OT:=zz (OT.out.kept k8 (fun _ _ h=> h))
 have B1:=zz (B1.out.kept k8 (fun h=> h))
 have BL:=zz (BL.out.kept k8 (fun h=> h))
 have ML:=zz ((k8.block M (lt_of_block ML.out) (fun h=> h)).trans ML.out)
 have BK:=zz (BK.out.kept k8 (fun h=> h))
 have HA:=zz (HA.out.quiet k8)
 have IP:=zz ip
 have K18:=zz (K17.out.trans k8)
 have hs8:=k8.size
 clear k8 ip K17 K17c HTr HTr7
 dsimp only
 obtain⟨m,hm⟩:∃m:Nat,c.shards=(m:Int):=⟨c.shards.toNat,by have:=HF.out.shards;omega⟩
 have hm8:m≤8:=by have:=HF.out.shards;omega
 have q3:w8.cell? ⟨w.heap.size,3,none⟩=some (.int .i64 (m:Int)):=by rw [←hm];exact B1.out.cell 3
 have HMm:=zz hm
 clear hm
 go_wp2_with fail
 refine Code.wp_mono ?_ (cnew.loop w8 kc a p c C' T' n k' j' led HF.out.queue.1 HF.out.queue.2 m hm8 BK.out _ _ _ _ _ _ _ _ _ _ _ _ _ _ _ _ _ _ _ _ _ _ _ _ _ _ _ _ _ _ _ _ _ _ _ _ _ _ _ _ _ _ _ _ _ _ _ _ _ _ _ _ _ _ _ _ _ _ _ _ _ _ _ _ _ _ _ _ _ _ _ _ _ _ _ _ _ _ _)
 intro e a' w9 hex
 cases e <;> (first | exact hex.elim | skip)
 obtain⟨rfl,L,SA,cap,hL,⟨oS,mS,bS,k9⟩,⟨x2,x3,x8,x9,x53,x54,x55,x56,x57,x58,x59,x60,x61,x62,x63,x64,x65,x66,x67,x68,x69,x70,x71,x72,x73,x74,x75,x76,x77,x78,x79,x80,x81,rfl⟩⟩:=hex
 have OC:=zz (OC.out.kept k9 (fun b hb e=> OC.out.ne_blk BK.out (by decide) hb e))
 have OT:=zz (OT.out.kept k9 (fun b hb e=> OT.out.ne_blk BK.out (by decide) hb e))
 have BL:=zz (BL.out.kept k9 hkL)
 have ML:=zz ((k9.block M (lt_of_block ML.out) hkM).trans ML.out)
 have HA:=zz (HA.out.kept k9 (fun b hb=> by subst hb;exact .inl hkc5))
 have IP:=zz (IP.out.kept k9 (fun b hb=> by subst hb;exact .inl (by omega)))
 have K19:=zz (K18.out.step k9 (fun b hb e=> by omega))
 have HOS:=zz (oS.base_le (show w.heap.size≤_ by omega))
 have HMS:=zz mS
 have HBS:=zz bS
 have HLL:=zz hL
 clear k9 oS mS bS hL K18 BK B1 q3
 dsimp only
 go_wp2_with fail
 go_ret2
 have hms:∀x∈L,ShMade w9 w.heap.size a p c C' T' n k' j' x:=fun x hx=> by
  obtain⟨B0,b1,b2,b3⟩:=HMS.out x hx
  exact⟨B0,by omega,b2,b3⟩
 exact⟨kc,rfl,⟨a,p,led,M,C',T',k',j',L,SA,cap,CA,ac,pg,pm,_,Bp,⟨OC.out,OT.out⟩,⟨by omega,HA.out⟩,⟨by omega,IP.out⟩,⟨BL.out,ML.out⟩,⟨by rw [HLL.out,HMm.out],HOS.out,hms⟩,⟨hled0.1,hled0.2,by omega,hMpm,fun x hx=> by
  obtain⟨B0,b1,b2,b3⟩:=HMS.out x hx
  have:=b2.le.2
  omega⟩,HBS.out⟩,K19.out⟩
open Go.RowKit Cfp
theorem Zpe (w:World) (c:Cfg) (hf:Fine c) (l:List (Int × Int)) (hcl:Za7 l=0) (hrm:Room c l) (ev:Int) (hne:ev≠0) (hv:Zfc (Zac c l) l=ev) (C T:Option Addr) (n k j B:Nat) (hr:Rd w B C 2 n (clv l)) (hB:B≤w.heap.size):
  Calls Tryz.prog 9 #[Value.agg (cfC c C n k T 16 j)] w fun e w'=> e= .returned (.tuple #[.pointer none,.int .i64 ev])∧Keeps NO w w':=by
 obtain⟨w1,hw1⟩:∃w1,w1=w.alloc (.cells (cfC c C n k T 16 j) 27):=⟨_,rfl⟩
 have k1:Keeps NO w w1:=by rw [hw1];exact(Kz0 _ _).alloc _
 have B1:Hid (Blk w1 w.heap.size 27 (cfC c C n k T 16 j)):=zz (by rw [hw1];exact Blk.new _ _ _)
 have hs1:w.heap.size<w1.heap.size:=B1.out.lt
 have HV:=zz (Zdh c hf l hcl hrm C T n k j B w1 (hr.kept k1 (fun _ _ h=> h)) (by omega))
 rw [hv] at HV
 have K1:=zz k1
 have HW:=zz hw1
 have e1:(ev != 0)=true:=by simp [hne]
 clear hw1 k1 hr hv hcl hrm hf hne
 go_enter Tryz.func9,Tryz.ntmps9
 go_upto_region 1 with fail
 rw [←HW.out]
 clear HW
 go_wp2_with (refine Zah _ rfl B1.out rfl (by rfl) ?_;simp only [Zpt])
 refine HV.out.mono ?_
 rintro e w2 ⟨rfl,k2⟩
 have K2:=zz (K1.out.trans k2)
 clear k2 HV
 go_wp2_with fail
 go_ret2
 exact⟨rfl,K2.out⟩
theorem Zkk {α:Type} (xs:List α) (j:Nat) (v:α) (h:xs[j]?=some v):xs.set j v=xs:=by
 refine List.ext_getElem? fun k=> ?_
 rw [List.getElem?_set]
 split
 ·next e=> subst e;rw [h];have:=(List.getElem?_eq_some_iff.1 h).1;simp [this]
 ·rfl
namespace systemRefused
theorem main (HAw:Hid (∀W,Calls Tryz.prog 10 #[] W fun e w'=> e= .returned (.bool true)∧Keeps NO W w')) (w:World) (A1:Option Addr) (n1 c1:Nat) (zs0:List Int) (hd:Rd w w.heap.size A1 1 n1 (zs0.map (.int .i64))) (hz:∀z∈zs0, -9223372036854775808≤z∧z<9223372036854775808) (hn1:n1≤17592186043904)
  (x:Int) (x0:0≤x) (x1:x<256):
  Calls Tryz.prog 3 #[.slice A1 n1 c1,.int .u8 x] w fun e w'=> e= .returned (.bool true)∧Keeps NO w w':=by
 have HD:=zz hd
 clear hd
 go_enter Tryz.func3,Tryz.ntmps3
 go_wp2_with fail
 refine(new_deck A1 n1 c1 zs0 _ w (Nat.le_refl _) HD.out hz (by omega)).mono ?_
 rintro e w1 ⟨rfl,d1,k1⟩
 have K1:=zz k1
 clear k1
 go_wp2_with fail
 refine(config_any _ w.heap.size w1 d1).mono ?_
 rintro e w2 ⟨c,l,G,b,ts,rfl,hm,hl,hsn,hG,bG,tl,tb,bt,hb,d2,k2⟩
 have K2:=zz (K1.out.step k2 (fun b hb e=> by omega))
 have HM:=zz hm
 have HCo:=zz (Ze2 c hm.fine l hsn)
 have HCl:=zz (Zld l hl (Ze2 c hm.fine l hsn))
 have HRm:=zz (Zg5 c hm.width hm.fine.key.2 l hl)
 have HL:=zz hl
 have hn8:l.length≤8∧1≤l.length:=by obtain⟨p,d,h1,_,_,h2⟩:=Zg6 l hl;omega
 obtain⟨nl,hnl⟩:∃nl,nl=l.length:=⟨_,rfl⟩
 rw [←hnl] at hn8 ⊢
 have HNl:=zz hnl
 have BX:=zz (Blk.new w2 27 (cfC c (some ⟨G,0,none⟩) nl nl (some ⟨b,0,none⟩) 16 16))
 have kX:=(Kz0 NO w2).alloc (.cells (cfC c (some ⟨G,0,none⟩) nl nl (some ⟨b,0,none⟩) 16 16) 27)
 have RC:=zz (show Rd (w2.alloc (.cells (cfC c (some ⟨G,0,none⟩) nl nl (some ⟨b,0,none⟩) 16 16) 27)) w2.heap.size (some ⟨G,0,none⟩) 2 nl (clv l) from(bG.rd (n:=nl) (sz:=2) (by rw [Zax,hnl])).kept kX (fun _ _ h=> h))
 have RT:=zz (show Rd (w2.alloc (.cells (cfC c (some ⟨G,0,none⟩) nl nl (some ⟨b,0,none⟩) 16 16) 27)) w2.heap.size (some ⟨b,0,none⟩) 1 16 (ts.map (.int .u64)) from(bt.rd (n:=16) (sz:=1) (by simp [tl])).kept kX (fun _ _ h=> h))
 have K3:=zz (K2.out.trans kX)
 have hwX:w.heap.size<w2.heap.size:=by have:=d2.lt;omega
 have HSn:=zz hsn
 have HDl:=zz (show(Zac c l).length=nl by rw [Zaw,hnl])
 have HDc:=zz (fun W hr hB=> Zeh c HM.out.fine l HCl.out HRm.out (some ⟨G,0,none⟩) (some ⟨b,0,none⟩) nl nl 16 w2.heap.size W hr hB)
 have hv0:Zfc (Zac c l) l=0:=Zlz (Zgg _ _ (fun i h1 h2=> by
  have:=congrArg (fun m=> m[i]?) hsn
  simp [h1,h2] at this
  omega))
 have HN1:=zz (fun(C:Option Addr) (k B:Nat) (W:World) (hr:Rd W B C 2 nl (clv l)) (hT:Rd W B (some ⟨b,0,none⟩) 1 16 (ts.map (.int .u64))) (hB:B≤W.heap.size)=> Zmm W c HM.out.fine l HCl.out HRm.out hv0 ts C (some ⟨b,0,none⟩) nl k 16 B hr hT hB)
 have HN2:=zz (fun(p:Nat) (z:Int) (hp:p<l.length) (hz0:0≤z) (hz1:z<(Zac c l).getD p 0) (C:Option Addr) (k B:Nat) (W:World) (hr:Rd W B C 2 nl (clv (putN l p z))) (hB:B≤W.heap.size)=> by
  have hfst:(putN l p z).map Prod.fst= [8,24,32,80,256]∨(putN l p z).map Prod.fst= [256]:=by rw [Zf5];exact hl
  have hbd:=Ze6 c HM.out.fine l p (by rw [Zaw];exact hp)
  have hcl:Za7 (putN l p z)=0:=Zld _ hfst (fun y hy=> by
   rcases List.mem_or_eq_of_mem_set hy with h | h
   ·exact HCo.out y h
   ·rw [h];dsimp only;omega)
  have h2:Zfc (Zac c (putN l p z)) (putN l p z)=7:=by
   rw [Zdd (Zf5 l p z) c]
   exact Zly (Zgf _ _ p (by rw [Zaw];exact hp) (by rw [Zf4];exact hp) (by
   have h3:((putN l p z)[p]'(by rw [Zf4];exact hp))=((l.getD p (0,0)).1,z):=by simp [putN]
   rw [h3]
   simpa [List.getD,Zaw,hp] using hz1))
  exact Zpe W c HM.out.fine (putN l p z) hcl (Zg5 c hm.width hm.fine.key.2 _ hfst) 7 (by omega) h2 C (some ⟨b,0,none⟩) nl k 16 B hr hB)
 have hbd:=zz (Ze6 c HM.out.fine l)
 obtain⟨zs,hzs⟩:∃zs,zs=Zac c l:=⟨_,rfl⟩
 rw [←hzs] at HSn HDl HDc HN2 hbd
 clear hl hsn hG bG bt hb d2 k2 hm hnl K2 K1 d1 kX tl tb hv0 hzs HM HCo HCl HRm HL
 go_upto_region 2 with (refine Zqi _ _ rfl (by rfl) (by rfl) (by rfl) (by rfl) ?_;simp only [Zpt])
 generalize w2.alloc _=w3 at*
 generalize w2.heap.size=X1 at*
 have hX13:X1<w3.heap.size:=BX.out.lt
 go_wp2_with (refine Zah _ rfl BX.out rfl (by rfl) ?_;simp only [Zpt])
 refine(HDc.out _ RC.out (by omega)).mono ?_
 rintro e w4 ⟨g1,rfl,hg1,nu,k4⟩
 have BX4:=zz (BX.out.kept k4 (fun h=> h))
 have RC4:=zz (RC.out.kept k4 (fun _ _ h=> h))
 have RT4:=zz (RT.out.kept k4 (fun _ _ h=> h))
 have K4:=zz (K3.out.trans k4)
 have NU4:=zz nu
 have q14:w4.cell? ⟨X1,14,none⟩=some (.slice (some ⟨G,0,none⟩) nl nl):=BX4.out.cell 14
 have hX14:X1<w4.heap.size:=BX4.out.lt
 have hne1:g1≠X1:=nu.ne BX4.out (by decide)
 have hnn:((nl:Int) != (nl:Int))=false:=by simp
 obtain⟨kk,hk,hk6⟩:∃k:Nat,x % (nl:Int)=(k:Int)∧k<nl:=⟨(x % (nl:Int)).toNat,by have:=Int.emod_nonneg x (show(nl:Int)≠0 by omega);omega,by have:=Int.emod_lt_of_pos x (show(0:Int)<(nl:Int) by omega);omega⟩
 have htd:Int.tmod x (nl:Int)=(kk:Int):=by rw [Int.tmod_eq_emod_of_nonneg x0];exact hk
 have hi0:((nl:Int)==0)=false:=by simp;omega
 have hi1:¬(nl=0):=by omega
 have wx:IntKind.i64.wrap x=x:=IntWalk.i64_in _ (by omega)
 clear nu k4 BX RC RT K3 HDc
 go_upto_region 6 with fail
 have BY:=zz (Blk.new w4 27 (cfC c (some ⟨G,0,none⟩) nl nl (some ⟨b,0,none⟩) 16 16))
 have kY:=(Kz0 NO w4).alloc (.cells (cfC c (some ⟨G,0,none⟩) nl nl (some ⟨b,0,none⟩) 16 16) 27)
 have BX5:=zz (BX4.out.kept kY (fun h=> h))
 have RC5:=zz (RC4.out.kept kY (fun _ _ h=> h))
 have RT5:=zz (RT4.out.kept kY (fun _ _ h=> h))
 have K5:=zz (K4.out.trans kY)
 have NU5:=zz (NU4.out.kept kY (fun h=> h))
 have hg14:g1<w4.heap.size:=NU4.out.lt
 go_upto_region 7 with (first | (refine Zah _ rfl BX4.out rfl (by rfl) ?_;simp only [Zpt]) | (refine Zqi _ _ rfl (by rfl) (by rfl) (by rfl) (by rfl) ?_;simp only [Zpt]))
 clear q14 kY BX4 RC4 RT4 K4 NU4
 generalize w4.alloc _=w5 at*
 generalize w4.heap.size=X2 at*
 have q14x:w5.cell? ⟨X1,14,none⟩=some (.slice (some ⟨G,0,none⟩) nl nl):=BX5.out.cell 14
 have hX25:X2<w5.heap.size:=BY.out.lt
 have hX15:X1<w5.heap.size:=by omega
 go_upto_region 8 with (at_builtin;refine Za5 _ Zfg rfl (.tmp 36) (.tmp 38) rfl w5.heap.size _ rfl (Own.new0 _ _ 35 2 _ (by simp) (by omega)) _ (m:=nl) _ rfl (RC5.out.kept ((Kz0 NO w5).alloc _) (fun _ _ h=> h)) (Zfi l) (by simp only [maxLen];omega) (by omega) (by simp) ?_;intro A7 c7 w7 o7 k7 _;rw [Nat.zero_add,List.nil_append] at o7;have O7:=zz o7;have K7:=zz (((Kz0 NO w5).alloc (.cells #[] 35)).step k7 (fun k hk h=> by have:=(Za0 _ _ _).1 h;omega));have q14:=(BY.out.kept K7.out (fun h=> h)).cell 14;have f14:=(BY.out.kept K7.out (fun h=> h)).frozen 14;clear o7 k7)
 obtain⟨G2,rfl,hG2a,hG2b⟩:=O7.out.some_ (by omega)
 have kS:Keeps (· =X2) w7 (w7.setCell ⟨X2,14,none⟩ (.slice (some ⟨G2,0,none⟩) nl c7)):=Keeps.setCell (S:=(· =X2)) (p:=⟨X2,14,none⟩) (Kz0 _ _) (.inl rfl) _
 have BY8:Hid (Blk (w7.setCell ⟨X2,14,none⟩ (.slice (some ⟨G2,0,none⟩) nl c7)) X2 27 (cfC c (some ⟨G2,0,none⟩) nl c7 (some ⟨b,0,none⟩) 16 16)):=(BY.out.kept K7.out (fun h=> h)).set 14 _
 have O8:=zz (O7.out.kept kS (fun b hb=> by have:=(Za0 _ _ _).1 hb;omega))
 have K8:=zz ((K5.out.trans K7.out).step kS (fun b hb e=> by omega))
 have NU8:=zz ((NU5.out.kept K7.out (fun h=> h)).kept kS (by omega))
 have RT8:=zz ((RT5.out.kept K7.out (fun _ _ h=> h)).kept kS (fun b hb e=> by omega))
 clear kS O7 q14 f14 BY K5 NU5 BX5 RC5 RT5 q14x K7
 generalize w7.setCell _ _=w8 at*
 have q14:w8.cell? ⟨X2,14,none⟩=some (.slice (some ⟨G2,0,none⟩) nl c7):=BY8.out.cell 14
 have hG2x:G2≠X2:=by omega
 have hG2g:g1≠G2:=by omega
 have hncc:=O8.out.le
 have hX28:X2<w8.heap.size:=BY8.out.lt
 have hz:=NU8.out.cell kk (by rw [HDl.out];exact hk6)
 have hzb:=hbd.out kk (by rw [HDl.out];exact hk6)
 obtain⟨z,hze⟩:∃z,z=zs.getD kk 0:=⟨_,rfl⟩
 rw [←hze] at hz hzb
 have HZE:=zz hze
 have hkl:kk<l.length:=by rw [←HNl.out];exact hk6
 have hlz:l[kk].2=z:=by
  have:=congrArg (fun m=> m[kk]?) HSn.out
  have h2:kk<zs.length:=by rw [HDl.out];exact hk6
  simp [hkl,h2] at this
  rw [hze,this];simp [List.getD,h2]
 have hcc:=(Zbb l kk (l[kk]'hkl) (by simp)).2
 rw [hlz] at hcc
 have ht:=O8.out.cell (kk*2+1) (by omega)
 rw [hcc] at ht
 have hf:=O8.out.frozen (kk*2+1)
 have HSS:Hid (Own (w8.setCell ⟨G2,kk*2+1,none⟩ (.int .i64 z)) w5.heap.size 35 2 (some ⟨G2,0,none⟩) nl c7 (clv l)):=by
  have:=O8.out.store (kk*2+1) (.int .i64 z)
  rw [Zkk _ _ _ hcc] at this
  exact this
 have kS:Keeps (· =G2) w8 (w8.setCell ⟨G2,kk*2+1,none⟩ (.int .i64 z)):=Keeps.setCell (S:=(· =G2)) (p:=⟨G2,kk*2+1,none⟩) (Kz0 _ _) (.inl rfl) _
 have BY9:=zz (BY8.out.kept kS (by omega))
 have NU9:=zz (NU8.out.kept kS (by omega))
 have RT9:=zz (RT8.out.kept kS (fun b hb e=> by omega))
 have K9:=zz (K8.out.step kS (fun b hb e=> by omega))
 have hkI:(kk:Int)<(nl:Int):=by omega
 have hk0:(0:Int)≤(kk:Int):=by omega
 have wk:IntKind.i64.wrap (kk:Int)=kk:=IntWalk.i64_in _ (by omega)
 clear hze hcc hlz kS
 go_region
 have BYa:Hid (Blk (w8.setCell ⟨G2,kk*2+1,none⟩ (.int .i64 z)).drew X2 27 (cfC c (some ⟨G2,0,none⟩) nl c7 (some ⟨b,0,none⟩) 16 16)):=BY9
 have Oa:Hid (Own (w8.setCell ⟨G2,kk*2+1,none⟩ (.int .i64 z)).drew w5.heap.size 35 2 (some ⟨G2,0,none⟩) nl c7 (clv l)):=HSS
 have NUa:=zz (show Nums (w8.setCell ⟨G2,kk*2+1,none⟩ (.int .i64 z)).drew g1 zs from NU9.out)
 have RTa:=zz (show Rd (w8.setCell ⟨G2,kk*2+1,none⟩ (.int .i64 z)).drew _ (some ⟨b,0,none⟩) 1 16 (ts.map (.int .u64)) from RT9.out)
 have Ka:=zz K9.out.drew
 clear BY9 HSS NU9 RT9 K9 BY8 O8 NU8 RT8 K8 q14 hz ht hf
 generalize (w8.setCell _ _).drew=wa at*
 go_wp2_with (refine Zah _ rfl BYa.out rfl (by rfl) ?_;simp only [Zpt])
 refine(HN1.out _ _ wa.heap.size wa (Oa.out.rd (by omega)) (RTa.out.more (by have:=BYa.out.lt;omega)) (Nat.le_refl _)).mono ?_
 rintro e wb ⟨kc,rfl,_,kb⟩
 have BYb:=zz (BYa.out.kept kb (fun h=> h))
 have Ob:=zz (Oa.out.kept kb (fun _ _ h=> h))
 have NUb:=zz (NUa.out.kept kb (fun h=> h))
 have Kb:=zz (Ka.out.trans kb)
 have hz:=NUb.out.cell kk (by rw [HDl.out];exact hk6)
 rw [←HZE.out] at hz
 clear kb BYa Oa NUa RTa Ka HN1
 by_cases hz0:z=0
 ·have e0:(z==0)=true:=by simp [hz0]
  clear hz0
  go_upto_region 13 with fail
  go_wp2_with fail
  refine(HAw.out _).mono ?_
  rintro e wz ⟨rfl,kz⟩
  have Kz:=zz (Kb.out.trans kz)
  clear kz
  go_wp2_with fail
  go_ret
  exact⟨rfl,Kz.out⟩
 ·have e0:(z==0)=false:=by simpa using hz0
  have hz1:1≤z:=by omega
  clear hz0
  have q14y:wb.cell? ⟨X2,14,none⟩=some (.slice (some ⟨G2,0,none⟩) nl c7):=BYb.out.cell 14
  have hX2b:X2<wb.heap.size:=BYb.out.lt
  have hg1b:g1<wb.heap.size:=NUb.out.lt
  have Rb:=zz (Ob.out.rd (by omega))
  go_upto_region 14 with fail
  go_upto_region 15 with (at_builtin;refine Za5 _ Zfg rfl (.tmp 67) (.tmp 69) rfl wb.heap.size _ rfl (Own.new0 _ _ 35 2 _ (by simp) (by omega)) _ (m:=nl) _ rfl (Rb.out.kept ((Kz0 NO wb).alloc _) (fun _ _ h=> h)) (Zfi l) (by simp only [maxLen];omega) (by omega) (by simp) ?_;intro A7 c9 w7 o7 k7 _;rw [Nat.zero_add,List.nil_append] at o7;have O7:=zz o7;have K7:=zz (((Kz0 NO wb).alloc (.cells #[] 35)).step k7 (fun k hk h=> by have:=(Za0 _ _ _).1 h;omega));have q14:=(BYb.out.kept K7.out (fun h=> h)).cell 14;have f14:=(BYb.out.kept K7.out (fun h=> h)).frozen 14;clear o7 k7)
  obtain⟨G3,rfl,hG3a,hG3b⟩:=O7.out.some_ (by omega)
  have kS:Keeps (· =X2) w7 (w7.setCell ⟨X2,14,none⟩ (.slice (some ⟨G3,0,none⟩) nl c9)):=Keeps.setCell (S:=(· =X2)) (p:=⟨X2,14,none⟩) (Kz0 _ _) (.inl rfl) _
  have BY11:Hid (Blk (w7.setCell ⟨X2,14,none⟩ (.slice (some ⟨G3,0,none⟩) nl c9)) X2 27 (cfC c (some ⟨G3,0,none⟩) nl c9 (some ⟨b,0,none⟩) 16 16)):=(BYb.out.kept K7.out (fun h=> h)).set 14 _
  have O11:=zz (O7.out.kept kS (fun b hb=> by have:=(Za0 _ _ _).1 hb;omega))
  have K11:=zz ((Kb.out.trans K7.out).step kS (fun b hb e=> by have:=Kb.out.size;omega))
  clear kS O7 q14 f14 BYb Kb NUb q14y K7 hz
  generalize w7.setCell _ _=w11 at*
  have q14:w11.cell? ⟨X2,14,none⟩=some (.slice (some ⟨G3,0,none⟩) nl c9):=BY11.out.cell 14
  have hcc:=(Zbb l kk (l[kk]'hkl) (by simp)).2
  have hlz:l[kk].2=z:=by
   have:=congrArg (fun m=> m[kk]?) HSn.out
   have h2:kk<zs.length:=by rw [HDl.out];exact hk6
   simp [hkl,h2] at this
   rw [HZE.out,this];simp [List.getD,h2]
  rw [hlz] at hcc
  have ht:=O11.out.cell (kk*2+1) (by omega)
  rw [hcc] at ht
  have hf:=O11.out.frozen (kk*2+1)
  have s1:IntKind.i64.wrap (z-1)=z-1:=IntWalk.i64_in _ (by omega)
  have HO12:Hid (Own (w11.setCell ⟨G3,kk*2+1,none⟩ (.int .i64 (z-1))) wb.heap.size 35 2 (some ⟨G3,0,none⟩) nl c9 (clv (putN l kk (z-1)))):=by
   have:=O11.out.store (kk*2+1) (.int .i64 (z-1))
   rw [Zfh _ _ _ hkl] at this
   exact this
  have kS:Keeps (· =G3) w11 (w11.setCell ⟨G3,kk*2+1,none⟩ (.int .i64 (z-1))):=Keeps.setCell (S:=(· =G3)) (p:=⟨G3,kk*2+1,none⟩) (Kz0 _ _) (.inl rfl) _
  have BY12:=zz (BY11.out.kept kS (by omega))
  have K12:=zz (K11.out.step kS (fun b hb e=> by omega))
  have HN:=zz (HN2.out kk (z-1) hkl (by omega) (by rw [←HZE.out];omega))
  clear kS hcc hlz HN2
  have hncc3:=O11.out.le
  go_upto_region 16 with fail
  clear q14 ht hf BY11 O11 K11
  generalize w11.setCell _ _=w13 at*
  go_wp2_with (refine Zah _ rfl BY12.out rfl (by rfl) ?_;simp only [Zpt])
  refine(HN.out _ _ _ _ (HO12.out.rd (by omega)) (Nat.le_refl _)).mono ?_
  rintro e w14 ⟨rfl,k14⟩
  have K14:=zz (K12.out.trans k14)
  clear k14
  go_wp2_with fail
  refine(HAw.out _).mono ?_
  rintro e w15 ⟨rfl,k15⟩
  have K15:=zz (K14.out.trans k15)
  clear k15
  go_wp2_with fail
  go_ret
  exact⟨rfl,K15.out⟩
end systemRefused
end Go.Proofs.YtjamiaamngalgaaGreat
