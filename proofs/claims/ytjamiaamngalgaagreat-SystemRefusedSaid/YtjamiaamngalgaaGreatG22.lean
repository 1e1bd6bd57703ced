/-
  Parts: Made configurations: the; Deck.Config of the deck; Deck.Config of the deck. No conditions beyond those of the statement.
-/
import Derived.Test.YtjamiaamngalgaaGreatG21
import Derived.Test.YtjamiaamngalgaaGreatG09
import Derived.Test.YtjamiaamngalgaaGreatG18
import Derived.Test.YtjamiaamngalgaaGreatG03
import Derived.Test.YtjamiaamngalgaaGreatG04
import Derived.Test.YtjamiaamngalgaaGreatG00
set_option linter.unusedVariables false
set_option linter.unusedSimpArgs false
set_option maxRecDepth 1000000
set_option maxHeartbeats 4000000
namespace Go.Proofs.YtjamiaamngalgaaGreat
open Go.RowKit Cfp
theorem Ze6 (c:Cfg) (h:Fine c) (l:List (Int × Int)):Bnd (Zac c l) 14000:=by
 have h1:=h.swd
 have h2:=h.sq
 have h3:=h.tr
 have:=((((Bnd.zero l.length).add (fit l (8*c.width)) h1.1 h1.2).add (fit l 32) h3.1 h3.2).add (fit l 24) h2.1 h2.2).keys (x:=Za4 c+c.shards*c.queue) (N:=6656) (fit l c.key+1) (by omega) (by omega)
 intro j hj
 have h4:=this j hj
 exact⟨h4.1,by unfold Zac;omega⟩
theorem Zld (l:List (Int × Int)) (hf:l.map Prod.fst= [8,24,32,80,256]∨l.map Prod.fst= [256]) (hb:∀x∈l,0≤x.2∧x.2≤65536):Za7 l=0:=by
 rcases l with _ | ⟨a,_ | ⟨b,_ | ⟨c',_ | ⟨d,_ | ⟨e,_ | ⟨f,l⟩⟩⟩⟩⟩⟩ <;> simp at hf
 ·have ha:=hb a (by simp)
  unfold Za7
  rw [if_neg (by simp)]
  unfold Zab
  rw [if_neg (by omega),if_neg (by omega)]
  rfl
 ·have ha:=hb a (by simp)
  have hbb:=hb b (by simp)
  have hc:=hb c' (by simp)
  have hd:=hb d (by simp)
  have he:=hb e (by simp)
  unfold Za7
  rw [if_neg (by simp)]
  unfold Zab
  rw [if_neg (by omega),if_neg (by omega)]
  unfold Zab
  rw [if_neg (by omega),if_neg (by omega)]
  unfold Zab
  rw [if_neg (by omega),if_neg (by omega)]
  unfold Zab
  rw [if_neg (by omega),if_neg (by omega)]
  unfold Zab
  rw [if_neg (by omega),if_neg (by omega)]
  rfl
theorem Zg6 (l:List (Int × Int)) (hf:l.map Prod.fst= [8,24,32,80,256]∨l.map Prod.fst= [256]):∃p d,l.length=p+1∧l[p]?=some d∧d.1=256∧p<8:=by
 rcases l with _ | ⟨a,_ | ⟨b,_ | ⟨c',_ | ⟨d,_ | ⟨e,_ | ⟨f,l⟩⟩⟩⟩⟩⟩ <;> simp at hf
 ·exact⟨0,a,rfl,rfl,hf,by omega⟩
 ·exact⟨4,e,rfl,rfl,hf.2.2.2.2,by omega⟩
theorem Zg5 (c:Cfg) (hw:c.width≤9) (hk:c.key≤255) (l:List (Int × Int)) (hf:l.map Prod.fst= [8,24,32,80,256]∨l.map Prod.fst= [256]):Room c l:=by
 obtain⟨p,d,h1,h2,h3,_⟩:=Zg6 l hf
 exact⟨p,d,h1,h2,by omega,by omega,by omega⟩
theorem Ze2 (c:Cfg) (h:Fine c) (l:List (Int × Int)) (hs:l.map Prod.snd=Zac c l):∀x∈l,0≤x.2∧x.2≤65536:=by
 intro x hx
 have h1:x.2∈Zac c l:=by rw [←hs];exact List.mem_map_of_mem hx
 obtain⟨j,hj,he⟩:=List.getElem_of_mem h1
 have:=Ze6 c h l j hj
 simp [List.getD,hj,he] at this
 omega
open Go.RowKit Cfp
namespace Nil
structure Mild (c:Cfg):Prop where
 fine:Fine c
 length:c.length=1
 lateness:c.lateness=0
 windows:c.windows=1
 shards:c.shards=1
 queue:c.queue=1
 mode:c.mode=1
 slots:c.slots=1
 exact_:c.exact_=0
 promote:c.promote=0
 depth:c.depth=1
 width:c.width=1
 top:c.top=1
 key:c.key=255
 seed:c.seed=0
structure CSx (w:World) (B g X:Nat) (C:Option Addr) (n k:Nat) (c:Cfg) (b:Nat) (ts:List Int) (wx:World):Prop where
 mild:Mild c
 tl:ts.length=16
 tb:∀z∈ts,0≤z∧z<1
 tk:Blk wx b 23 (ts.map (.int .u64)).toArray
 tw:w.heap.size<b
 bx:Blk wx X 27 (cfC c C n k (some ⟨b,0,none⟩) 16 16)
 dk:IsDeck wx B g
 kp:Keeps (· =g) w wx
 b0:Blk wx w.heap.size 27 #[.int .i64 0,.int .i64 0,.int .i64 0,.int .i64 0,.int .i64 0,.int .i64 0,.int .i64 0,.int .i64 0,.int .i64 0,.int .u64 0,.int .i64 0,.int .i64 0,.int .i64 0,.int .i64 0,.slice none 0 0,.slice none 0 0,.int .u64 0]
 hX:w.heap.size<X
 hg:g<w.heap.size
 hB:B≤g
def CS (w:World) (B g X:Nat) (C:Option Addr) (n k:Nat) (wx:World):Prop:=∃(c:Cfg) (b:Nat) (ts:List Int),CSx w B g X C n k c b ts wx
theorem CSx.kept {w wx w':World} {B g X:Nat} {C:Option Addr} {n k:Nat} {c:Cfg} {b:Nat} {ts:List Int} (h:CSx w B g X C n k c b ts wx) (kk:Keeps (· =g) wx w') (d:IsDeck w' B g):CSx w B g X C n k c b ts w':=
 have h1:=h.tw;have h2:=h.hX;have h3:=h.hg
 ⟨h.mild,h.tl,h.tb,h.tk.kept kk (by omega),h.tw,h.bx.kept kk (by omega),d,h.kp.trans kk,h.b0.kept kk (by omega),h.hX,h.hg,h.hB⟩
theorem CSx.quiet {w wx w':World} {B g X:Nat} {C:Option Addr} {n k:Nat} {c:Cfg} {b:Nat} {ts:List Int} (h:CSx w B g X C n k c b ts wx) (kk:Keeps NO wx w'):CSx w B g X C n k c b ts w':=
 h.kept (kk.weak (fun _ _ h=> h.elim)) (h.dk.kept kk (fun h=> h) (fun _ _ h=> h))
theorem CSx.put {w wx:World} {B g X:Nat} {C C':Option Addr} {n k n' k':Nat} {c c':Cfg} {b:Nat} {ts:List Int} (h:CSx w B g X C n k c b ts wx) (i:Nat) (v:Value) (hm:Mild c')
  (he:((cfC c C n k (some ⟨b,0,none⟩) 16 16)).setIfInBounds i v=(cfC c' C' n' k' (some ⟨b,0,none⟩) 16 16)):CSx w B g X C' n' k' c' b ts (wx.setCell ⟨X,i,none⟩ v):=by
 have h1:=h.tw;have h2:=h.hX;have h3:=h.hg;have h4:=h.hB
 have kS:Keeps (· =X) wx (wx.setCell ⟨X,i,none⟩ v):=Keeps.setCell (S:=(· =X)) (p:=⟨X,i,none⟩) (Kz0 _ _) (.inl rfl) _
 have hne:b≠X:=h.tk.ne h.bx (by decide)
 exact⟨hm,h.tl,h.tb,h.tk.kept kS hne,h.tw,by rw [←he];exact h.bx.set i v,h.dk.kept kS (by omega) (fun b hb=> by omega),h.kp.step kS (fun b hb e=> by omega),h.b0.kept kS (by omega),h.hX,h.hg,h.hB⟩
theorem CSx.far {w wx w':World} {B g X q:Nat} {C:Option Addr} {n k:Nat} {c:Cfg} {b:Nat} {ts:List Int} (h:CSx w B g X C n k c b ts wx) (kk:Keeps (· =q) wx w') (hq:w.heap.size<q) (hb:b≠q) (hx:X≠q):CSx w B g X C n k c b ts w':=
 have h1:=h.tw;have h2:=h.hX;have h3:=h.hg;have h4:=h.hB
 ⟨h.mild,h.tl,h.tb,h.tk.kept kk hb,h.tw,h.bx.kept kk hx,h.dk.kept kk (by omega) (fun b hb=> by omega),h.kp.step kk (fun b hb e=> by omega),h.b0.kept kk (by omega),h.hX,h.hg,h.hB⟩
def l5:List (Int × Int):= [(8,0),(24,0),(32,0),(80,0),(256,0)]
def l1:List (Int × Int):= [(256,0)]
def CL (w:World) (B g X:Nat) (wx:World):Prop:=∃(l:List (Int × Int)) (G n:Nat) (c:Cfg) (b:Nat) (ts:List Int),(l=l5)∧n=l.length∧Blk wx G 35 (clv l).toArray∧w.heap.size≤G∧CSx w B g X (some ⟨G,0,none⟩) n n c b ts wx
theorem Mild.s {c:Cfg} (h:Mild { c with spread:=1}) (x:Int) (h0:1≤x) (h1:x≤c.shards):Mild { c with spread:=x}:=
 have f:=h.fine
 ⟨⟨f.length,f.lateness,f.windows,f.shards,⟨h0,h1⟩,f.queue,f.mode,f.slots,f.exact_,f.promote,f.depth,f.width,f.top,f.key,f.seed⟩,h.length,h.lateness,h.windows,h.shards,h.queue,h.mode,h.slots,h.exact_,h.promote,h.depth,h.width,h.top,h.key,h.seed⟩
def PS (w:World) (B g X:Nat) (wx:World):Prop:=
 ∃(c:Cfg) (b:Nat) (ts:List Int),Mild { c with spread:=1}∧ts.length=16∧(∀z∈ts,0≤z∧z<1)∧Blk wx b 23 (ts.map (.int .u64)).toArray∧w.heap.size<b∧
  Blk wx X 27 (cfC c none 0 0 (some ⟨b,0,none⟩) 16 16)∧IsDeck wx B g∧Keeps (· =g) w wx∧Blk wx w.heap.size 27 #[.int .i64 0,.int .i64 0,.int .i64 0,.int .i64 0,.int .i64 0,.int .i64 0,.int .i64 0,.int .i64 0,.int .i64 0,.int .u64 0,.int .i64 0,.int .i64 0,.int .i64 0,.int .i64 0,.slice none 0 0,.slice none 0 0,.int .u64 0]∧w.heap.size<X
noncomputable def rg1:Code:=((Tryz.f7.body.bind (findReg 1)).getD .skip)
theorem reg1 (B g:Nat) (w w0:World) (s1 s3 s4 s5 s6 s7 s8 s9 s10 s11 s12 s13 s14 s15 s16 s17 s18 s19 s20 s21 s22 s23 s24 s25 s26 s27 s28 s29 s30 s31 s32 s33 s34 s35 s36 s37 s38 s39 s40 s41 s42 s43 s44 s45 s46 s47 s48 s49 s50 s51 s52 s53 s54 s55 s56 s57 s58 s59 s60 s61 s62 s63 s64 s65 s66 s67 s68 s69 s70 s71 s72 s73 s74 s75 s76 s77 s78 s79 s80 s81 s82 s83 s84 s85 s86 s87 s88 s89 s90 s91 s92 s93 s94 s95 s96:Value) (hb0':Blk w0 w.heap.size 27 #[.int .i64 0,.int .i64 0,.int .i64 0,.int .i64 0,.int .i64 0,.int .i64 0,.int .i64 0,.int .i64 0,.int .i64 0,.int .u64 0,.int .i64 0,.int .i64 0,.int .i64 0,.int .i64 0,.slice none 0 0,.slice none 0 0,.int .u64 0]) (kk:Keeps (· =g) w w0) (d0:IsDeck w0 B g) (hgl:g<w.heap.size) (hgB:B≤g):
  Code.wp Tryz.prog rg1 (NormPost fun a' w''=> ∃X:Nat,(∃v7 v8 v9 v10 v11 v12 v13 v14 v15 v16 v17 v18 v19 v20 v21 v22 v23 v24 v25 v26 v27 v28 v29 v30 v31 v32 v33 v34 v35 v36 v37 v38 v39 v40 v41 v42 v43 v44 v45:Value,a'=⟨#[.pointer (some ⟨g,0,none⟩),s1,.pointer (some ⟨w.heap.size,0,none⟩),.pointer (some ⟨X,0,none⟩),s4,s5,s6,v7,v8,v9,v10,v11,v12,v13,v14,v15,v16,v17,v18,v19,v20,v21,v22,v23,v24,v25,v26,v27,v28,v29,v30,v31,v32,v33,v34,v35,v36,v37,v38,v39,v40,v41,v42,v43,v44,v45,s46,s47,s48,s49,s50,s51,s52,s53,s54,s55,s56,s57,s58,s59,s60,s61,s62,s63,s64,s65,s66,s67,s68,s69,s70,s71,s72,s73,s74,s75,s76,s77,s78,s79,s80,s81,s82,s83,s84,s85,s86,s87,s88,s89,s90,s91,s92,s93,s94,s95,s96],[]⟩)∧PS w B g X w'') ⟨#[.pointer (some ⟨g,0,none⟩),s1,.pointer (some ⟨w.heap.size,0,none⟩),s3,s4,s5,s6,s7,s8,s9,s10,s11,s12,s13,s14,s15,s16,s17,s18,s19,s20,s21,s22,s23,s24,s25,s26,s27,s28,s29,s30,s31,s32,s33,s34,s35,s36,s37,s38,s39,s40,s41,s42,s43,s44,s45,s46,s47,s48,s49,s50,s51,s52,s53,s54,s55,s56,s57,s58,s59,s60,s61,s62,s63,s64,s65,s66,s67,s68,s69,s70,s71,s72,s73,s74,s75,s76,s77,s78,s79,s80,s81,s82,s83,s84,s85,s86,s87,s88,s89,s90,s91,s92,s93,s94,s95,s96],[]⟩ w0:=by
 have hb0:=zz hb0'
 have K0:=zz (Kz0 (· =g) w0)
 have hl0:=hb0'.lt
 have KK:=zz kk
 clear hb0' kk
 conv=> arg 2;whnf
 dsimp only
 go_wp2_with fail
 refine(next_any 20 (by omega) (by omega) B g _ d0).mono ?_
 rintro e w1 ⟨x1,rfl,a1,b1,d1,k1⟩
 have K1:=zz (K0.out.trans k1)
 clear k1 d0 K0
 have p1:IntKind.i64.wrap (1+x1)=1+x1:=IntWalk.i64_in _ (by omega)
 go_wp2_with fail
 refine(next_any 15 (by omega) (by omega) B g _ d1).mono ?_
 rintro e w2 ⟨x2,rfl,a2,b2,d2,k1⟩
 have K2:=zz (K1.out.trans k1)
 clear k1 d1 K1
 go_wp2_with fail
 refine(next_any 4 (by omega) (by omega) B g _ d2).mono ?_
 rintro e w3 ⟨x3,rfl,a3,b3,d3,k1⟩
 have K3:=zz (K2.out.trans k1)
 clear k1 d2 K2
 have p3:IntKind.i64.wrap (1+x3)=1+x3:=IntWalk.i64_in _ (by omega)
 go_wp2_with fail
 refine(next_any 4 (by omega) (by omega) B g _ d3).mono ?_
 rintro e w4 ⟨x4,rfl,a4,b4,d4,k1⟩
 have K4:=zz (K3.out.trans k1)
 clear k1 d3 K3
 have p4:IntKind.i64.wrap (1+x4)=1+x4:=IntWalk.i64_in _ (by omega)
 go_wp2_with fail
 refine(next_any 8 (by omega) (by omega) B g _ d4).mono ?_
 rintro e w5 ⟨x5,rfl,a5,b5,d5,k1⟩
 have K5:=zz (K4.out.trans k1)
 clear k1 d4 K4
 have p5:IntKind.i64.wrap (1+x5)=1+x5:=IntWalk.i64_in _ (by omega)
 go_wp2_with fail
 refine(next_any 2 (by omega) (by omega) B g _ d5).mono ?_
 rintro e w6 ⟨x6,rfl,a6,b6,d6,k1⟩
 have K6:=zz (K5.out.trans k1)
 clear k1 d5 K5
 have p6:IntKind.i64.wrap (1+x6)=1+x6:=IntWalk.i64_in _ (by omega)
 go_wp2_with fail
 refine(next_any 4 (by omega) (by omega) B g _ d6).mono ?_
 rintro e w7 ⟨x7,rfl,a7,b7,d7,k1⟩
 have K7:=zz (K6.out.trans k1)
 clear k1 d6 K6
 have p7:IntKind.i64.wrap (1+x7)=1+x7:=IntWalk.i64_in _ (by omega)
 go_wp2_with fail
 refine(next_any 4 (by omega) (by omega) B g _ d7).mono ?_
 rintro e w8 ⟨x8,rfl,a8,b8,d8,k1⟩
 have K8:=zz (K7.out.trans k1)
 clear k1 d7 K7
 go_wp2_with fail
 refine(next_any 40 (by omega) (by omega) B g _ d8).mono ?_
 rintro e w9 ⟨x9,rfl,a9,b9,d9,k1⟩
 have K9:=zz (K8.out.trans k1)
 clear k1 d8 K8
 go_wp2_with fail
 refine(next_any 3 (by omega) (by omega) B g _ d9).mono ?_
 rintro e w10 ⟨x10,rfl,a10,b10,d10,k1⟩
 have K10:=zz (K9.out.trans k1)
 clear k1 d9 K9
 have p10:IntKind.i64.wrap (1+x10)=1+x10:=IntWalk.i64_in _ (by omega)
 go_wp2_with fail
 refine(next_any 9 (by omega) (by omega) B g _ d10).mono ?_
 rintro e w11 ⟨x11,rfl,a11,b11,d11,k1⟩
 have K11:=zz (K10.out.trans k1)
 clear k1 d10 K10
 have p11:IntKind.i64.wrap (1+x11)=1+x11:=IntWalk.i64_in _ (by omega)
 go_wp2_with fail
 refine(next_any 6 (by omega) (by omega) B g _ d11).mono ?_
 rintro e w12 ⟨x12,rfl,a12,b12,d12,k1⟩
 have K12:=zz (K11.out.trans k1)
 clear k1 d11 K11
 have p12:IntKind.i64.wrap (1+x12)=1+x12:=IntWalk.i64_in _ (by omega)
 have p9:IntKind.u64.wrap x9=x9:=IntWalk.u64_in _ (by omega)
 go_wp2_with fail
 refine(table_any B g _ d12).mono ?_
 rintro e w13 ⟨b,ts,rfl,tl,tb,tk,tw,d13,k1⟩
 have K13:=zz (K12.out.trans k1)
 have HT:=zz tk
 have hs12:w.heap.size<w12.heap.size:=by have:=K12.out.size;omega
 clear k1 d12 tk
 go_wp2_with fail
 refine(word_any B g _ d13).mono ?_
 rintro e w14 ⟨sd,rfl,s0,s1,d14,k1⟩
 have K14:=zz (K13.out.trans k1)
 have HT14:=zz (HT.out.kept k1 (by have:=K12.out.size;omega))
 clear k1 d13 HT K13 K12
 have htw:w.heap.size<b:=by
  have:=hs12
  omega
 have d15:=zz (d14.kept ((Kz0 NO w14).alloc (.cells #[.int .i64 (1+x1),.int .i64 x2,.int .i64 (1+x3),.int .i64 (1+x4),.int .i64 0,.int .i64 (1+x5),.int .i64 (1+x6),.int .i64 (1+x7),.int .i64 x8,.int .u64 x9,.int .i64 (1+x10),.int .i64 (1+x11),.int .i64 (1+x12),.int .i64 255,.slice none 0 0,.slice (some ⟨b,0,none⟩) 16 16,.int .u64 sd] 27)) (fun h=> h) (fun _ _ h=> h))
 clear d14
 go_wp2_with fail
 have k15:Keeps NO w14 (w14.alloc (.cells #[.int .i64 (1+x1),.int .i64 x2,.int .i64 (1+x3),.int .i64 (1+x4),.int .i64 0,.int .i64 (1+x5),.int .i64 (1+x6),.int .i64 (1+x7),.int .i64 x8,.int .u64 x9,.int .i64 (1+x10),.int .i64 (1+x11),.int .i64 (1+x12),.int .i64 255,.slice none 0 0,.slice (some ⟨b,0,none⟩) 16 16,.int .u64 sd] 27)):=(Kz0 _ _).alloc _
 have hX:w.heap.size<w14.heap.size:=by have:=K14.out.size;omega
 refine⟨w14.heap.size,⟨_,_,_,_,_,_,_,_,_,_,_,_,_,_,_,_,_,_,_,_,_,_,_,_,_,_,_,_,_,_,_,_,_,_,_,_,_,_,_,rfl⟩,⟨1+x1,x2,1+x3,1+x4,0,1+x5,1+x6,1+x7,x8,x9,1+x10,1+x11,1+x12,255,sd⟩,b,ts,?_,tl,tb,HT14.out.kept k15 (fun h=> h),htw,Blk.new _ _ _,d15.out,(KK.out.trans K14.out).step0 k15,(hb0.out.kept K14.out (by omega)).kept k15 (fun h=> h),hX⟩
 refine⟨⟨?_,?_,?_,?_,?_,?_,?_,?_,?_,?_,?_,?_,?_,?_,?_⟩,?_,?_,?_,?_,?_,?_,?_,?_,?_,?_,?_,?_,?_,?_⟩ <;> (dsimp only <;> omega)
end Nil
open Go.RowKit Cfp
namespace Nil
def Configs (w:World) (B g:Nat) (e:Ending) (w':World):Prop:=
 ∃(c:Cfg) (l:List (Int × Int)) (G b:Nat) (ts:List Int),e= .returned (Value.agg #[.int .i64 c.length,.int .i64 c.lateness,.int .i64 c.windows,.int .i64 c.shards,.int .i64 c.spread,.int .i64 c.queue,.int .i64 c.mode,.int .i64 c.slots,.int .i64 c.exact_,.int .u64 c.promote,.int .i64 c.depth,.int .i64 c.width,.int .i64 c.top,.int .i64 c.key,.slice (some ⟨G,0,none⟩) l.length l.length,.slice (some ⟨b,0,none⟩) 16 16,.int .u64 c.seed])∧Mild c∧(l.map Prod.fst= [8,24,32,80,256])∧l.map Prod.snd=Zac c l∧
  w.heap.size≤G∧Blk w' G 35 (clv l).toArray∧ts.length=16∧(∀z∈ts,0≤z∧z<1)∧Blk w' b 23 (ts.map (.int .u64)).toArray∧w.heap.size≤b∧IsDeck w' B g∧Keeps (· =g) w w'
theorem config_any (B g:Nat) (w:World) (h:IsDeck w B g):Calls Tryz.prog 7 #[.pointer (some ⟨g,0,none⟩)] w (Configs w B g):=by
 have hgl:=h.lt
 have hgB:=h.le
 have hb0:=zz (Blk.new w 27 #[.int .i64 0,.int .i64 0,.int .i64 0,.int .i64 0,.int .i64 0,.int .i64 0,.int .i64 0,.int .i64 0,.int .i64 0,.int .u64 0,.int .i64 0,.int .i64 0,.int .i64 0,.int .i64 0,.slice none 0 0,.slice none 0 0,.int .u64 0])
 have K0:=zz ((Kz0 (· =g) w).alloc (.cells #[.int .i64 0,.int .i64 0,.int .i64 0,.int .i64 0,.int .i64 0,.int .i64 0,.int .i64 0,.int .i64 0,.int .i64 0,.int .u64 0,.int .i64 0,.int .i64 0,.int .i64 0,.int .i64 0,.slice none 0 0,.slice none 0 0,.int .u64 0] 27))
 have d0:=zz (h.kept ((Kz0 NO w).alloc (.cells #[.int .i64 0,.int .i64 0,.int .i64 0,.int .i64 0,.int .i64 0,.int .i64 0,.int .i64 0,.int .i64 0,.int .i64 0,.int .u64 0,.int .i64 0,.int .i64 0,.int .i64 0,.int .i64 0,.slice none 0 0,.slice none 0 0,.int .u64 0] 27)) (fun h=> h) (fun _ _ h=> h))
 clear h
 go_enter Tryz.func7,Tryz.ntmps7
 go_upto_region 1 with fail
 refine Code.wp_mono ?_ (reg1 B g w _ _ _ _ _ _ _ _ _ _ _ _ _ _ _ _ _ _ _ _ _ _ _ _ _ _ _ _ _ _ _ _ _ _ _ _ _ _ _ _ _ _ _ _ _ _ _ _ _ _ _ _ _ _ _ _ _ _ _ _ _ _ _ _ _ _ _ _ _ _ _ _ _ _ _ _ _ _ _ _ _ _ _ _ _ _ _ _ _ _ _ _ _ _ _ _ hb0.out K0.out d0.out hgl hgB)
 intro e a' w15 hex
 cases e <;> (first | exact hex.elim | skip)
 obtain⟨X,⟨v7,v8,v9,v10,v11,v12,v13,v14,v15,v16,v17,v18,v19,v20,v21,v22,v23,v24,v25,v26,v27,v28,v29,v30,v31,v32,v33,v34,v35,v36,v37,v38,v39,v40,v41,v42,v43,v44,v45,rfl⟩,c0,b,ts,hm,tl,tb,tk,tw,bx,d15,kp,b0,hX⟩:=hex
 dsimp only
 have q3:w15.cell? ⟨X,3,none⟩=some (.int .i64 c0.shards):=bx.cell 3
 have hsh:=hm.fine.shards
 dsimp only at hsh
 have HM:=zz hm
 have HT:=zz tk
 have BX:=zz bx
 have KP:=zz kp
 have B0:=zz b0
 clear hm tk bx kp b0 hb0 K0 d0
 go_wp2_with fail
 refine(next_any c0.shards (by omega) (by omega) B g _ d15).mono ?_
 rintro e w16 ⟨x13,rfl,a13,b13,d16,k16⟩
 have p13:IntKind.i64.wrap (1+x13)=1+x13:=IntWalk.i64_in _ (by omega)
 have bx16:=BX.out.kept k16 (by omega)
 have c4:=bx16.frozen 4
 have c4':w16.cell? ⟨X,4,none⟩=some (.int .i64 c0.spread):=bx16.cell 4
 have HM':=zz (HM.out.s (1+x13) (by omega) (by omega))
 have hS0:Hid (Blk w16 b 23 (ts.map (.int .u64)).toArray∧Blk w16 X 27 (cfC c0 none 0 0 (some ⟨b,0,none⟩) 16 16)∧Keeps (· =g) w w16∧Blk w16 w.heap.size 27 #[.int .i64 0,.int .i64 0,.int .i64 0,.int .i64 0,.int .i64 0,.int .i64 0,.int .i64 0,.int .i64 0,.int .i64 0,.int .u64 0,.int .i64 0,.int .i64 0,.int .i64 0,.int .i64 0,.slice none 0 0,.slice none 0 0,.int .u64 0]):=⟨HT.out.kept k16 (by omega),bx16,KP.out.trans k16,B0.out.kept k16 (by omega)⟩
 have D16:=zz d16
 clear bx16 k16 d15 BX HT B0 KP HM q3 d16
 go_wp2_with fail
 have hS:Hid (CSx w B g X none 0 0 { c0 with spread:=1+x13} b ts (w16.setCell ⟨X,4,none⟩ (.int .i64 (1+x13)))):=by
  obtain⟨tk,bx,kp,b0⟩:=hS0.out
  have kS:Keeps (· =X) w16 (w16.setCell ⟨X,4,none⟩ (.int .i64 (1+x13))):=Keeps.setCell (S:=(· =X)) (p:=⟨X,4,none⟩) (Kz0 _ _) (.inl rfl) _
  have hne:b≠X:=tk.ne bx (by decide)
  exact⟨HM'.out,tl,tb,tk.kept kS hne,tw,bx.set 4 _,D16.out.kept kS (by omega) (fun b hb=> by omega),kp.step kS (fun b hb e=> by omega),b0.kept kS (by omega),hX,hgl,hgB⟩
 clear hS0 c4 c4' D16 HM' p13
 generalize w16.setCell ⟨X,4,none⟩ (.int .i64 (1+x13))=w17 at*
 refine(next_any 4 (by omega) (by omega) B g _ hS.out.dk).mono ?_
 rintro e w18 ⟨y1,rfl,ya1,yb1,d18,k18⟩
 have HS:=zz (hS.out.kept k18 d18)
 clear k18 d18 hS
 go_upto_if 54 with fail
 have e1:(y1==1)=false:=by simp;omega
 go_cut [] from 55 to 55 (CS w B g X none 0 0)
 case first=>
  have f5:=HS.out.bx.frozen 5
  have f5':w18.cell? ⟨X,5,none⟩=some (.int .i64 c0.queue):=HS.out.bx.cell 5
  go_wp2_with fail
  go_meet
  exact⟨_,_,_,HS.out⟩
 case rest=>
 clear HS
 obtain⟨c1,b1,t1,h1⟩:=hcut
 go_wp2_with fail
 refine(next_any 4 (by omega) (by omega) B g _ h1.dk).mono ?_
 rintro e w18 ⟨y2,rfl,ya2,yb2,d18,k18⟩
 have HS:=zz (h1.kept k18 d18)
 clear k18 d18 h1
 go_upto_if 58 with fail
 have e2:(y2==1)=false:=by simp;omega
 rw [e2]
 go_cut [] from 59 to 62 (CS w B g X none 0 0)
 case first=>
  go_wp2_with fail
  go_meet
  exact⟨_,_,_,HS.out⟩
 case rest=>
 clear HS
 obtain⟨c2,b2,t2,h2⟩:=hcut
 have H2:=zz h2
 clear h2
 have f14:=H2.out.bx.frozen 14
 have f14':wc.cell? ⟨X,14,none⟩=some (.slice none 0 0):=H2.out.bx.cell 14
 have hXc:=H2.out.bx.lt
 go_wp2_with fail
 obtain⟨wa,hwa⟩:∃wa,wa=(wc.setCell ⟨X,14,none⟩ (.slice (some ⟨wc.heap.size,0,none⟩) 5 5)).alloc (.cells #[.int .i64 8,.int .i64 0,.int .i64 24,.int .i64 0,.int .i64 32,.int .i64 0,.int .i64 80,.int .i64 0,.int .i64 256,.int .i64 0] 35):=⟨_,rfl⟩
 rw [←hwa]
 have HG3:=zz (show Blk wa wc.heap.size 35 (clv l5).toArray by rw [hwa];exact Blk.new_at _ _ _ _ (by simp))
 have H3:=zz (show CSx w B g X (some ⟨wc.heap.size,0,none⟩) 5 5 c2 b2 t2 wa by
  rw [hwa];exact(H2.out.put 14 (.slice (some ⟨wc.heap.size,0,none⟩) 5 5) H2.out.mild rfl).quiet ((Kz0 _ _).alloc _))
 have hGc:w.heap.size≤wc.heap.size:=H2.out.kp.size
 have hXa:=H2.out.hX
 clear hwa H2 f14 f14'
 generalize wc.heap.size=G at*
 refine(next_any 3 (by omega) (by omega) B g _ H3.out.dk).mono ?_
 rintro e w20 ⟨y4,rfl,ya4,yb4,d20,k20⟩
 have H4:=zz (H3.out.kept k20 d20)
 have HG4:=zz (HG3.out.kept k20 (by omega))
 clear k20 d20 H3 HG3
 go_upto_if 72 with fail
 have e4:(y4==1)=false:=by simp;omega
 rw [e4]
 go_cut [] from 73 to 75 (CL w B g X)
 case first=>
  go_wp2_with fail
  go_meet
  exact⟨l5,G,5,_,_,_,rfl,rfl,HG4.out,hGc,H4.out⟩
 case rest=>
 clear H4 HG4
 obtain⟨l,G1,n,c3,b3,t3,hl,hn,hg3,hG1,h3⟩:=hcut
 have HL:Hid (l=l5):=hl
 have HN:Hid (n=l.length):=hn
 have hn8:1≤n∧n≤8:=by subst hn;rcases hl with rfl;simp [l5]
 have hcl:Hid (Za7 l=0):=by rcases hl with rfl; (show _=_;rfl)
 have hrm:Hid (Room c3 l):=by
  have h1:=h3.mild.width
  have h2:=h3.mild.fine.key
  rcases hl with rfl
  exact⟨4,(256,0),rfl,rfl,by dsimp only;omega,by dsimp only;omega,by dsimp only;omega⟩
 have HD:=zz (Zgm c3 h3.mild.fine l hcl.out hrm.out (some ⟨G1,0,none⟩) (some ⟨b3,0,none⟩) n n 16 _ _ (hg3.rd (by rw [Zax,HN.out])) (Nat.le_refl _))
 have H5:=zz h3
 have HG5:=zz hg3
 clear hl hn hg3 h3
 go_wp2_with (refine Zah _ rfl H5.out.bx rfl (by rfl) ?_;simp only [Zpt])
 refine HD.out.mono ?_
 rintro e w21 ⟨g1,rfl,hg1,nu,k21⟩
 obtain⟨zs,hzs⟩:∃zs,zs=Zac c3 l:=⟨_,rfl⟩
 rw [←hzs] at nu
 have HE:=zz hzs
 have HZL:Hid (zs.length=n):=by show _=_;rw [hzs,Zaw,HN.out]
 have HZ:=zz nu
 have H6:=zz (H5.out.quiet k21)
 have HG6:=zz (HG5.out.kept k21 (fun h=> h))
 have hg1l:=HG5.out.lt
 clear HD H5 HG5 nu k21 hzs
 go_wp2_with fail
 go_loopw [6,83] (fun _ iv wr=> ∃i:Nat,i≤n∧iv= .int .i64 i∧Hid (Blk wr G1 35 (clv (Zb9 l zs i)).toArray)∧Hid (Nums wr g1 zs)∧Hid (CSx w B g X (some ⟨G1,0,none⟩) n n c3 b3 t3 wr)) (fun _ iv _=> n-(intOf iv).toNat)
 case atStart=> exact⟨0,by omega,rfl,HG6,HZ,H6⟩
 case round=>
  obtain⟨i,hi,rfl,HGr,HZr,Hr⟩:=hrel
  clear HG6 HZ H6
  by_cases hlt:i<n
  ·have f14:wr.cell? ⟨X,14,none⟩=some (.slice (some ⟨G1,0,none⟩) n n):=Hr.out.bx.cell 14
   have hz:=HZr.out.cell i (by have:=HZL.out;omega)
   obtain⟨z,hze⟩:∃z,z=zs.getD i 0:=⟨_,rfl⟩
   rw [←hze] at hz
   have HZE:=zz hze
   have hfl:(Zb9 l zs i).length=n:=by rw [Zbj,HN.out]
   have hcc:=(Zbb (Zb9 l zs i) i ((Zb9 l zs i)[i]'(by omega)) (by simp)).2
   have ht:=HGr.out.cell (i*2+1)
   rw [List.getElem?_toArray,hcc] at ht
   have hf:=HGr.out.frozen (i*2+1)
   obtain⟨tv,htv⟩:∃tv,tv=((Zb9 l zs i)[i]'(by omega)).2:=⟨_,rfl⟩
   rw [←htv] at ht
   have HFL:=zz hfl
   have hi0:(0:Int)≤(i:Int):=by omega
   have hi1:(i:Int)<(n:Int):=by omega
   clear hze hfl hcc htv
   go_wp2_with fail
   go_region
   go_wp2_with fail
   go_roundw
   case rel=>
    have kS:Keeps (· =G1) wr (wr.setCell ⟨G1,i*2+1,none⟩ (.int .i64 z)):=Keeps.setCell (S:=(· =G1)) (p:=⟨G1,i*2+1,none⟩) (Kz0 _ _) (.inl rfl) _
    refine⟨i+1,by omega,by go_num,?_,?_,?_⟩
    ·show Blk _ _ _ (clv (putN (Zb9 l zs i) i (zs.getD i 0))).toArray
     rw [←HZE.out,←Zfh _ _ _ (by rw [HFL.out];exact hlt),←List.setIfInBounds_toArray]
     first | exact HGr.out.set (i*2+1) (.int .i64 z) | exact(HGr.out.set (i*2+1) (.int .i64 z)).drew
    ·exact HZr.out.kept (S:=(· =G1)) (by first | exact kS | exact kS.drew) (by omega)
    ·have h1:=Hr.out.tk.ne HGr.out (by decide)
     have h2:=Hr.out.bx.ne HGr.out (by decide)
     have h3:=Hr.out.b0.ne HGr.out (by decide)
     exact Hr.out.far (q:=G1) (by first | exact kS | exact kS.drew) (by omega) h1 h2
   case measure=> simp [intOf];omega
  ·obtain rfl:i=n:=by omega
   go_upto_region 16 with fail
   refine Code.wp_mono ?_ (Zu6 c3 (some ⟨G1,0,none⟩) (some ⟨b3,0,none⟩) i i 16 w.heap.size X wr _ _ _ _ _ _ _ _ _ _ _ _ _ _ _ _ _ _ _ _ _ _ _ _ _ _ _ _ _ _ _ _ _ _ _ _ _ _ _ _ _ _ _ _ _ _ _ _ _ _ _ _ _ _ _ _ _ _ _ _ _ _ _ _ _ _ _ _ _ _ _ _ _ _ _ _ _ _ _ _ _ _ _ _ _ _ _ _ _ _ _ _ _ _ _ Hr.out.bx Hr.out.b0)
   intro e a' w'' hex
   cases e <;> (first | exact hex.elim | skip)
   obtain⟨rfl,br,kr⟩:=hex
   obtain⟨q0,q1,q2,q3,q4,q5,q6,q7,q8,q9,q10,q11,q12,q13,q14,q15,q16⟩:=Zb1 br
   have KR:=zz kr
   clear br kr
   dsimp only
   go_wp2_with fail
   refine bodyPost_ret (v:=Value.agg (cfC c3 (some ⟨G1,0,none⟩) i i (some ⟨b3,0,none⟩) 16 16)) (by simp [results,Tryz.results7,go_sem,q0,q1,q2,q3,q4,q5,q6,q7,q8,q9,q10,q11,q12,q13,q14,q15,q16]) rfl ?_
   have hL:(Zb9 l zs i).length=i:=by rw [Zbj];exact HN.out.symm
   have h1:=Hr.out.tw
   have h2:=HGr.out.ne Hr.out.b0 (by decide)
   have h3:=Hr.out.hg
   have h4:=Hr.out.hB
   refine⟨c3,Zb9 l zs i,G1,b3,t3,by rw [hL],Hr.out.mild,?_,?_,hG1,HGr.out.kept KR.out h2,Hr.out.tl,Hr.out.tb,Hr.out.tk.kept KR.out (by omega),by omega,Hr.out.dk.kept KR.out (by omega) (fun b hb=> by omega),Hr.out.kp.step KR.out (fun b hb e=> by omega)⟩
   ·rw [Zcx]
    rcases HL.out with rfl
    rfl
   ·rw [Zdd (Zcx l zs i),←HE.out]
    have:=Zgh l zs (by rw [HZL.out];exact HN.out)
    rw [←HN.out] at this
    exact this
end Nil
end Go.Proofs.YtjamiaamngalgaaGreat
