/-
  Parts: merge.All and merge.Rest; tier.entries of one key; tier.give. No conditions beyond those of the statement.
-/
import Derived.Test.YtjamiaamngalgaaGreatG32
import Derived.Test.YtjamiaamngalgaaGreatG46
import Derived.Test.YtjamiaamngalgaaGreatG14
import Derived.Test.YtjamiaamngalgaaGreatG00
import Derived.Test.YtjamiaamngalgaaGreatG30
import Derived.Test.YtjamiaamngalgaaGreatG31
set_option linter.unusedVariables false
set_option linter.unusedSimpArgs false
set_option maxRecDepth 1000000
set_option maxHeartbeats 4000000
namespace Go.Proofs.YtjamiaamngalgaaGreat
open Go.RowKit Go.Maps Cfp
theorem Zh5 (ts:List Int) (seed:Int) (k:List UInt8) (i:Nat):Cmp.pos ts seed k 1 i=0:=by
 have:=Cmp.pos_lt ts seed k 1 i (by omega)
 omega
theorem Zkr (ts:List Int) (seed:Int) (key:ByteArray):Zck ts seed key 5= [[5]]:=by
 have hv:Cmp.val [[0]] ts seed key.data.toList 0=0:=by simp [Cmp.val,Cmp.cell,Zh5,List.getD]
 have hl:Cmp.least (Cmp.news 1 1) ts seed key.data.toList 1=0:=by
  show min (Cmp.least [[0]] ts seed key.data.toList 0) (Cmp.val [[0]] ts seed key.data.toList 0)=0
  rw [hv]
  rfl
 unfold Zck
 rw [hl]
 show Cmp.put [[0]] 0 (Cmp.pos ts seed key.data.toList 1 0) (max (Cmp.val [[0]] ts seed key.data.toList 0) (0+5))= [[5]]
 rw [hv,Zh5]
 decide
theorem Zfx (F:Zaq) (ts:List Int) (seed:Int) (key:ByteArray) (h:(F 0).2.2.2=(Zck ts seed key 5).getD 0 []):Cmp.rowsL F 1= [[5]]:=by
 show [(F 0).2.2.2]= [[5]]
 rw [h,Zkr]
 rfl
theorem Zst (F:Zaq) (zs:List Int) (hz:zs.length=16) (seed:Int) (k:List UInt8) (h:Cmp.rowsL F 1= [[5]]):estS 5 1 F zs seed k=5:=by
 unfold estS
 rw [if_neg (by omega),h]
 unfold Cmp.ofV
 rw [if_neg (by rw [hz];simp)]
 have hv:Cmp.val [[5]] zs seed k 0=5:=by simp [Cmp.val,Cmp.cell,Zh5,List.getD]
 show min (Cmp.least [[5]] zs seed k 0) (Cmp.val [[5]] zs seed k 0)=5
 rw [hv]
 rfl
theorem Zmu (key:ByteArray) (h1:1≤key.size) (h2:key.size≤255):Zd1 1 1 5 0 [⟨key,5,0⟩] [[5]]=0:=by
 have h0:Zc1 5 [⟨key,5,0⟩] 0 ⟨key,5,0⟩=0:=by
  have ha:=Sat.add_yes (a:=5) (b:=0) (by omega)
  unfold Zc1
  rw [if_neg (by show¬key.size=0;omega),if_neg (by show¬255<key.size;omega)]
  simp [Zek,ha.1,ha.2]
 have hs:Zdn 5 [⟨key,5,0⟩] [⟨key,5,0⟩] 0=0:=by simp [Zdn,h0]
 have ha:=Sat.add_yes (a:=0) (b:=5) (by omega)
 simp only [Int.zero_add] at ha
 simp [Zd1,hs,accE,ha.1,ha.2,Zf0]
theorem Zgc (key:ByteArray) (lo hi:Int):Zcg [⟨key,lo,hi⟩] key=0:=by simp [Zcg,List.findIdx_cons]
theorem Zug (c:Cfg) (hr:Rtd c) (hsh:c.shards=1) (hsp:c.spread=1) (C T:Option Addr) (n k j:Nat) (key:ByteArray) (h2:key.size≤255) (zs:List Int) (hz:∀z∈zs,0≤z∧z<18446744073709551616)
  (W:World) (g cS:Nat) (A:Option Addr) (cA:Nat) (R:Option Addr) (cR:Nat) (F:Zaq) (ts:List Int) (h:OneS W W.heap.size g 5 0 A cA R cR ⟨key,5,0⟩ F) (hF:(F 0).2.2.2=(Zck ts c.seed key 5).getD 0 []) (ht:Rd W W.heap.size T 1 16 (zs.map (.int .u64))):
  Calls Tryz.prog 140 #[Value.agg (cfC c C n k T 16 j),.slice (some ⟨g,0,none⟩) 1 cS,.string key,.slice none 0 0] W fun e w'=> e= .returned (.agg #[.string key,.int .u64 5,.int .u64 5])∧Keeps NO W w':=by
 have hl:zs.length=16:=by have:=ht.1;simpa using this
 have he:=Zst F zs hl c.seed key.data.toList (Zfx F ts c.seed key hF)
 have ha:=Sat.add_yes (a:=5) (b:=0) (by omega)
 have hlo:imin (loS [⟨key,5,0⟩] key) 5=5:=by simp [loS,Zgc,imin]
 have hhi:imin (hiS [⟨key,5,0⟩] 0 key) 5=5:=by simp [hiS,Zgc,ha.1,imin]
 refine Zrt W W.heap.size g cS c hsh C T n k j key 5 0 A R cA cR ⟨key,5,0⟩ F 5 5 (decide (Zcg [⟨key,5,0⟩] key<1)) ⟨by omega,by omega⟩ ⟨by omega,by omega⟩ h ?_ ?_
 ·intro V kV
  refine(Zq6 c hr C T n k j _ V zs hz (ht.kept kV (fun _ _ h=> h)) key (by omega)).mono ?_
  rintro e w' ⟨A',cc,rfl,_,_,hr2,kk⟩
  have hs:Zdy c (Zcb c zs key) c.spread.toNat= [0]:=by
   rw [hsp]
   simp [Zdy,hsh,Int.emod_one,List.range_succ]
  rw [hs] at hr2 ⊢
  obtain⟨b,off,rfl,hb,hc⟩:=hr2.2 (by simp)
  exact⟨b,off,cc,rfl,by simpa using hc 0 (.int .i64 0) rfl,hb,kk⟩
 ·intro V kV
  have hb:=Zh4 V W.heap.size c C T n k 16 j zs (ht.kept kV (fun _ _ h=> h)) hz hr.seed 5 0 A R 1 cA 1 cR [⟨key,5,0⟩] F (h.quiet kV).sm kV.size key (by omega)
  rw [he,hlo,hhi] at hb
  exact hb
theorem Zw2 (c:Cfg) (hr:Rtd c) (hsh:c.shards=1) (hsp:c.spread=1) (C T:Option Addr) (n k j:Nat) (key:ByteArray) (h2:key.size≤255) (zs:List Int) (hz:∀z∈zs,0≤z∧z<18446744073709551616)
  (W:World) (g cS:Nat) (A:Option Addr) (cA:Nat) (R:Option Addr) (cR:Nat) (F:Zaq) (ts:List Int) (h:OneS W W.heap.size g 5 0 A cA R cR ⟨key,5,0⟩ F) (hF:(F 0).2.2.2=(Zck ts c.seed key 5).getD 0 []) (ht:Rd W W.heap.size T 1 16 (zs.map (.int .u64))):
  Calls Tryz.prog 78 #[Value.agg (cfC c C n k T 16 j),.slice (some ⟨g,0,none⟩) 1 cS,.slice none 0 0] W fun e w'=> ∃A' c',e= .returned (.slice A' 1 c')∧Own w' W.heap.size 139 3 A' 1 c' [.string key,.int .u64 5,.int .u64 5]∧Keeps NO W w':=
 Zue W W.heap.size g cS c C T n k j key 5 0 A R cA cR ⟨key,5,0⟩ rfl F 5 5 h (Nat.le_refl _) (fun V kV=> Zug c hr hsh hsp C T n k j key h2 zs hz V g cS A cA R cR F ts ((h.quiet kV).more kV.size) hF ((ht.kept kV (fun _ _ h=> h)).more kV.size))
theorem Zu4 (c:Cfg) (hr:Rtd c) (hsh:c.shards=1) (hsp:c.spread=1) (hd:c.depth=1) (hw:c.width=1) (C T:Option Addr) (n k j:Nat) (key:ByteArray) (h1:1≤key.size) (h2:key.size≤255)
  (W:World) (g cS:Nat) (A:Option Addr) (cA:Nat) (R:Option Addr) (cR:Nat) (F:Zaq) (ts:List Int) (h:OneS W W.heap.size g 5 0 A cA R cR ⟨key,5,0⟩ F) (hF:(F 0).2.2.2=(Zck ts c.seed key 5).getD 0 []):
  Calls Tryz.prog 83 #[Value.agg (cfC c C n k T 16 j),.slice (some ⟨g,0,none⟩) 1 cS] W fun e w'=> e= .returned (.int .u64 0)∧Keeps NO W w':=
 Zrr W W.heap.size g cS c hsh hsp C T n k j 5 A R cA cR ⟨key,5,0⟩ F h (fun V kV=> Zoa V V.heap.size g cS c hr hsh C T n k j 5 0 A R cA cR ⟨key,5,0⟩ F ((h.quiet kV).more kV.size) (Nat.le_refl _) (by omega) (by omega) (by rw [Zfx F ts c.seed key hF,hd,hw];exact Zmu key h1 h2))
open Go.RowKit Go.Maps Cfp
theorem Zj1 (w:World) (P:TP) (key:ByteArray) (v:Int) (R:Cmp.Rows) (t1 t2:Int) (HL:List (ByteArray × Value)) (hs:List Value) (h:Tu w P (some (key,v)) R t1 t2 HL hs) (hk:key.size≤140737488351232):
  Calls Tryz.prog 130 #[.pointer (some ⟨P.tr,0,none⟩)] w fun e w'=> ∃A c,e= .returned (.slice A 1 c)∧Own w' w.heap.size 263 3 A 1 c [.string key,.int .u64 v,.int .u64 0]∧Keeps NO w w':=by
 have HC:=zz (fun W (kW:Keeps NO w W)=> show W.cell? ⟨P.tr,19,none⟩=some (.pointer (some ⟨P.t,0,none⟩))∧W.cell? ⟨P.tr,20,none⟩=some (.pointer (some ⟨P.ge,0,none⟩)) from⟨(h.quiet kW).blk.cell 19,(h.quiet kW).blk.cell 20⟩)
 have HTe:=zz (fun W (kW:Keeps NO w W)=> Zqy W P.B1 P.t P.sv t1 key v (h.quiet kW).tb hk)
 have HEe:=zz (fun W (kW:Keeps NO w W)=> Zgl W 0 P.ge 0 none 0 0 [] (h.quiet kW).ex (Rd.zero rfl) (by omega))
 clear h
 go_enter Tryz.func130,Tryz.ntmps130
 go_upto_region 1 with fail
 have K0:=zz ((Kz0 NO w).drew)
 refine wp_region_held_drew (S:=fun W=> W.cell? ⟨P.tr,19,none⟩=some (.pointer (some ⟨P.t,0,none⟩))∧W.cell? ⟨P.tr,20,none⟩=some (.pointer (some ⟨P.ge,0,none⟩))) (by kernel_rfl) (HC.out _ K0.out) (fun hHeld=> ?_)
 refine tkA 0 ?_
 refine tkA 1 ?_
 refine tkA 2 ?_
 refine tkA 3 ?_ (hy:=by intro w hSw; (try dsimp only at hSw); (have q1:=hSw.1);clear hSw;go_simp;try (with_reducible rfl))
 refine tkA 5 ?_
 refine tkA 6 ?_
 refine tkA 7 ?_
 refine tkA 8 ?_ (hy:=by intro w hSw; (try dsimp only at hSw); (have q1:=hSw.2);clear hSw;go_simp;try (with_reducible rfl))
 generalize w.drew=wd at*
 refine rd1 4 (fun K hK=> ?_)
 go_simp
 go_at_call 193
 refine(HTe.out _ K0.out).mono ?_
 rintro e w2 ⟨A,c,rfl,o2,k2⟩
 have O2:=zz (o2.base_le (Nat.zero_le _))
 have K2:=zz (K0.out.trans k2)
 clear o2 k2 HTe K0
 try go_wp2_with fail
 refine hK.out _ _ (HC.out _ K2.out) (fun hHeld=> ?_)
 clear hK K
 (try simp only [Zpt])
 refine rd1 9 (fun K hK=> ?_)
 go_simp
 go_at_call 194
 refine(HEe.out _ K2.out).mono ?_
 rintro e w3 ⟨A3,c3,rfl,o3,k3⟩
 have O3:=zz (O2.out.kept k3 (fun _ _ h=> h))
 have K3:=zz (K2.out.trans k3)
 clear o3 k3 HEe K2 O2
 try go_wp2_with fail
 refine hK.out _ _ (HC.out _ K3.out) (fun hHeld=> ?_)
 clear hK K
 (try simp only [Zpt])
 refine rd1 10 (fun K hK=> ?_)
 go_simp
 have kB:=(Kz0 NO w3).alloc (.cells #[.slice A 1 c,.slice A3 0 c3] 75)
 have HB:=zz (Blk.new w3 75 #[.slice A 1 c,.slice A3 0 c3])
 have O4:=zz (O3.out.kept kB (fun _ _ h=> h))
 have K4:=zz (K3.out.trans kB)
 clear kB O3 K3
 generalize w3.alloc _=w4 at*
 generalize w3.heap.size=G at*
 try go_wp2_with fail
 refine hK.out _ _ (HC.out _ K4.out) (fun hHeld=> ?_)
 clear hK K
 (try simp only [Zpt])
 refine rd1 11 (fun K hK=> ?_)
 go_simp
 go_at_call 192
 refine(Zpc w4 G A A3 c c3 w4.heap.size [.string key,.int .u64 v,.int .u64 0] (by simp [Value.oneCell']) (HB.out.cell 0) (HB.out.cell 1) (O4.out.rd (by omega))).mono ?_
 rintro e w5 ⟨A',c',rfl,o5,k5⟩
 have O5:=zz (o5.base_le (show w.heap.size≤_ from K4.out.size))
 have K5:=zz (K4.out.trans k5)
 clear o5 k5 HB O4 K4
 try go_wp2_with fail
 refine hK.out _ _ (HC.out _ K5.out) (fun hHeld=> ?_)
 clear hK K
 (try simp only [Zpt])
 refine tkA 12 ?_
 refine wpAnyH_done (by kernel_rfl) ?_ _
 go_wp2_with fail
 refine(Zsy w5 A' 1 c' (by omega) _).mono ?_
 rintro e w6 ⟨rfl,rfl⟩
 go_wp2_with fail
 go_ret
 exact⟨A',c',rfl,O5.out,K5.out⟩
def TSum (w:World) (key:ByteArray) (v tot:Int) (R:Cmp.Rows) (e:Ending) (w':World):Prop:=
 ∃A c RA cR F,e= .returned (smV tot A 1 c 0 RA 1 cR)∧(∀W,Keeps (fun b=> b<w.heap.size) w' W→SmIn W W.heap.size A 1 [⟨key,v,0⟩] RA 1 F)∧(F 0).2.2.2=R.getD 0 []∧Keeps NO w w'
theorem Ziz (w:World) (P:TP) (key:ByteArray) (v:Int) (R:Cmp.Rows) (t1 t2:Int) (HL:List (ByteArray × Value)) (hs:List Value) (h:Tu w P (some (key,v)) R t1 t2 HL hs) (hk:key.size≤140737488351232) (v0:0≤v) (v1:v<18446744073709551616):
  Calls Tryz.prog 68 #[.pointer (some ⟨P.tr,0,none⟩)] w (TSum w key v t2 R):=by
 have k1:=(Kz0 NO w).alloc (.cells (smC 0 none 0 0 0 none 0 0) 78)
 have HX:=zz (Blk.new w 78 (smC 0 none 0 0 0 none 0 0))
 have K1:=zz k1
 have HC:=zz (fun W (kW:Keeps NO w W)=> show W.cell? ⟨P.tr,21,none⟩=some (.pointer (some ⟨P.gs,0,none⟩))∧W.cell? ⟨P.tr,19,none⟩=some (.pointer (some ⟨P.t,0,none⟩)) from⟨(h.quiet kW).blk.cell 21,(h.quiet kW).blk.cell 19⟩)
 have HOp:=zz (fun W (kW:Keeps NO w W)=> Zex W P.tr P.M ((h.quiet kW).blk.cell 23))
 have HTo:=zz (fun W (kW:Keeps NO w W)=> Zfo (h.quiet kW).sk)
 have HEn:=zz (fun W (kW:Keeps NO w W)=> Zj1 W P key v R t1 t2 HL hs (h.quiet kW) hk)
 have HUn:=zz (fun W (kW:Keeps NO w W)=> Zqr W P.B1 P.t P.sv _ t1 (h.quiet kW).tb)
 have HRo:=zz (fun W (kW:Keeps NO w W)=> Znt (h.quiet kW).sk)
 have HFi:=zz (And.intro h.sk.fine h.sk.tt.2)
 clear h k1
 go_enter Tryz.func68,Tryz.ntmps68
 go_upto_region 1 with fail
 generalize w.alloc _=w1 at*
 generalize hX:w.heap.size=X at*
 go_wp2_with fail
 refine(HOp.out w1 K1.out).mono ?_
 rintro e w2 ⟨rfl,rfl⟩
 go_upto_region 3 with fail
 have K0:=zz (K1.out.drew)
 have HX0:=zz (show Blk w1.drew X 78 (smC 0 none 0 0 0 none 0 0) from HX.out.kept ((Kz0 NO w1).drew) (fun h=> h))
 clear HX K1 HOp
 refine wp_region_held_drew (S:=fun W=> W.cell? ⟨P.tr,21,none⟩=some (.pointer (some ⟨P.gs,0,none⟩))∧W.cell? ⟨P.tr,19,none⟩=some (.pointer (some ⟨P.t,0,none⟩))) (by kernel_rfl) (HC.out _ K0.out) (fun hHeld=> ?_)
 refine tkA 0 ?_
 refine tkA 1 ?_
 refine tkA 2 ?_
 refine tkA 3 ?_ (hy:=by intro w hSw; (try dsimp only at hSw); (have q1:=hSw.1);clear hSw;go_simp;try (with_reducible rfl))
 refine tkA 5 ?_
 refine tkA 7 ?_
 refine tkA 8 ?_
 refine tkA 9 ?_
 refine tkA 10 ?_ (hy:=by intro w hSw; (try dsimp only at hSw); (have q1:=hSw.2);clear hSw;go_simp;try (with_reducible rfl))
 refine tkA 12 ?_
 refine tkA 13 ?_
 refine tkA 14 ?_
 refine tkA 15 ?_ (hy:=by intro w hSw; (try dsimp only at hSw); (have q1:=hSw.1);clear hSw;go_simp;try (with_reducible rfl))
 generalize w1.drew=wd at*
 refine rd1 4 (fun K hK=> ?_)
 go_simp
 go_at_call 129
 refine(HTo.out _ K0.out).mono ?_
 rintro e w2 ⟨rfl,rfl⟩
 try go_wp2_with fail
 refine hK.out _ _ (HC.out _ K0.out) (fun hHeld=> ?_)
 clear hK K
 (try simp only [Zpt])
 refine rd1 6 (fun K hK=> ?_)
 go_simp
 go_at_call 130
 refine(HEn.out _ K0.out).mono ?_
 rintro e w3 ⟨A,c,rfl,o3,k3⟩
 have O3:=zz (o3.base_le (show X≤_ from by have:=K0.out.size;omega))
 have HX3:=zz (HX0.out.kept k3 (fun h=> h))
 have K3:=zz (K0.out.trans k3)
 clear o3 k3 HX0 K0 HTo HEn
 try go_wp2_with fail
 refine hK.out _ _ (HC.out _ K3.out) (fun hHeld=> ?_)
 clear hK K
 (try simp only [Zpt])
 refine rd1 11 (fun K hK=> ?_)
 go_simp
 go_at_call 131
 refine(HUn.out _ K3.out).mono ?_
 rintro e w4 ⟨rfl,rfl⟩
 try go_wp2_with fail
 refine hK.out _ _ (HC.out _ K3.out) (fun hHeld=> ?_)
 clear hK K
 (try simp only [Zpt])
 refine rd1 16 (fun K hK=> ?_)
 go_simp
 go_at_call 132
 refine(HRo.out _ K3.out).mono ?_
 rintro e w5 ⟨out,rfl,RA,cR,F,rfl,r5,rr5,k5⟩
 have hX4:=HX3.out.lt
 have O5:=zz (O3.out.kept k5 (fun _ _ h=> h))
 have HX5:=zz (HX3.out.kept k5 (fun h=> h))
 have K5:=zz (K3.out.trans k5)
 have HR5:=zz (And.intro r5 rr5)
 clear r5 rr5 k5 O3 HX3 K3 HRo HUn
 try go_wp2_with fail
 refine hK.out _ _ (HC.out _ K5.out) (fun hHeld=> ?_)
 clear hK K
 (try simp only [Zpt])
 refine tkA 17 ?_
 have x0:=HX5.out.cell 0
 have x1:=HX5.out.cell 1
 have x2:=HX5.out.cell 2
 have x3:=HX5.out.cell 3
 have y0:=HX5.out.frozen 0
 have y1:=HX5.out.frozen 1
 have y2:=HX5.out.frozen 2
 have y3:=HX5.out.frozen 3
 refine rd1 18 (fun K hK=> ?_)
 go_simp
 have kS:Keeps NO w ((((w5.setCell ⟨X,0,none⟩ (.int .u64 t2)).setCell ⟨X,1,none⟩ (.slice A 1 c)).setCell ⟨X,2,none⟩ (.int .u64 0)).setCell ⟨X,3,none⟩ (.slice RA 1 cR)):=
  (((K5.out.setCell (p:=⟨X,0,none⟩) (.inr (Nat.le_of_eq hX)) _).setCell (p:=⟨X,1,none⟩) (.inr (Nat.le_of_eq hX)) _).setCell (p:=⟨X,2,none⟩) (.inr (Nat.le_of_eq hX)) _).setCell (p:=⟨X,3,none⟩) (.inr (Nat.le_of_eq hX)) _
 have kX:Keeps (· =X) w5 ((((w5.setCell ⟨X,0,none⟩ (.int .u64 t2)).setCell ⟨X,1,none⟩ (.slice A 1 c)).setCell ⟨X,2,none⟩ (.int .u64 0)).setCell ⟨X,3,none⟩ (.slice RA 1 cR)):=
  ((((Kz0 (· =X) w5).setCell (p:=⟨X,0,none⟩) (.inl rfl) _).setCell (p:=⟨X,1,none⟩) (.inl rfl) _).setCell (p:=⟨X,2,none⟩) (.inl rfl) _).setCell (p:=⟨X,3,none⟩) (.inl rfl) _
 have bX:=(((HX5.out.set 0 (.int .u64 t2)).set 1 (.slice A 1 c)).set 2 (.int .u64 0)).set 3 (.slice RA 1 cR)
 have r0:=bX.cell 0
 have r1:=bX.cell 1
 have r2:=bX.cell 2
 have r3:=bX.cell 3
 simp only [List.setIfInBounds_toArray,List.set_cons_zero,List.set_cons_succ,List.getElem?_toArray,List.getElem?_cons_zero,List.getElem?_cons_succ] at r0 r1 r2 r3
 have O9:=zz (O5.out.kept kX (fun b hb e=> O5.out.ne_blk HX5.out (by decide) hb e))
 have HA9:=zz (HR5.out.1.kept kX (fun b hb e=> by have:=(HR5.out.1.inB hb).1;omega))
 have HB9:=zz (fun i (hi:i<1)=> (HR5.out.2 i hi).2.2.2.2.kept kX (fun b hb e=> by have:=((HR5.out.2 i hi).2.2.2.2.inB hb).1;omega))
 have HS9:=zz kS
 clear kS kX bX x0 x1 x2 x3 y0 y1 y2 y3 O5 K5
 generalize (((w5.setCell _ _).setCell _ _).setCell _ _).setCell _ _=w9 at*
 try go_wp2_with fail
 refine hK.out _ _ (HC.out _ HS9.out) (fun hHeld=> ?_)
 clear hK K
 (try simp only [Zpt])
 refine wpAnyH_done (by kernel_rfl) ?_ _
 go_wp2_with fail
 refine bodyPost_ret (v:=smV t2 A 1 c 0 RA 1 cR) (by simp [results,Tryz.results68,go_sem,r0,r1,r2,r3]) rfl ?_
 refine⟨A,c,RA,cR,F,rfl,fun W kW=> ⟨rfl,(O9.out.kept kW (fun b hb e=> by have:=(O9.out.inB hb).1;omega)).rd (by omega),(HA9.out.kept kW (fun b hb e=> by have:=(HA9.out.inB hb).1;omega)).rd (by omega),fun j hj=> ?_,?_,by omega,by omega⟩,(HR5.out.2 0 (by omega)).2.1,HS9.out⟩
 ·obtain⟨h1,h2,h3,h4,h5⟩:=HR5.out.2 j hj
  rw [h2]
  refine⟨?_,Zm7 HFi.out.1 HFi.out.2 j hj,h3,h4⟩
  rw [h1]
  exact((HB9.out j hj).kept kW (fun b hb e=> by have:=((HB9.out j hj).inB hb).1;omega)).rd (by omega)
 ·intro x hx
  obtain rfl:=List.mem_singleton.1 hx
  exact⟨⟨v0,v1⟩,⟨by show(0:Int)≤0;omega,by show(0:Int)<18446744073709551616;omega⟩,hk⟩
open Go.RowKit Go.Maps Cfp
def GvF (mb:MB) (M:Nat) (w:World) (b:Nat):Prop:=MmS mb w b∨b=M
section
variable {w w' w0:World} {mb:MB} {M:Nat}
theorem GvF.trans (h:Keeps (GvF mb M w0) w0 w) (k:Keeps (GvF mb M w) w w'):Keeps (GvF mb M w0) w0 w':=by
 refine h.step k (fun b hb hS=> ?_)
 by_cases hn:GvF mb M w0 b
 ·exact hn
 ·rcases hS with h1 | h1
  ·exact .inl (PoS.same (h.block b hb hn) h1)
  ·exact .inr h1
theorem GvF.mm (h:Keeps (MmS mb w) w w'):Keeps (GvF mb M w) w w':=h.weak (fun _ _ h=> .inl h)
theorem GvF.one (h:Keeps (· =M) w w'):Keeps (GvF mb M w) w w':=h.weak (fun _ _ h=> .inr h)
theorem GvF.quiet (h:Keeps NO w w'):Keeps (GvF mb M w) w w':=h.weak (fun _ _ h=> h.elim)
theorem GvF.tr (h:Keeps (GvF mb M w) w w'):Keeps (TrF mb M w) w w':=h.weak (fun b _ h=> h.elim .inl (fun e=> .inr (Nat.le_of_eq e.symm)))
end
def Zw3 (w:World) (B:Nat) (mb:MB) (nk:Int) (sh:List (Int × Int)) (P:TP) (u:Option (ByteArray × Int)) (R:Cmp.Rows) (t1 t2:Int) (HL:List (ByteArray × Value)) (hs:List Value) (s:Ar) (m:Int) (i2 k:Nat) (e:Ending) (w':World):Prop:=
 e= .returned (.tuple #[])∧∃(E':List PE) (s':Ar),Tu w' P u R t1 t2 HL hs∧Mm w' B P.a P.p mb nk sh E' s' m∧(∀j q g,LV s j q g []→¬(j=i2∧q=k)→LV s' j q g [])∧Keeps (GvF mb P.M w) w w'
theorem Znj (w:World) (B:Nat) (mb:MB) (nk:Int) (sh:List (Int × Int)) (P:TP) (u:Option (ByteArray × Int)) (R:Cmp.Rows) (t1 t2:Int) (HL:List (ByteArray × Value)) (hs:List Value) (E:List PE) (s:Ar) (m:Int)
  (h:Tu w P u R t1 t2 HL hs) (hm:Mm w B P.a P.p mb nk sh E s m) (hne:P.M≠mb) (i:Nat) (key:ByteArray) (i2 k:Nat) (g:Int) (id:Nat) (hx:HL[i]?=some (key,hdV i2 k g id)) (hl:LV s i2 k g []) (x:PE) (ex:E[id]?=some x) (xu:0<x.users) (hm9:m<800000):
  Calls Tryz.prog 225 #[.pointer (some ⟨P.tr,0,none⟩),.string key] w (Zw3 w B mb nk sh P u R t1 t2 (HL.eraseIdx i) hs s m i2 k):=by
 have c23:w.cell? ⟨P.tr,23,none⟩=some (.map (some P.M)):=h.blk.cell 23
 have hlk:=h.mp.look_yes (string_keyed Tryz.underlying9) Tryz.underlying256 hx false
 simp only [if_neg Bool.false_ne_true] at hlk
 have H:=zz h
 have HM:=zz hm
 have HX:=zz hx
 have HL0:=zz hl
 have HE:=zz ex
 clear h hm hx hl ex
 go_enter Tryz.func225,Tryz.ntmps225
 go_upto_region 1 with fail
 have kX:=(Kz0 NO w).alloc (.cells #[.int .i64 (i2:Int),.int .i64 (k:Int),.int .i64 g,.int .i64 (id:Int)] 373)
 have HB:=zz (Blk.new w 373 #[.int .i64 (i2:Int),.int .i64 (k:Int),.int .i64 g,.int .i64 (id:Int)])
 have KX:=zz kX
 clear kX c23 hlk
 generalize w.alloc _=w1 at*
 generalize w.heap.size=X at*
 have K1:=zz (KX.out.drew)
 have HS1:=zz (show w1.drew.cell? ⟨P.tr,0,none⟩=some (.pointer (some ⟨P.a,0,none⟩))∧Blk w1.drew X 373 #[.int .i64 (i2:Int),.int .i64 (k:Int),.int .i64 g,.int .i64 (id:Int)] from⟨(H.out.quiet K1.out).blk.cell 0,HB.out.kept ((Kz0 NO w1).drew) (fun h=> h)⟩)
 refine wp_region_held_drew (S:=fun W=> W.cell? ⟨P.tr,0,none⟩=some (.pointer (some ⟨P.a,0,none⟩))∧Blk W X 373 #[.int .i64 (i2:Int),.int .i64 (k:Int),.int .i64 g,.int .i64 (id:Int)]) (by kernel_rfl) HS1.out (fun hHeld=> ?_)
 refine tkA 0 ?_
 refine tkA 1 ?_
 refine tkA 2 ?_
 refine tkA 3 ?_ (hy:=by intro w hSw; (try dsimp only at hSw); (have q1:=hSw.1);clear hSw;go_simp;try (with_reducible rfl))
 refine tkA 4 ?_
 refine tkA 5 ?_ (hy:=by intro w hSw; (try dsimp only at hSw); (have q1:=hSw.2.cell 0;have q2:=hSw.2.cell 1;have q3:=hSw.2.cell 2);clear hSw;go_simp;try (with_reducible rfl))
 generalize w1.drew=wd at*
 refine rd1 6 (fun K hK=> ?_)
 go_simp
 go_at_call 122
 refine(Zlb (HM.out.quiet K1.out) i2 k g HL0.out).mono ?_
 rintro e w2 ⟨rfl,s2,m2,lv2,_,k2⟩
 have HT2:=zz ((H.out.quiet K1.out).mm k2 hne)
 have HM2:=zz m2
 have HB2:=zz (HS1.out.2.mm k2 (by decide) (by decide) (by decide) (by decide) (by decide))
 have HLv:=zz lv2
 have HF2:=zz (GvF.trans (GvF.quiet K1.out) (GvF.mm (M:=P.M) k2))
 clear m2 lv2 k2 H HM HB HS1 K1 KX
 try go_wp2_with fail
 refine hK.out _ _ (⟨HT2.out.blk.cell 0,HB2.out⟩) (fun hHeld=> ?_)
 clear hK K
 (try simp only [Zpt])
 refine wpAnyH_done (by kernel_rfl) ?_ _
 go_upto_region 2 with fail
 have K3:=zz ((Kz0 NO w2).drew)
 have HS3:=zz (show w2.drew.cell? ⟨P.tr,1,none⟩=some (.pointer (some ⟨P.p,0,none⟩))∧Blk w2.drew X 373 #[.int .i64 (i2:Int),.int .i64 (k:Int),.int .i64 g,.int .i64 (id:Int)] from⟨(HT2.out.quiet K3.out).blk.cell 1,HB2.out.kept K3.out (fun h=> h)⟩)
 refine wp_region_held_drew (S:=fun W=> W.cell? ⟨P.tr,1,none⟩=some (.pointer (some ⟨P.p,0,none⟩))∧Blk W X 373 #[.int .i64 (i2:Int),.int .i64 (k:Int),.int .i64 g,.int .i64 (id:Int)]) (by kernel_rfl) HS3.out (fun hHeld=> ?_)
 refine tkA 0 ?_
 refine tkA 1 ?_
 refine tkA 2 ?_
 refine tkA 3 ?_ (hy:=by intro w hSw; (try dsimp only at hSw); (have q1:=hSw.1);clear hSw;go_simp;try (with_reducible rfl))
 refine tkA 4 ?_
 refine tkA 5 ?_ (hy:=by intro w hSw; (try dsimp only at hSw); (have q1:=hSw.2.cell 3);clear hSw;go_simp;try (with_reducible rfl))
 generalize w2.drew=we at*
 refine rd1 6 (fun K hK=> ?_)
 go_simp
 go_at_call 181
 refine(Zji (HM2.out.quiet K3.out) id x HE.out xu (by omega)).mono ?_
 rintro e w4 ⟨rfl,E4,s4,m4,lv4,k4⟩
 have HT4:=zz ((HT2.out.quiet K3.out).mm k4 hne)
 have HM4:=zz m4
 have HB4:=zz (HS3.out.2.mm k4 (by decide) (by decide) (by decide) (by decide) (by decide))
 have HLw:=zz lv4
 have HF4:=zz (GvF.trans HF2.out (GvF.trans (GvF.quiet K3.out) (GvF.mm (M:=P.M) k4)))
 clear m4 lv4 k4 HT2 HM2 HB2 HS3 K3 HF2
 try go_wp2_with fail
 refine hK.out _ _ (⟨HT4.out.blk.cell 1,HB4.out⟩) (fun hHeld=> ?_)
 clear hK K
 (try simp only [Zpt])
 refine wpAnyH_done (by kernel_rfl) ?_ _
 have c23:w4.cell? ⟨P.tr,23,none⟩=some (.map (some P.M)):=HT4.out.blk.cell 23
 obtain⟨w9,hd9,mp9,k9⟩:=HT4.out.mp.del_yes (string_keyed Tryz.underlying9) Tryz.underlying256 HX.out 0
 obtain⟨es0,cl0,hh,_⟩:=HT4.out.mp
 have HT9:=zz (HT4.out.mapped k9 mp9)
 have HM9:=zz (HM4.out.map (M:=P.M) hh hne k9)
 have HF9:=zz (GvF.trans HF4.out (GvF.one (mb:=mb) k9))
 clear hh mp9 k9
 go_wp2_with fail
 go_end0
 exact⟨rfl,E4,s4,HT9.out,HM9.out,fun j q g' h1 h2=> HLw.out _ _ _ ((HLv.out _ _ _ _).2 ⟨h1,h2⟩),HF9.out⟩
end Go.Proofs.YtjamiaamngalgaaGreat
