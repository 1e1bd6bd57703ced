/-
  Parts: tier.track of the first; tier.Add of the first ke; slices.Grow of no entrie; slices.Concat of one ent. No conditions beyond those of the statement.
-/
import Derived.Test.YtjamiaamngalgaaGreatG45
import Derived.Test.YtjamiaamngalgaaGreatG43
import Derived.Test.YtjamiaamngalgaaGreatG15
import Derived.Test.YtjamiaamngalgaaGreatG29
set_option linter.unusedVariables false
set_option linter.unusedSimpArgs false
set_option maxRecDepth 1000000
set_option maxHeartbeats 4000000
namespace Go.Proofs.YtjamiaamngalgaaGreat
open Go.RowKit Go.Maps Cfp
theorem Ztj (w:World):(zeroValue 373).run Tryz.prog w= .ok (.agg #[.int .i64 0,.int .i64 0,.int .i64 0,.int .i64 0]) w:=by
 have hi:(Tryz.prog.info? 373).map (fun i=> (i.zero,i.size,i.bytes))=some (some (.agg #[.int .i64 0,.int .i64 0,.int .i64 0,.int .i64 0]),4,32):=by kernel_rfl
 obtain⟨i,h1,h2,h3,h4⟩:=info_parts hi
 simp [zeroValue,typeInfo,h1,h2]
structure Room1 (sh:List (Int × Int)) (s:Ar) (key:ByteArray) (i2:Nat):Prop where
 ex:∃(z2 c2:Int) (i0:Nat) (z0 c0:Int),sh[i2]?=some (z2,c2)∧fitS sh 32=i2∧32≤z2∧(Za6 s).getD i2 0<c2∧
  sh[i0]?=some (z0,c0)∧fitS sh key.size=i0∧(key.size:Int)≤z0∧(Za6 s).getD i0 0<c0∧i0≠i2
theorem Tb1.fo {w:World} {B t b:Nat} {p:SvP} {tot:Int} (h:Tb1 w B t p none tot) (hb:SvF p b):Fo w b:=by
 have hr:=h.sv.rk rfl
 rcases hb with rfl | (rfl | rfl | rfl) | (rfl | rfl) | rfl
 ·exact⟨_,_,h.sv.blk,by decide,by decide,by decide,by decide,by decide,by decide⟩
 ·exact⟨_,_,hr.blk,by decide,by decide,by decide,by decide,by decide,by decide⟩
 ·obtain⟨cs,hc⟩:=hr.lb
  exact⟨_,_,hc,by decide,by decide,by decide,by decide,by decide,by decide⟩
 ·exact⟨_,_,hr.pl,by decide,by decide,by decide,by decide,by decide,by decide⟩
 ·exact⟨_,_,h.sv.ix.blk,by decide,by decide,by decide,by decide,by decide,by decide⟩
 ·exact⟨_,_,h.sv.ix.cs,by decide,by decide,by decide,by decide,by decide,by decide⟩
 ·exact⟨_,_,h.sv.en,by decide,by decide,by decide,by decide,by decide,by decide⟩
theorem Zk5 (w:World) (B:Nat) (mb:MB) (nk:Int) (sh:List (Int × Int)) (P:TP) (R:Cmp.Rows) (t2:Int) (hs:List Value) (E:List PE) (s:Ar) (m:Int) (key:ByteArray) (v:Int)
  (h:Tu w P none R 0 t2 [] hs) (hm:Mm w B P.a P.p mb nk sh E s m) (hne:P.M≠mb) (h1:1≤key.size) (h2:key.size≤255) (hke:(key.toList== [])=false) (hno:Zec E key.data.toList) (hn:(cntU E:Int)≠nk) (hm9:m<800000)
  (v0:0<v) (v1:v≤9223372036854775808) (i2:Nat) (hr:Room1 sh s key i2) (hB1:P.B1≤w.heap.size):
  Calls Tryz.prog 190 #[.pointer (some ⟨P.tr,0,none⟩),.string key,.int .u64 v] w (Zte w B mb nk sh P (some (key,v)) R v t2 [] hs s m key i2):=by
 obtain⟨z2,d2,i0,z0,d0,q1,q2,q3,q4,p1,p2,p3,p4,hi⟩:=hr.ex
 have HEn:=zz (Zqz w P.B1 P.t P.sv 0 h.tb)
 have HAd:=zz (fun W (kW:Keeps NO w W)=> Ztr W P.B1 P.t P.sv (h.tb.quiet kW) (Nat.le_trans hB1 kW.size) key (by omega) hke v v0 v1)
 have c0:w.cell? ⟨P.tr,19,none⟩=some (.pointer (some ⟨P.t,0,none⟩)):=h.blk.cell 19
 have hoM:=h.o1
 have HFo:=zz (fun W (kW:Keeps NO w W) (b:Nat) (hb:SvF P.sv b)=> Tb1.fo (h.tb.quiet kW) hb)
 have H:=zz h
 have HM:=zz hm
 have HTk:=zz (fun W (hW:Tu W P (some (key,v)) R v t2 [] hs) (mW:Mm W B P.a P.p mb nk sh E s m)=> Zni W B mb nk sh P (some (key,v)) R v t2 [] hs E s m key hW mW hne h1 h2 hno hn hm9 i2 z2 d2 q1 q2 q3 q4 i0 z0 d0 p1 p2 p3 p4 hi (by simp))
 clear h hm hno hn q1 q2 q3 q4 p1 p2 p3 p4 hi hr
 go_enter Tryz.func190,Tryz.ntmps190
 go_wp2_with fail
 refine HEn.out.mono ?_
 rintro e w1 ⟨rfl,k1⟩
 have K1:=zz k1
 have c1:=k1.cell_some c0 (fun h=> h)
 clear k1 HEn c0
 go_wp2_with fail
 refine(HAd.out w1 K1.out).mono ?_
 rintro e w2 ⟨rfl,tb2,k2⟩
 have HT2:=zz ((H.out.quiet K1.out).tabled k2 (fun b e=> ⟨e.1,e.2.1⟩) tb2)
 have HM2:=zz ((HM.out.quiet K1.out).kept k2 (fun b e=> HFo.out w1 K1.out b e.2.2))
 have HF2:=zz (TrF.trans (TrF.quiet K1.out) (TrF.own (mb:=mb) (M:=P.M) k2 (fun b e=> by omega)))
 have HGt:=zz (fun W (kW:Keeps NO w2 W)=> Zq0 W P.B1 P.t P.sv v key v (tb2.quiet kW) (by omega))
 clear tb2 k2 HAd HFo H HM K1 c1
 go_wp2_with fail
 go_loopw [34] (fun iv wr=> iv= .int .i64 0∧wr=w2) (fun _ _=> 0)
 case atStart=> exact⟨rfl,rfl⟩
 case round=>
  obtain⟨rfl,rfl⟩:=hrel
  have c2:wr.cell? ⟨P.tr,19,none⟩=some (.pointer (some ⟨P.t,0,none⟩)):=HT2.out.blk.cell 19
  go_wp2_with fail
  refine(HGt.out wr (Kz0 _ _)).mono ?_
  rintro e w3 ⟨rfl,k3⟩
  have K3:=zz k3
  clear k3 HGt c2
  go_upto_region 13 with fail
  have kA:=(Kz0 NO w3).alloc (.cells #[.string key,.int .u64 v,.int .u64 0] 263)
  have HT4:=zz ((HT2.out.quiet K3.out).quiet kA)
  have HM4:=zz ((HM2.out.quiet K3.out).quiet kA)
  have HF4:=zz (TrF.trans HF2.out (TrF.quiet (K3.out.trans kA)))
  clear kA HT2 HM2 HF2 K3
  generalize w3.alloc _=w4 at*
  have c23:w4.cell? ⟨P.tr,23,none⟩=some (.map (some P.M)):=HT4.out.blk.cell 23
  have hlk:=HT4.out.mp.look_no (string_keyed Tryz.underlying9) Tryz.underlying256 (Ztj w4) (keyS Tryz.underlying9 key (by omega)) (by simp) true
  simp only [if_pos] at hlk
  go_upto_region 14 with fail
  have kB:=(Kz0 NO w4).alloc (.cells #[.int .i64 0,.int .i64 0,.int .i64 0,.int .i64 0] 373)
  have HT5:=zz (HT4.out.quiet kB)
  have HM5:=zz (HM4.out.quiet kB)
  have HF5:=zz (TrF.trans HF4.out (TrF.quiet kB))
  clear kB HT4 HM4 HF4 c23 hlk
  generalize w4.alloc _=w5 at*
  go_wp2_with fail
  refine(HTk.out w5 HT5.out HM5.out).mono ?_
  rintro e w6 ⟨rfl,k,g,id,E',x,s',a1,a2,a3,a4,a5,a6,a7⟩
  have HX:=zz (And.intro a1 (And.intro a2 (And.intro a3 (And.intro a4 (And.intro a5 (And.intro a6 (TrF.trans HF5.out a7)))))))
  clear a1 a2 a3 a4 a5 a6 a7
  go_wp2_with fail
  go_ret
  obtain⟨a1,a2,a3,a4,a5,a6,a7⟩:=HX.out
  exact⟨rfl,k,g,id,E',x,s',a1,a2,a3,a4,a5,a6,a7⟩
open Go.RowKit Go.Maps Cfp
abbrev Zck (ts:List Int) (seed:Int) (key:ByteArray) (v:Int):Cmp.Rows:=Cmp.raise (Cmp.news 1 1) ts seed key.data.toList (Cmp.least (Cmp.news 1 1) ts seed key.data.toList 1+v) 1
theorem Zr0 (w:World) (B:Nat) (mb:MB) (nk:Int) (sh:List (Int × Int)) (P:TP) (hs:List Value) (E:List PE) (s:Ar) (m:Int) (key:ByteArray) (v:Int)
  (h:Tu w P none (Cmp.news 1 1) 0 0 [] hs) (hm:Mm w B P.a P.p mb nk sh E s m) (hne:P.M≠mb) (hex:P.c.exact_=0) (h1:1≤key.size) (h2:key.size≤255) (hke:(key.toList== [])=false) (hno:Zec E key.data.toList) (hn:(cntU E:Int)≠nk) (hm9:m<800000)
  (v0:0<v) (v1:v≤9223372036854775808) (i2:Nat) (hr:Room1 sh s key i2):
  Calls Tryz.prog 127 #[.pointer (some ⟨P.tr,0,none⟩),.string key,.int .u64 v] w (Zte w B mb nk sh P (some (key,v)) (Zck P.ts P.c.seed key v) v v [] hs s m key i2):=by
 have hlen:key.data.toList.length=key.size:=by rw [Array.length_toList];rfl
 have hne0:key.data.toList≠ []:=fun e=> by rw [e] at hlen;simp at hlen;omega
 have hae:Cmp.addE key.data.toList v 0=0:=by
  unfold Cmp.addE
  rw [if_neg hne0,if_neg (by omega),if_pos (by omega)]
 have c21:w.cell? ⟨P.tr,21,none⟩=some (.pointer (some ⟨P.gs,0,none⟩)):=h.blk.cell 21
 have c20:w.cell? ⟨P.tr,20,none⟩=some (.pointer (some ⟨P.ge,0,none⟩)):=h.blk.cell 20
 have e255:decide ((255:Int)<(key.size:Int))=false:=by simp;omega
 have ev0:(v==0)=false:=by simp;omega
 have HOp:=zz (Zex w P.tr P.M (h.blk.cell 23))
 have HTo:=zz (Zfo h.sk)
 have HFi:=zz (fun W=> Sat.fits_any 0 v (by omega) (by omega) (by omega) (by omega) W)
 rw [show Sat.fits 0 v=true from by unfold Sat.fits;simp;omega] at HFi
 have hAd:=Ziv h.sk h.sb key (by omega) v (by omega) (by omega)
 unfold Zdl at hAd
 rw [hae,if_pos rfl,if_pos rfl,Int.zero_add] at hAd
 have HAd:=zz hAd
 have hB1:P.B1≤w.heap.size:=by have:=h.ex.lt;have:=h.ord;have:=h.o2;omega
 have hoM:=h.o1
 have hoM2:=h.o2
 have hoM3:=h.o3
 have hoM4:=h.ord
 have hFo:∀b,SkF P.lo P.hi P.gs 1 P.bs b→Fo w b:=by
  rintro b ⟨_,rfl | ⟨i,hi,rfl⟩⟩
  ·obtain⟨cs,hc,_⟩:=h.sk.blk
   exact⟨_,_,hc,by decide,by decide,by decide,by decide,by decide,by decide⟩
  ·exact⟨_,_,h.sk.rows i hi,by decide,by decide,by decide,by decide,by decide,by decide⟩
 have HFo:=zz hFo
 have H:=zz h
 have HM:=zz hm
 have HTr:=zz (fun W (hW:Tu W P none (Zck P.ts P.c.seed key v) 0 v [] hs) (mW:Mm W B P.a P.p mb nk sh E s m) (hBW:P.B1≤W.heap.size)=> Zk5 W B mb nk sh P (Zck P.ts P.c.seed key v) v hs E s m key v hW mW hne h1 h2 hke hno hn hm9 v0 v1 i2 hr hBW)
 have HEx:=zz hex
 clear h hm hno hn hr hAd hFo hae hlen hne0 hex
 go_enter Tryz.func127,Tryz.ntmps127
 go_wp2_with fail
 refine HOp.out.mono ?_
 rintro e w1 ⟨rfl,rfl⟩
 go_wp2_with fail
 refine HTo.out.mono ?_
 rintro e w1 ⟨rfl,rfl⟩
 go_wp2_with fail
 refine(HFi.out _).mono ?_
 rintro e w1 ⟨rfl,rfl⟩
 go_wp2_with fail
 refine HAd.out.mono ?_
 rintro e w2 ⟨rfl,k2,sk2⟩
 have HT2:=zz (H.out.sketched k2 (fun b e=> e.1) sk2)
 have HM2:=zz (HM.out.kept k2 HFo.out)
 have HF2:=zz (TrF.own (mb:=mb) (M:=P.M) k2 (fun b e=> by have:=e.1;omega))
 have hB2:P.B1≤w2.heap.size:=Nat.le_trans hB1 k2.size
 clear HAd HFo H HM HOp HTo HFi c21 c20 k2 sk2
 have c20:w2.cell? ⟨P.tr,20,none⟩=some (.pointer (some ⟨P.ge,0,none⟩)):=HT2.out.blk.cell 20
 have HGe:=zz (Zp8 w2 0 P.ge 0 none 0 0 [] key HT2.out.ex (Rd.zero rfl) (List.Pairwise.nil) (by omega))
 go_wp2_with fail
 refine HGe.out.mono ?_
 rintro e w3 ⟨rfl,k3⟩
 have hfk:Zbt [] key=false:=rfl
 rw [hfk,Zlx hfk]
 have HT3:=zz (HT2.out.quiet k3)
 have HM3:=zz (HM2.out.quiet k3)
 have HF3:=zz (TrF.trans HF2.out (TrF.quiet k3))
 have hB3:P.B1≤w3.heap.size:=Nat.le_trans hB2 k3.size
 clear HGe k3 HT2 HM2 HF2 c20 hfk
 go_upto_region 15 with fail
 have kA:=(Kz0 NO w3).alloc (.cells #[.string en0.key,.int .u64 en0.lo,.int .u64 en0.hi] 263)
 have HT4:=zz (HT3.out.quiet kA)
 have HM4:=zz (HM3.out.quiet kA)
 have HF4:=zz (TrF.trans HF3.out (TrF.quiet kA))
 have hB4:=Nat.le_trans hB3 kA.size
 clear kA HT3 HM3 HF3
 generalize w3.alloc _=w4 at*
 go_wp2_with fail
 refine(HTr.out w4 HT4.out HM4.out hB4).mono ?_
 rintro e w5 ⟨rfl,k,g,id,E',x,s',t5,m5,a3,a4,a5,a6,f5⟩
 have HT5:=zz t5
 have HX:=zz (And.intro m5 (And.intro a3 (And.intro a4 (And.intro a5 (And.intro a6 (TrF.trans HF4.out f5))))))
 have HPr:=zz (Zqu w5 P.tr P.B1 P.t P.sv key v v t5.tb (by omega) (t5.blk.cell 19) (by rw [←HEx.out];exact t5.blk.cell 10))
 clear t5 m5 a3 a4 a5 a6 f5 HTr HT4 HM4 HF4
 go_wp2_with fail
 refine HPr.out.mono ?_
 rintro e w6 ⟨rfl,k6⟩
 have HT6:=zz (HT5.out.quiet k6)
 have HM6:=zz (HX.out.1.quiet k6)
 have HF6:=zz (TrF.trans HX.out.2.2.2.2.2 (TrF.quiet k6))
 clear k6 HPr
 go_wp2_with fail
 go_ret
 obtain⟨_,a3,a4,a5,a6,_⟩:=HX.out
 exact⟨rfl,k,g,id,E',x,s',HT6.out,HM6.out,a3,a4,a5,a6,HF6.out⟩
open Go.RowKit Go.Maps Go.ChangeShapes Go.WideShapes
theorem Zhi:ElemOf Tryz.prog 75 263 3 32:=ElemOf.mk' (z:= .agg #[.string ⟨#[]⟩,.int .u64 0,.int .u64 0]) Tryz.underlying75 (by kernel_rfl) rfl (by omega)
theorem Zot (w:World):Calls Tryz.prog 239 #[.slice none 0 0,.int .i64 1] w fun e w'=> ∃X c,e= .returned (.slice (some ⟨X,0,none⟩) 0 c)∧Own w' w.heap.size 263 3 (some ⟨X,0,none⟩) 0 c []∧Keeps NO w w':=by
 have hin:(Tryz.prog.info? 263).map (fun i=> (i.zero,i.size,i.bytes))=some (some (Value.agg #[.string ⟨#[]⟩,.int .u64 0,.int .u64 0]),3,32):=by kernel_rfl
 obtain⟨i,h1,h2,h3,h4⟩:=info_parts hin
 obtain⟨cp,hcp⟩:∃cp,cp=grownCap w 1 0 263:=⟨_,rfl⟩
 obtain⟨cs,hcs⟩:∃cs,cs=Builtin.zeroCells (Value.agg #[.string ⟨#[]⟩,.int .u64 0,.int .u64 0]).cells 1++Builtin.zeroCells (Value.agg #[.string ⟨#[]⟩,.int .u64 0,.int .u64 0]).cells (cp-1):=⟨_,rfl⟩
 have hge:1≤cp:=by rw [hcp];exact grownCap_ge w 1 0 _
 have hmx:cp≤maxLen:=by rw [hcp];exact grownCap_le_maxLen w 1 0 _ (by simp only [maxLen];omega)
 have happ:=fun ty=> Lib.run_append_nil_zeros (P:=Tryz.prog) w 75 3 ty 263 i _ .i64 .i64 Tryz.underlying75 Tryz.underlying3 h1 h2 1 (by omega) (by omega) (by omega) (by rw [h4];omega)
 rw [←hcp,←hcs] at happ
 have hsz:Hid (cs.size=cp*3):=zz (by
  rw [hcs,Array.size_append,size_zeroCells,size_zeroCells]
  show 1*3+(cp-1)*3=cp*3
  omega)
 have hsl:∀W,(Instr.sliceAt 75 (.slice (some ⟨w.heap.size,0,none⟩) 1 cp) none (some (.int .i64 0)) none).run Tryz.prog W= .ok (.slice (some ⟨w.heap.size,0,none⟩) 0 cp) W:=fun W=> by
  have:=Zkb Zhi w.heap.size 1 cp .i64 0 (by omega) (by omega) W
  exact this
 clear hcp hcs h1 h2 h3 h4 hin
 go_enter Tryz.func239,Tryz.ntmps239
 go_wp2_with (at_builtin;refine Lib.wpList_append_run w rfl (.tmp 20) (.tmp 21) _ _ rfl _ _ rfl rfl _ _ (happ _) ?_)
 go_ret
 refine⟨w.heap.size,cp,rfl,⟨rfl,.inr ⟨w.heap.size,cp,cs,rfl,Nat.le_refl _,?_,by omega,hmx,hsz.out,by simp⟩⟩,((Kz0 NO w).drew).alloc _⟩
 have:=heap_alloc_new w.drew (.cells cs 263)
 exact this
open Go.RowKit Go.Maps
theorem Zpc (w:World) (G:Nat) (A A2:Option Addr) (c c2 B:Nat) (xs:List Value) (hx1:∀u∈xs,u.oneCell'=true) (g0:w.cell? ⟨G,0,none⟩=some (.slice A 1 c)) (g1:w.cell? ⟨G,1,none⟩=some (.slice A2 0 c2)) (hr:Rd w B A 3 1 xs):
  Calls Tryz.prog 192 #[.slice (some ⟨G,0,none⟩) 2 2] w fun e w'=> ∃A' c',e= .returned (.slice A' 1 c')∧Own w' w.heap.size 263 3 A' 1 c' xs∧Keeps NO w w':=by
 have HR:=zz hr
 have HX1:=zz hx1
 clear hr hx1
 go_enter Tryz.func192,Tryz.ntmps192
 go_upto_region 3 with fail
 go_loopw [3,11] (fun v iv wr=> ((iv= .int .i64 0∧v= .int .i64 0)∨(iv= .int .i64 1∧v= .int .i64 1)∨(iv= .int .i64 2∧v= .int .i64 1))∧wr=w) (fun _ iv _=> 2-(intOf iv).toNat)
 case atStart=> exact⟨.inl ⟨rfl,rfl⟩,rfl⟩
 case round=>
  obtain⟨⟨rfl,rfl⟩ | ⟨rfl,rfl⟩ | ⟨rfl,rfl⟩,rfl⟩:=hrel
  ·go_wp2_with fail
   go_roundw
   case rel=> exact⟨.inr (.inl ⟨by go_num,by go_num⟩),trivial⟩
   case measure=> simp [intOf]
  ·go_wp2_with fail
   go_roundw
   case rel=> exact⟨.inr (.inr ⟨by go_num,by go_num⟩),trivial⟩
   case measure=> simp [intOf]
  ·go_wp2_with fail
   obtain⟨wo,rfl⟩:∃wo:World,wo=wr:=⟨_,rfl⟩
   refine(Zot wo).mono ?_
   rintro e w1 ⟨X,cX,rfl,o1,k1⟩
   have O1:=zz o1
   have K1:=zz k1
   have q0:=k1.cell_some g0 (fun h=> h)
   have q1:=k1.cell_some g1 (fun h=> h)
   have g1':=g1
   clear o1 k1 g0 g1
   go_upto_region 11 with fail
   go_loopw [6,27] (fun v iv wq=> (iv= .int .i64 0∧v= .slice (some ⟨X,0,none⟩) 0 cX∧wq=w1)∨(∃A' c',(iv= .int .i64 1∨iv= .int .i64 2)∧v= .slice A' 1 c'∧Hid (Own wq wo.heap.size 263 3 A' 1 c' xs)∧Hid (Keeps NO wo wq))) (fun _ iv _=> 2-(intOf iv).toNat)
   case atStart=> exact .inl ⟨rfl,rfl,rfl⟩
   case round=>
    rcases hrel with ⟨rfl,rfl,rfl⟩ | ⟨A',c',rfl | rfl,rfl,OA,Kq⟩
    ·have HRq:=zz (HR.out.kept K1.out (fun _ _ h=> h))
     have hsz:=K1.out.size
     go_wp2_with (at_builtin;refine Za5 _ Zhi rfl (.tmp 31) (.tmp 32) rfl wo.heap.size [] rfl O1.out _ (m:=1) xs rfl HRq.out HX1.out (by simp only [maxLen];omega) (by omega) (by omega) ?_;intro A6 c6 w6 o6 k6 hA6;have O6:=zz o6;have K6:=zz (K1.out.step k6 (fun b hb e=> by have:=O1.out.inB e;omega));clear o6 k6 hA6)
     go_roundw
     case rel=> exact .inr ⟨A6,c6,.inl (by go_num),rfl,O6,K6⟩
     case measure=> simp [intOf]
    ·have q1':=Kq.out.cell_some g1' (fun h=> h)
     have hsz:=Kq.out.size
     go_wp2_with (at_builtin;refine Za5 _ Zhi rfl (.tmp 31) (.tmp 32) rfl wo.heap.size xs rfl OA.out 0 (m:=0) [] rfl (Rd.zero rfl) (by simp) (by simp only [maxLen];omega) (by omega) (by omega) ?_;intro A6 c6 w6 o6 k6 hA6;rw [List.append_nil] at o6;have O6:=zz o6;have K6:=zz (Kq.out.step k6 (fun b hb e=> by have:=OA.out.inB e;omega));clear o6 k6 hA6)
     go_roundw
     case rel=> exact .inr ⟨A6,c6,.inr (by go_num),rfl,O6,K6⟩
     case measure=> simp [intOf]
    ·go_wp2_with fail
     go_ret
     exact⟨A',c',rfl,OA.out,Kq.out⟩
end Go.Proofs.YtjamiaamngalgaaGreat
