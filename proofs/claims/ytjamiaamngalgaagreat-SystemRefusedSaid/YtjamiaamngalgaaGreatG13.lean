/-
  Parts: pool.Intern; A queue of events: as a; queue.New, Len and Until; queue.Push. No conditions beyond those of the statement.
-/
import Derived.Test.YtjamiaamngalgaaGreatG00
import Derived.Test.YtjamiaamngalgaaGreatG12
import Derived.Lib.ConvBytes
import Derived.Deep.RegionHeld3
import Derived.Test.YtjamiaamngalgaaGreatG10
set_option linter.unusedVariables false
set_option linter.unusedSimpArgs false
set_option maxRecDepth 1000000
set_option maxHeartbeats 4000000
namespace Go.Proofs.YtjamiaamngalgaaGreat
open Go.RowKit Cfp
open Go.Maps (string_keyed)
open Go.WideMaps
theorem Zhb (w:World) (e:TypeId) (s:ByteArray):Keeps NO w (Lib.bytesWorld w e s):=
 ⟨rfl,rfl,rfl,by rw [Lib.bytesWorld_size];omega,fun k hk _=> Lib.bytesWorld_at_old w e s k hk⟩
theorem Znx (w:World) (t:ByteArray):Rd (Lib.bytesWorld w 5 t) (Lib.bytesWorld w 5 t).heap.size (some ⟨w.heap.size,0,none⟩) 1 t.size (t.data.toList.map by8):=by
 have hl:t.data.toList.length=t.size:=by rw [Array.length_toList];rfl
 refine⟨by rw [List.length_map,hl,Nat.mul_one],fun hn=> ⟨w.heap.size,0,rfl,by rw [Lib.bytesWorld_size];omega,fun j u hu=> ?_⟩⟩
 rw [List.getElem?_map] at hu
 rcases hx:t.data.toList[j]? with _ | b
 ·rw [hx] at hu;cases hu
 ·rw [hx] at hu
  have hj:=(List.getElem?_eq_some_iff.1 hx).1
  rw [Nat.zero_add,Lib.bytesWorld_cell _ _ _ _ (by omega)]
  rw [←hu]
  have:t.data.toList.getD j 0=b:=by rw [List.getD,hx];rfl
  rw [this]
  rfl
theorem Zkj {s s1:Ar} (h:Zak s1=Zak s) {i:Nat} {c c1:Cls} (hc:s.cls[i]?=some c) (hc1:s1.cls[i]?=some c1):c1.size=c.size:=by
 have e1:(Zak s)[i]?=some (c.size,c.count):=by simp [Zak,hc]
 have e2:(Zak s1)[i]?=some (c1.size,c1.count):=by simp [Zak,hc1]
 rw [h,e1] at e2
 injection e2 with e2
 injection e2 with e2
 exact e2.symm
theorem Zvr (id:Nat) (h:id<4611686018427387904):(Lit.int .i64 (id:Int)).wf=true:=by
 have h1:IntKind.min .i64= -9223372036854775808:=by decide
 have h2:IntKind.max .i64=9223372036854775807:=by decide
 simp only [Lit.wf,h1,h2,Bool.and_eq_true,decide_eq_true_eq]
 omega
theorem Zdi {P:Program} {ops:Array Oper} {o:Oper} {a:Act} {w:World} {K:Act→World→Prop} {Q:Exit→Act→World→Prop} {F:Prop} {R:Value→Option (KD × List MemPlace)} {D:KD}
  (hg:o.guard=none) (m:Operand) (t:TypeId) (hop:o.op=Op.call { callee:=Callee.builtin Builtin.len,args:= #[m],argTypes:= #[t]})
  (k e:TypeId) (ht:P.underlying t=some (.map k e)) (b n:Nat) (hm:a.eval m= .map (some b)) (hown:w.ownsMap P k R b n D)
  (hK:K (a.put o.dst (.int .i64 (Maps.size D))) w):if Region.wanted o (yielded ops a.tmps)=true then Oper.wp P o a w K Q else F:=by
 have hw:Region.wanted o (yielded ops a.tmps)=true:=by simp [Region.wanted,hg]
 rw [if_pos hw]
 unfold Oper.wp
 simp [execOp,hop,resolve,invoke,builtin,hm,hown.len ht o.type,Result.andThen]
 exact hK
def Zix (s:Ar) (size c:Int):Prop:=(c=1∧(size<1∨∀(i:Nat) (c:Cls),s.cls[i]?=some c→c.size<size))∨(c=7∧∃(i:Nat) (c:Cls),s.cls[i]?=some c∧fitK s.cls size=i∧c.live=c.count)
inductive Interns (w:World) (B p a mb cap:Nat) (n:Int) (E:List PE) (EA:Option Addr) (D:KD) (s:Ar) (L:Nat→List Nat) (M M2:Int) (key:List UInt8) (e:Ending) (w':World):Prop
 | no (c:Int) (he:e= .returned (.tuple #[.int .i64 0,.int .i64 c])) (hc:(key= []∧c=3)∨(255<key.length∧c=4)∨(1≤key.length∧key.length≤255∧Zec E key∧(cntU E:Int)=n∧c=7)∨(1≤key.length∧key.length≤255∧Zec E key∧(cntU E:Int)≠n∧Zix s key.length c))
   (h:IsPo w' B p a n E EA cap mb D) (hA:IsAr w' B a s) (k:Keeps NO w w')
 | old (id:Nat) (x:PE) (he:e= .returned (.tuple #[.int .i64 id,.int .i64 0])) (hx:E[id]?=some x) (hu:0<x.users) (hk:x.key=key) (h:IsPo w' B p a n (E.set id { x with users:=x.users+1}) EA cap mb D) (hA:IsAr w' B a s)
   (v:PInv (E.set id { x with users:=x.users+1}) s D (M+1)) (k:Keeps (PoS B mb w) w w')
 | new (id:Nat) (x:PE) (E1:List PE) (EA1:Option Addr) (cap1 i k:Nat) (age:Int) (s1 s2:Ar) (L2:Nat→List Nat) (he:e= .returned (.tuple #[.int .i64 id,.int .i64 0])) (hk1:1≤key.length) (hk2:key.length≤255) (hno:Zec E key) (hn:(cntU E:Int)≠n) (hE1:E1=E∨E1=E++ [PE.zero])
   (hx:E1[id]?=some x) (hu:x.users=0) (h1:1≤id) (hleast:∀(j:Nat) (y:PE),1≤j→j<id→E[j]?=some y→y.users≠0)
   (h:IsPo w' B p a n (E1.set id ⟨(i,k,age),key,1⟩) EA1 cap1 mb (D.put (.string key) (kval id))) (hA:IsAr w' B a s2) (hV:Inv s2 L2 (M2+1)) (g:Got s s1 i k age key.length) (wr:Wrote s1 s2 i k age key) (hage:1≤age∧age≤M2+1) (hfit:fitK s.cls key.length=i)
   (v:PInv (E1.set id ⟨(i,k,age),key,1⟩) s2 (D.put (.string key) (kval id)) (M+1)) (k:Keeps (PoS B mb w) w w')
theorem Zel (w:World) (B p a mb cap:Nat) (n:Int) (E:List PE) (EA:Option Addr) (D:KD) (s:Ar) (L:Nat→List Nat) (M M2:Int) (t:ByteArray)
  (h:IsPo w B p a n E EA cap mb D) (hA:IsAr w B a s) (hV:Inv s L M2) (v:PInv E s D M) (hM:M≤900000) (hM2:0≤M2∧M2<1000000000) (ht:t.size≤140737488351232) (hB:B≤w.heap.size):
  Calls Tryz.prog 121 #[.pointer (some ⟨p,0,none⟩),.string t] w (Interns w B p a mb cap n E EA D s L M M2 t.data.toList):=by
 have hlen:t.data.toList.length=t.size:=by rw [Array.length_toList];rfl
 obtain⟨⟨p0,p1,p2,p3⟩,hpw⟩:=h.cells
 have H:=zz h
 have HA:=zz hA
 have HP:=zz v
 by_cases h0:t.size=0
 ·have HK:Hid (t.data.toList= []):=zz (List.eq_nil_of_length_eq_zero (by omega))
  have hne:t.toList.isEmpty=true:=by rw [ByteArray.toList_eq,HK.out];rfl
  clear h hA hV v h0 ht
  go_enter Tryz.func121,Tryz.ntmps121
  go_wp2_with fail
  go_ret2
  exact .no 3 rfl (.inl ⟨HK.out,rfl⟩) H.out HA.out (Kz0 _ _)
 have hne:t.toList.isEmpty=false:=by
  rw [ByteArray.toList_eq]
  rcases hx:t.data.toList with _ | _
  ·rw [hx] at hlen;simp at hlen;omega
  ·rfl
 by_cases h255:255<t.size
 ·have e1:decide ((255:Int)<(t.size:Int))=true:=by simp;omega
  have HL:=zz (show 255<t.data.toList.length by omega)
  clear h hA hV v h0 hlen
  go_enter Tryz.func121,Tryz.ntmps121
  go_wp2_with fail
  go_ret2
  exact .no 4 rfl (.inr (.inl ⟨HL.out,rfl⟩)) H.out HA.out (Kz0 _ _)
 have e1:decide ((255:Int)<(t.size:Int))=false:=by simp;omega
 have hEl:E.length≤1000000:=by have:=v.len;omega
 obtain⟨l1,l2⟩:=look_ok h.map v.says t (by simp only [maxLen];omega)
 rcases Zuk E t.data.toList with hno | ⟨id,x,hx,hu,hk⟩
 ·have hl:=l2 hno
  have HNo:=zz hno
  obtain⟨cn,hcn⟩:∃cn,cn=cntU E:=⟨_,rfl⟩
  have HSz:=zz (v.says.sz.trans hcn.symm)
  have HCn:=zz hcn
  have HV:=zz hV
  have hE0:0<E.length:=by obtain⟨y,h2,_⟩:=v.zero;exact(List.getElem?_eq_some_iff.1 h2).1
  obtain⟨N,hN⟩:∃N,N=E.length:=⟨_,rfl⟩
  rw [←hN] at p2 hEl hE0
  have HN:=zz hN
  have ht1:1≤t.size:=by omega
  have HLen:=zz hlen
  clear l1 l2 h hA hV v hno hcn hN hlen
  have HS0:Hid (Keeps NO w w.drew∧w.drew.cell? ⟨p,1,none⟩=some (.int .i64 n)∧w.drew.cell? ⟨p,3,none⟩=some (.map (some mb))):=zz ⟨(Kz0 _ _).drew,p1,p3⟩
  have HMd:Hid (w.drew.ownsMap Tryz.prog 9 (plainElem Tryz.prog 3) mb (Maps.size D) D):=zz (by have:=H.out.map;exact this)
  by_cases hfull:(cn:Int)=n
  ·have hfb:((cn:Int)==n)=true:=by simpa using hfull
   have HF:=zz hfull
   clear hfull
   go_enter Tryz.func121,Tryz.ntmps121
   go_upto_region 11 with fail
   refine wp_region_held_drew (S:=fun w'=> Keeps NO w w'∧w'.cell? ⟨p,1,none⟩=some (.int .i64 n)∧w'.cell? ⟨p,3,none⟩=some (.map (some mb))) (by kernel_rfl) HS0.out (fun hHeld=> ?_)
   refine tkH 0 ?_
   refine tkH 1 ?_
   refine tkH 2 ?_
   refine tkH 3 ?_
   refine tkH 5 ?_
   refine tkH 6 ?_
   refine tkH 7 ?_
   refine tkH 8 ?_
   refine rd1 4 (fun K hK=> ?_)
   refine Zdi (P:=Tryz.prog) (R:=plainElem Tryz.prog 3) (D:=D) rfl (.tmp 47) 149 rfl 9 3 ?ht mb (Maps.size D) ?hm ?hown ?_
   case ht=> exact Tryz.underlying149
   case hm=> simp [Act.eval,Act.put]
   case hown=> exact HMd.out
   rw [HSz.out]
   refine hK.out _ _ HS0.out (fun _=> ?_)
   clear hK K
   (try simp only [Zpt])
   refine tkH 9 ?_
   refine wpAnyH_done (by kernel_rfl) ?_ _
   (try simp only [Zpt])
   go_wp2_with fail
   go_ret2
   exact .no 7 rfl (.inr (.inr (.inl ⟨by have:=HLen.out;omega,by have:=HLen.out;omega,HNo.out,by rw [←HCn.out];exact HF.out,rfl⟩))) (H.out.quiet HS0.out.1) (HA.out.quiet HS0.out.1) HS0.out.1
  ·have hfb:((cn:Int)==n)=false:=by simpa using hfull
   have HF:=zz hfull
   clear hfull
   go_enter Tryz.func121,Tryz.ntmps121
   go_upto_region 11 with fail
   refine wp_region_held_drew (S:=fun w'=> Keeps NO w w'∧w'.cell? ⟨p,1,none⟩=some (.int .i64 n)∧w'.cell? ⟨p,3,none⟩=some (.map (some mb))) (by kernel_rfl) HS0.out (fun hHeld=> ?_)
   refine tkH 0 ?_
   refine tkH 1 ?_
   refine tkH 2 ?_
   refine tkH 3 ?_
   refine tkH 5 ?_
   refine tkH 6 ?_
   refine tkH 7 ?_
   refine tkH 8 ?_
   refine rd1 4 (fun K hK=> ?_)
   refine Zdi (P:=Tryz.prog) (R:=plainElem Tryz.prog 3) (D:=D) rfl (.tmp 47) 149 rfl 9 3 ?ht mb (Maps.size D) ?hm ?hown ?_
   case ht=> exact Tryz.underlying149
   case hm=> simp [Act.eval,Act.put]
   case hown=> exact HMd.out
   rw [HSz.out]
   refine hK.out _ _ HS0.out (fun _=> ?_)
   clear hK K
   (try simp only [Zpt])
   refine tkH 9 ?_
   refine wpAnyH_done (by kernel_rfl) ?_ _
   (try simp only [Zpt])
   go_upto_region 13 with fail
   generalize hwq:w.drew=w1 at*
   have K1:Hid (Keeps NO w w1):=zz HS0.out.1
   clear HS0
   have hB1:B≤w1.heap.size:=Nat.le_trans hB K1.out.size
   have H1:=zz (H.out.quiet K1.out)
   have HA1:=zz (HA.out.quiet K1.out)
   clear hwq p0 p1 p2 p3 hl
   obtain⟨⟨p0,p1,p2,p3⟩,hpw1⟩:=H1.out.cells
   go_wp2_with fail
   refine(Zd2 B a s L M2 _ w1 HA1.out HV.out hM2 hB1).mono ?_
   rintro e w3 hal
   rcases hal with ⟨rfl,h3,k3,hr⟩ | ⟨rfl,h3,k3,hr⟩ | ⟨i,k,age,s1,L1,rfl,h3,v3,g3,hage,k3,hfit⟩
   ·have kb:=(Kz0 NO w3).alloc (.cells #[.int .i64 0,.int .i64 0,.int .i64 0] 236)
    have H3:=zz ((H1.out.quiet k3).quiet kb)
    have HA3:=zz (h3.quiet kb)
    have K3:=zz ((K1.out.trans k3).trans kb)
    have HR:=zz hr
    clear h3 k3 kb hr H1 HA1 p0 p1 p2 p3
    go_wp2_with fail
    go_ret2
    exact .no 1 rfl (.inr (.inr (.inr ⟨by have:=HLen.out;omega,by have:=HLen.out;omega,HNo.out,by rw [←HCn.out];exact HF.out,by have:=HR.out;rw [←HLen.out] at this;exact .inl ⟨rfl,this⟩⟩))) H3.out HA3.out K3.out
   ·have kb:=(Kz0 NO w3).alloc (.cells #[.int .i64 0,.int .i64 0,.int .i64 0] 236)
    have H3:=zz ((H1.out.quiet k3).quiet kb)
    have HA3:=zz (h3.quiet kb)
    have K3:=zz ((K1.out.trans k3).trans kb)
    have HR:=zz hr
    clear h3 k3 kb hr H1 HA1 p0 p1 p2 p3
    go_wp2_with fail
    go_ret2
    exact .no 7 rfl (.inr (.inr (.inr ⟨by have:=HLen.out;omega,by have:=HLen.out;omega,HNo.out,by rw [←HCn.out];exact HF.out,by have:=HR.out;rw [←HLen.out] at this;exact .inr ⟨rfl,this⟩⟩))) H3.out HA3.out K3.out
   ·obtain⟨c,hc,hcs,hcl⟩:=g3.fit
    have HX4:=zz (Blk.new w3 236 #[.int .i64 i,.int .i64 k,.int .i64 age])
    have kb:=(Kz0 NO w3).alloc (.cells #[.int .i64 i,.int .i64 k,.int .i64 age] 236)
    have H4:=zz ((H1.out.ar k3).quiet kb)
    have HA4:=zz (h3.quiet kb)
    have HV4:=zz v3
    have HG:=zz g3
    have K4:=zz ((PoS.quiet K1.out (PoS.ar (mb:=mb) k3)).step0 kb)
    have hB4:=Nat.le_trans hB1 (Nat.le_trans k3.size kb.size)
    have HFit:Hid (fitK s.cls t.data.toList.length=i):=zz (by rw [HLen.out];exact hfit)
    have hlv:LV s1 i k age []:=(g3.lvs i k age []).2 (.inl ⟨rfl,rfl,rfl,rfl⟩)
    obtain⟨c1,hc1⟩:∃c1,s1.cls[i]?=some c1:=by obtain⟨c1,x1,h1,_⟩:=hlv;exact⟨c1,h1⟩
    have hsz:(t.size:Int)≤c1.size:=by rw [Zkj g3.shape hc hc1];exact hcs
    have HLv:=zz hlv
    have HC1:=zz hc1
    have hcv:=fun W=> Lib.run_convert_string_bytes (P:=Tryz.prog) W 9 57 5 t Tryz.underlying9 Tryz.underlying57 Tryz.underlying5
    clear h3 k3 kb hfit H1 HA1 p0 p1 p2 p3 g3 v3 hlv hc1 hc hcs hcl
    go_upto_region 14 with fail
    generalize w3.alloc _=w4 at*
    generalize w3.heap.size=X at*
    go_upto_region 16 with fail
    obtain⟨⟨p0,p1,p2,p3⟩,hpw4⟩:=H4.out.cells
    obtain⟨⟨x0,x1,x2⟩,_,hX4⟩:=HX4.out.three
    have HSg:Hid (∀W,Keeps (ArS B w4) w4 W→(Keeps (ArS B w4) w4 W∧W.cell? ⟨p,0,none⟩=some (.pointer (some ⟨a,0,none⟩))∧W.cell? ⟨X,0,none⟩=some (.int .i64 i)∧W.cell? ⟨X,1,none⟩=some (.int .i64 k)∧W.cell? ⟨X,2,none⟩=some (.int .i64 age))):=zz (fun W kW=> by
     have n1:=ArS.not (B:=B) H4.out.blk (by decide) (by decide) (by decide)
     have n2:=ArS.not (B:=B) HX4.out (by decide) (by decide) (by decide)
     exact⟨kW,kW.cell_some p0 n1,kW.cell_some x0 n2,kW.cell_some x1 n2,kW.cell_some x2 n2⟩)
    refine wp_region_held_drew (S:=fun W=> Keeps (ArS B w4) w4 W∧W.cell? ⟨p,0,none⟩=some (.pointer (some ⟨a,0,none⟩))∧W.cell? ⟨X,0,none⟩=some (.int .i64 i)∧W.cell? ⟨X,1,none⟩=some (.int .i64 k)∧W.cell? ⟨X,2,none⟩=some (.int .i64 age)) (by kernel_rfl) (HSg.out _ ((Kz0 _ _).drew)) (fun hHeld=> ?_)
    refine tkH 0 ?_
    refine tkH 1 ?_
    refine tkH 2 ?_
    refine tkH 3 ?_
    refine tkH 4 ?_
    refine tkH 5 ?_
    refine rd1 6 (fun K hK=> ?_)
    go_simp
    have k5:Keeps NO w4 (Lib.bytesWorld w4.drew 5 t):=((Kz0 _ w4).drew).trans (Zhb _ _ _)
    have RB:=zz (show Rd (Lib.bytesWorld w4.drew 5 t) (Lib.bytesWorld w4.drew 5 t).heap.size (some ⟨w4.heap.size,0,none⟩) 1 t.size (t.data.toList.map by8) from Znx w4.drew t)
    refine hK.out _ _ (HSg.out _ (k5.weak (fun _ _ h=> h.elim))) (fun _=> ?_)
    clear hK K
    generalize Lib.bytesWorld _ _ _=w5 at*
    (try simp only [Zpt])
    refine rd1 7 (fun K hK=> ?_)
    go_simp
    go_at_call 174
    refine(Zk0 B a s1 L1 (M2+1) i k age [] c1 _ t.size _ _ t.data.toList w5 (HA4.out.quiet k5) HV4.out HLv.out HC1.out hsz RB.out (Nat.le_refl _) (Nat.le_trans hB4 k5.size)).mono ?_
    rintro e w6 ⟨rfl,⟨s2,L2,h6,v6,wr6⟩,k6⟩
    have k46:=ArS.quiet k5 k6
    try go_wp2_with fail
    refine hK.out _ _ (HSg.out _ k46) (fun _=> ?_)
    clear hK K
    (try simp only [Zpt])
    refine tkH 8 ?_
    refine wpAnyH_done (by kernel_rfl) ?_ _
    (try simp only [Zpt])
    have H6:=zz (H4.out.ar k46)
    have HA6:=zz h6
    have HV6:=zz v6
    have HW6:=zz wr6
    have HX6:=zz (HX4.out.kept k46 (ArS.not HX4.out (by decide) (by decide) (by decide)))
    have K6:=zz (PoS.trans K4.out (PoS.ar (mb:=mb) k46))
    have hB6:B≤w6.heap.size:=Nat.le_trans hB4 k46.size
    clear hHeld HSg H4 HA4 HX4 RB k5 k6 k46 h6 v6 wr6 p0 p1 p2 p3 x0 x1 x2 hX4 HLv HC1 hsz hcv
    go_upto_region 19 with fail
    go_wp2_with fail
    refine(Zo1 w6 B p a n E EA cap mb D H6.out (by rw [←HN.out];exact hE0) (by rw [←HN.out];exact hEl) hB6).mono ?_
    rintro e w7 ⟨E1,EA1,cap1,id,x,rfl,h7,hE1,hx,hu,hid1,hleast,k7⟩
    have HA7:=zz (HA6.out.kept k7 (fun b hb=> PoO.other hb))
    have HX7:=zz (HX6.out.kept k7 (PoO.not HX6.out (by decide) (by decide)))
    have K7:=zz (PoS.trans K6.out (PoS.po (mb:=mb) k7))
    have H7:=zz h7
    have HE1:=zz hE1
    have HXx:=zz hx
    have HLe:=zz hleast
    have hidl:id<E1.length:=(List.getElem?_eq_some_iff.1 hx).1
    have hE1l:E1.length≤N+1:=by rw [HN.out];rcases hE1 with rfl | rfl <;> simp
    obtain⟨g,rfl,hg1,hg2⟩:=h7.own.some_ (by omega)
    obtain⟨N1,hN1⟩:∃N1,N1=E1.length:=⟨_,rfl⟩
    have HN1:=zz hN1
    obtain⟨⟨p0,p1,p2,p3⟩,hpw7⟩:=h7.cells
    rw [←hN1] at p2 hidl hE1l
    have hw4:∀q,w7.frozen? ⟨g,q,none⟩=false:=fun q=> h7.own.frozen q
    have v0:=h7.own.cell (id*4) (by omega)
    rw [(Zbq hx).1] at v0
    have v1:=h7.own.cell (id*4+1) (by omega)
    rw [(Zbq hx).2.1] at v1
    have v2:=h7.own.cell (id*4+2) (by omega)
    rw [(Zbq hx).2.2.1] at v2
    have v3:=h7.own.cell (id*4+3) (by omega)
    rw [(Zbq hx).2.2.2] at v3
    have f0:=hw4 (id*4)
    have f1:=hw4 (id*4+1)
    have f2:=hw4 (id*4+2)
    have f3:=hw4 (id*4+3)
    have hiI:(id:Int)<(N1:Int):=by omega
    have hi00:(0:Int)≤(id:Int):=by omega
    obtain⟨⟨x0,x1,x2⟩,_,hX7⟩:=HX7.out.three
    clear h7 hE1 hx hleast k7 hN1 H6 HA6 HX6 K6 hw4
    go_upto_region 20 with fail
    go_region
    obtain⟨he8,ke8⟩:=H7.out.entry HXx.out ⟨(i,k,age),t.data.toList,1⟩
    dsimp only at he8 ke8
    have H8:=zz (he8.quiet ((Kz0 NO _).drew))
    have HA8:=zz ((HA7.out.kept ke8 (fun b hb=> by subst hb;exact H7.out.other ⟨_,rfl,rfl⟩)).quiet ((Kz0 NO _).drew))
    have K8:=zz (PoS.trans K7.out (Keeps.drew (ke8.weak (S':=PoS B mb w7) (fun b _ hb=> by subst hb;exact H7.out.inE ⟨_,rfl,rfl⟩))))
    clear he8 ke8 H7 HA7 K7 p0 p1 p2 p3 v0 v1 v2 v3 f0 f1 f2 f3 x0 x1 x2 hX7 HX7 hpw7
    generalize World.drew _=w8 at*
    have hu0:x.users=0:=hu
    have HP1:Hid (PInv E1 s D (M+1)):=zz (by rcases HE1.out with e | e <;> rw [e];exact HP.out.more (by omega);exact HP.out.grow)
    have HNo1:Hid (Zec E1 t.data.toList):=zz (by
     rcases HE1.out with e | e
     ·rw [e];exact HNo.out
     ·rw [e]
      intro j y hy hyu
      rw [List.getElem?_append] at hy
      split at hy
      ·exact HNo.out j y hy hyu
      ·have:=List.mem_of_getElem? hy
       simp at this
       subst this
       simp [PE.zero] at hyu)
    have hM1:1≤M+1:=by have:=HP.out.len;have:=HN.out;omega
    have HP2:=zz (HP1.out.put hM1 HXx.out hu0 hid1 (key:=t.data.toList) (by have:=HLen.out;omega) (by have:=HLen.out;omega) HG.out HW6.out HNo1.out)
    have hszD:Maps.size D<maxLen:=by rw [HSz.out,HCn.out];have:=Zmk E;have:=HN.out;simp only [maxLen];omega
    have hwf:=Zvr id (by omega)
    have hkey:=Zll (s:=t) (by simp only [maxLen];omega)
    obtain⟨⟨p0,p1,p2,p3⟩,hpw8⟩:=H8.out.cells
    go_wp2_with (at_mapUpdate;refine wpList_mapUpdate_own _ rfl _ _ _ 149 rfl 9 3 (string_keyed Tryz.underlying9) Tryz.underlying149 (plainElem Tryz.prog 3) mb (Maps.size D) D rfl H8.out.map hszD _ _ (.string t.data.toList) rfl rfl hkey (kval id) [] (plainElem_int Tryz.underlying3 hwf) ?_;intro w9 hown9 hgrow9;have k9:=Zia hgrow9;have H9:=zz (H8.out.mapped k9 (Zg3 hown9));have HA9:=zz (HA8.out.mapped H8.out k9);have K9:=zz (PoS.trans K8.out (k9.weak (S':=PoS B mb w8) (fun b _ hb=> by subst hb;exact H8.out.inM)));clear hown9 hgrow9 k9)
    go_ret2
    exact .new id x E1 _ cap1 i k age s1 s2 L2 rfl (by have:=HLen.out;omega) (by have:=HLen.out;omega) HNo.out (by rw [←HCn.out];exact HF.out) HE1.out HXx.out hu0 hid1 HLe.out H9.out HA9.out HV6.out (by rw [HLen.out];exact HG.out) HW6.out hage HFit.out HP2.out K9.out
 ·have hl:=l1 id x hx hu hk
  have hid:id<E.length:=(List.getElem?_eq_some_iff.1 hx).1
  obtain⟨g,rfl,_⟩:=h.own.some_ (by omega)
  obtain⟨_,_,_,g3⟩:=Zbq hx
  have q3:=h.own.cell (id*4+3) (by omega)
  have f3:=h.own.frozen (id*4+3)
  rw [g3] at q3
  have hus:=(v.us id x hx).2
  have hgw:g<w.heap.size:=by
   have hi:inB (some ⟨g,0,none⟩:Option Addr) g:=⟨_,rfl,rfl⟩
   exact(h.own.inB hi).2
  obtain⟨N,hN⟩:∃N,N=E.length:=⟨_,rfl⟩
  rw [←hN] at p2 hid hEl
  have hiI:(id:Int)<(N:Int):=by omega
  have hi00:(0:Int)≤(id:Int):=by omega
  have ws:IntKind.i64.wrap (x.users+1)=x.users+1:=IntWalk.i64_in _ (by omega)
  have HX:=zz hx
  have HK:=zz hk
  have kS:=Zaf w g (id*4+3) (.int .i64 (x.users+1))
  have H2:=zz (H.out.users hx (x.users+1))
  have HA2:=zz (hA.kept kS (fun b hb=> by subst hb;exact H.out.other ⟨_,rfl,rfl⟩))
  have K2:=zz (kS.weak (S':=PoS B mb w) (fun b _ hb=> by subst hb;exact H.out.inE ⟨_,rfl,rfl⟩))
  clear l1 l2 h hA hV v hx hk hN g3 kS hlen
  go_enter Tryz.func121,Tryz.ntmps121
  go_wp2_with fail
  go_ret2
  exact .old id x rfl HX.out hu HK.out H2.out HA2.out (HP.out.users HX.out hu (x.users+1) (by omega) (by omega) (by omega)) K2.out
open Go.RowKit Cfp
section flat
variable {α:Type} (f:α→List Value) (m:Nat) (hf:∀x,(f x).length=m) (hm:0<m)
include hf hm
theorem Zfd:∀(l:List α) (q:Nat),(l.flatMap f)[q]?=(l[q / m]?).bind (fun x=> (f x)[q % m]?)
 | [],q=> by simp
 | x :: l,q=> by
   rw [List.flatMap_cons]
   by_cases h:q<m
   ·rw [List.getElem?_append_left (by rw [hf];exact h),Nat.div_eq_of_lt h,Nat.mod_eq_of_lt h]
    simp
   ·rw [List.getElem?_append_right (by rw [hf];omega),hf,Zfd l (q-m),Nat.mod_eq_sub_mod (by omega:q ≥ m),Nat.div_eq_sub_div hm (by omega:m≤q)]
    simp
end flat
def sets:List Value→Nat→List Value→List Value
 | xs,_,[]=> xs
 | xs,o,v :: vs=> sets (xs.set o v) (o+1) vs
theorem sets_get:∀(vs xs:List Value) (o q:Nat),(sets xs o vs)[q]?=if o≤q∧q<o+vs.length∧q<xs.length then vs[q-o]? else xs[q]?
 | [],xs,o,q=> by simp [sets];omega
 | v :: vs,xs,o,q=> by
   rw [sets,sets_get vs (xs.set o v) (o+1) q,List.length_set,List.length_cons]
   by_cases h1:o+1≤q∧q<o+1+vs.length∧q<xs.length
   ·rw [if_pos h1,if_pos (by omega),show q-o=(q-(o+1))+1 by omega,List.getElem?_cons_succ]
   ·rw [if_neg h1]
    by_cases h2:o=q
    ·subst h2
     by_cases h3:o<xs.length
     ·rw [if_pos (by omega)];simp [h3]
     ·rw [if_neg (by omega)];simp [h3]
    ·rw [if_neg (by omega),List.getElem?_set,if_neg h2]
theorem Zm3 {α:Type} (f:α→List Value) (m:Nat) (hf:∀x,(f x).length=m) (hm:0<m) (l:List α) (i:Nat) (x y:α) (h:l[i]?=some x):sets (l.flatMap f) (i*m) (f y)=(l.set i y).flatMap f:=by
 have hi:=(List.getElem?_eq_some_iff.1 h).1
 refine List.ext_getElem? fun q=> ?_
 have hd:=Nat.div_add_mod q m
 have hml:=Nat.mod_lt q hm
 rw [sets_get,Zfd f m hf hm,Zfd f m hf hm,List.getElem?_set,hf,Zcf f m hf]
 by_cases e:i=q / m
 ·subst e
  have hc:q / m*m=m*(q / m):=Nat.mul_comm _ _
  have h2:q / m*m≤q∧q<q / m*m+m:=by omega
  have h3:q<l.length*m:=by
   have:(q / m+1)*m≤l.length*m:=Nat.mul_le_mul_right _ hi
   rw [Nat.add_mul] at this
   omega
  rw [if_pos ⟨h2.1,h2.2,h3⟩,if_pos rfl,if_pos hi]
  show _=(f y)[q % m]?
  congr 1
  omega
 ·rw [if_neg (show¬i=q / m from e),if_neg]
  rintro⟨h1,h2,_⟩
  refine e ?_
  have h3:i=q / m:=by
   have:q / m=i:=by
    rw [Nat.div_eq_of_lt_le]
    ·exact h1
    ·rw [Nat.add_mul];omega
   exact this.symm
  exact h3
structure Wt where
 win:Int
 time:Int
 wgt:Int
 h:Hd
 key:Nat
 text:List UInt8
def Wt.zero:Wt:=⟨0,0,0,(0,0,0),0,[]⟩
def wtC (x:Wt):List Value:= [.int .i64 x.win,.int .i64 x.time,.int .u64 x.wgt,.int .i64 x.h.1,.int .i64 x.h.2.1,.int .i64 x.h.2.2,.int .i64 x.key]
def wtCs (l:List Wt):List Value:=l.flatMap wtC
theorem Zcc (l:List Wt):(wtCs l).length=l.length*7:=Zcf _ 7 (fun _=> rfl) l
theorem Zev (l m:List Wt):wtCs (l++m)=wtCs l++wtCs m:=List.flatMap_append
theorem Znb (l:List Wt):∀u∈wtCs l,u.oneCell'=true:=by
 intro u hu
 unfold wtCs at hu
 rw [List.mem_flatMap] at hu
 obtain⟨c,_,hu⟩:=hu
 simp [wtC] at hu
 rcases hu with rfl | rfl | rfl | rfl | rfl | rfl | rfl <;> rfl
theorem Zcj {l:List Wt} {i:Nat} {x:Wt} (h:l[i]?=some x) (k:Nat) (hk:k<7):(wtCs l)[i*7+k]?=(wtC x)[k]?:=Zag _ 7 (fun _=> rfl) l i k x h hk
theorem Zqd:ElemOf Tryz.prog 221 242 7 56:=ElemOf.mk' (z:= .agg #[.int .i64 0,.int .i64 0,.int .u64 0,.int .i64 0,.int .i64 0,.int .i64 0,.int .i64 0]) Tryz.underlying221 (by kernel_rfl) rfl (by omega)
structure IsQ (w:World) (B q a p G n:Nat) (W R:List Wt):Prop where
 le:B≤q
 blk:Blk w q 223 #[.pointer (some ⟨a,0,none⟩),.pointer (some ⟨p,0,none⟩),.slice (some ⟨G,0,none⟩) n n,.int .i64 (W.length:Int)]
 own:Own w B 242 7 (some ⟨G,0,none⟩) n n (wtCs (W++R))
section
variable {w w':World} {B q a p G n mb:Nat} {W R:List Wt} {S:Nat→Prop}
theorem IsQ.len (h:IsQ w B q a p G n W R):W.length+R.length=n:=by
 have:=h.own.len
 rw [Zcc,List.length_append] at this
 omega
theorem IsQ.blkG (h:IsQ w B q a p G n W R):∃cs,Blk w G 242 cs:=h.own.blk ((Za0 _ _ _).2 rfl)
theorem IsQ.kept (h:IsQ w B q a p G n W R) (k:Keeps S w w') (hq:¬S q) (hg:¬S G):IsQ w' B q a p G n W R:=
 ⟨h.le,h.blk.kept k hq,h.own.kept k (fun b hb e=> by have:=(Za0 _ _ _).1 hb;subst this;exact hg e)⟩
theorem IsQ.quiet (h:IsQ w B q a p G n W R) (k:Keeps NO w w'):IsQ w' B q a p G n W R:=h.kept k (fun h=> h) (fun h=> h)
theorem IsQ.pos {B':Nat} (h:IsQ w B q a p G n W R) (k:Keeps (PoS B' mb w) w w'):IsQ w' B q a p G n W R:=by
 obtain⟨cs,hG⟩:=h.blkG
 exact h.kept k (PoS.not h.blk (by decide) (by decide) (by decide) (by decide) (by decide)) (PoS.not hG (by decide) (by decide) (by decide) (by decide) (by decide))
theorem IsQ.ar {B':Nat} (h:IsQ w B q a p G n W R) (k:Keeps (ArS B' w) w w'):IsQ w' B q a p G n W R:=h.pos (PoS.ar (mb:=0) k)
theorem IsQ.cells (h:IsQ w B q a p G n W R):(w.cell? ⟨q,0,none⟩=some (.pointer (some ⟨a,0,none⟩))∧w.cell? ⟨q,1,none⟩=some (.pointer (some ⟨p,0,none⟩))∧w.cell? ⟨q,2,none⟩=some (.slice (some ⟨G,0,none⟩) n n)∧w.cell? ⟨q,3,none⟩=some (.int .i64 (W.length:Int)))∧q<w.heap.size:=
 ⟨⟨h.blk.cell 0,h.blk.cell 1,h.blk.cell 2,h.blk.cell 3⟩,h.blk.lt⟩
theorem IsQ.at (h:IsQ w B q a p G n W R) {i:Nat} {x:Wt} (hx:(W++R)[i]?=some x):
  w.cell? ⟨G,i*7,none⟩=some (.int .i64 x.win)∧w.cell? ⟨G,i*7+1,none⟩=some (.int .i64 x.time)∧w.cell? ⟨G,i*7+2,none⟩=some (.int .u64 x.wgt)∧w.cell? ⟨G,i*7+3,none⟩=some (.int .i64 x.h.1)∧
   w.cell? ⟨G,i*7+4,none⟩=some (.int .i64 x.h.2.1)∧w.cell? ⟨G,i*7+5,none⟩=some (.int .i64 x.h.2.2)∧w.cell? ⟨G,i*7+6,none⟩=some (.int .i64 x.key):=by
 have hi:i<n:=by have:=(List.getElem?_eq_some_iff.1 hx).1;rw [List.length_append,h.len] at this;exact this
 exact⟨(h.own.cell (i*7) (by omega)).trans (Zcj hx 0 (by omega)),(h.own.cell (i*7+1) (by omega)).trans (Zcj hx 1 (by omega)),(h.own.cell (i*7+2) (by omega)).trans (Zcj hx 2 (by omega)),(h.own.cell (i*7+3) (by omega)).trans (Zcj hx 3 (by omega)),
  (h.own.cell (i*7+4) (by omega)).trans (Zcj hx 4 (by omega)),(h.own.cell (i*7+5) (by omega)).trans (Zcj hx 5 (by omega)),(h.own.cell (i*7+6) (by omega)).trans (Zcj hx 6 (by omega))⟩
def QuS (B mb:Nat) (w:World) (k:Nat):Prop:=PoS B mb w k∨(B≤k∧∃cs t,Blk w k t cs∧(t=223∨t=242))
theorem QuS.same {w0:World} {b:Nat} (he:w.heap[b]?=w0.heap[b]?) (h:QuS B mb w b):QuS B mb w0 b:=by
 rcases h with h | ⟨h1,cs,t,h2,h3⟩
 ·exact .inl (h.same he)
 ·exact .inr ⟨h1,cs,t,he.symm.trans h2,h3⟩
theorem QuS.trans {w0:World} (h:Keeps (QuS B mb w0) w0 w) (k:Keeps (QuS B mb w) w w'):Keeps (QuS B mb w0) w0 w':=by
 refine h.step k (fun b hb hS=> ?_)
 by_cases hn:QuS B mb w0 b
 ·exact hn
 ·exact hS.same (h.block b hb hn)
theorem QuS.zero (h:Keeps NO w w'):Keeps (QuS B mb w) w w':=h.weak (fun _ _ h=> h.elim)
theorem QuS.po (h:Keeps (PoS B mb w) w w'):Keeps (QuS B mb w) w w':=h.weak (fun _ _ h=> .inl h)
theorem QuS.not {t:TypeId} {b:Nat} {cs:Array Value} (h:Blk w b t cs) (h1:t≠144) (h2:t≠147) (h3:t≠306) (h4:t≠151) (h5:t≠310) (h6:t≠223) (h7:t≠242):¬QuS B mb w b:=by
 rintro(h8 | ⟨_,cs',t',h8,h9⟩)
 ·exact PoS.not h h1 h2 h3 h4 h5 h8
 ·have:=Za8 h h8
  rcases h9 with rfl | rfl
  ·exact h6 this
  ·exact h7 this
theorem IsQ.inQ (h:IsQ w B q a p G n W R):QuS B mb w q:= .inr ⟨h.le,_,_,h.blk,.inl rfl⟩
theorem IsQ.inG (h:IsQ w B q a p G n W R):QuS B mb w G:=by
 obtain⟨cs,hG⟩:=h.blkG
 exact .inr ⟨(h.own.inB ((Za0 _ _ _).2 rfl)).1,_,_,hG,.inr rfl⟩
theorem IsQ.othQ (h:IsQ w B q a p G n W R) {b:Nat} (hb:b=q∨b=G):Other w B b:=by
 obtain⟨cs,hG⟩:=h.blkG
 rcases hb with rfl | rfl
 ·exact .inr ⟨_,_,h.blk,by decide,by decide,by decide,by decide⟩
 ·exact .inr ⟨_,_,hG,by decide,by decide,by decide,by decide⟩
theorem IsQ.othP (h:IsQ w B q a p G n W R) {b:Nat} (hb:b=q∨b=G):OthP w B b:=by
 obtain⟨cs,hG⟩:=h.blkG
 rcases hb with rfl | rfl
 ·exact .inr ⟨_,_,h.blk,by decide,by decide⟩
 ·exact .inr ⟨_,_,hG,by decide,by decide⟩
theorem IsQ.ne (h:IsQ w B q a p G n W R):q≠G:=by
 obtain⟨cs,hG⟩:=h.blkG
 rintro rfl
 exact absurd (Za8 h.blk hG) (by decide)
theorem IsQ.add (h:IsQ w B q a p G n W R) (hl:W.length<n) (y:Wt):
  IsQ ((((((((w.setCell ⟨G,W.length*7,none⟩ (.int .i64 y.win)).setCell ⟨G,W.length*7+1,none⟩ (.int .i64 y.time)).setCell ⟨G,W.length*7+2,none⟩ (.int .u64 y.wgt)).setCell ⟨G,W.length*7+3,none⟩ (.int .i64 y.h.1)).setCell ⟨G,W.length*7+4,none⟩ (.int .i64 y.h.2.1)).setCell ⟨G,W.length*7+5,none⟩ (.int .i64 y.h.2.2)).setCell ⟨G,W.length*7+6,none⟩ (.int .i64 y.key))) B q a p G n W (y :: R.tail)∧
  Keeps (· =G) w ((((((((w.setCell ⟨G,W.length*7,none⟩ (.int .i64 y.win)).setCell ⟨G,W.length*7+1,none⟩ (.int .i64 y.time)).setCell ⟨G,W.length*7+2,none⟩ (.int .u64 y.wgt)).setCell ⟨G,W.length*7+3,none⟩ (.int .i64 y.h.1)).setCell ⟨G,W.length*7+4,none⟩ (.int .i64 y.h.2.1)).setCell ⟨G,W.length*7+5,none⟩ (.int .i64 y.h.2.2)).setCell ⟨G,W.length*7+6,none⟩ (.int .i64 y.key))):=by
 have kS:=((((((Zaf w G (W.length*7) (.int .i64 y.win)).setCell (p:=⟨G,W.length*7+1,none⟩) (.inl rfl) (.int .i64 y.time)).setCell (p:=⟨G,W.length*7+2,none⟩) (.inl rfl) (.int .u64 y.wgt)).setCell (p:=⟨G,W.length*7+3,none⟩) (.inl rfl) (.int .i64 y.h.1)).setCell (p:=⟨G,W.length*7+4,none⟩) (.inl rfl) (.int .i64 y.h.2.1)).setCell (p:=⟨G,W.length*7+5,none⟩) (.inl rfl) (.int .i64 y.h.2.2)).setCell (p:=⟨G,W.length*7+6,none⟩) (.inl rfl) (.int .i64 y.key)
 refine⟨⟨h.le,h.blk.kept kS h.ne,?_⟩,kS⟩
 have hR:R.length≠0:=by have:=h.len;omega
 rcases R with _ | ⟨z,R⟩
 ·simp at hR
 have hat:(W++z :: R)[W.length]?=some z:=by rw [List.getElem?_append_right (Nat.le_refl _)];simp
 have hset:(W++z :: R).set W.length y=W++y :: R:=by rw [List.set_append_right _ _ (Nat.le_refl _)];simp
 have o:=((((((h.own.store (W.length*7) (.int .i64 y.win)).store (W.length*7+1) (.int .i64 y.time)).store (W.length*7+2) (.int .u64 y.wgt)).store (W.length*7+3) (.int .i64 y.h.1)).store (W.length*7+4) (.int .i64 y.h.2.1)).store (W.length*7+5) (.int .i64 y.h.2.2)).store (W.length*7+6) (.int .i64 y.key)
 have e:=Zm3 wtC 7 (fun _=> rfl) (by omega) (W++z :: R) W.length z y hat
 rw [hset] at e
 have e2:(((((((wtCs (W++z :: R)).set (W.length*7) (.int .i64 y.win)).set (W.length*7+1) (.int .i64 y.time)).set (W.length*7+2) (.int .u64 y.wgt)).set (W.length*7+3) (.int .i64 y.h.1)).set (W.length*7+4) (.int .i64 y.h.2.1)).set (W.length*7+5) (.int .i64 y.h.2.2)).set (W.length*7+6) (.int .i64 y.key)=wtCs (W++y :: R):=e
 rw [e2] at o
 exact o
theorem IsQ.count (h:IsQ w B q a p G n W R) {W' R':List Wt} (he:W'++R'=W++R) (m:Int) (hm:m=W'.length):IsQ (w.setCell ⟨q,3,none⟩ (.int .i64 m)) B q a p G n W' R'∧Keeps (· =q) w (w.setCell ⟨q,3,none⟩ (.int .i64 m)):=by
 subst hm
 have kS:=Zaf w q 3 (.int .i64 (W'.length:Int))
 refine⟨⟨h.le,h.blk.set 3 _,?_⟩,kS⟩
 rw [he]
 exact h.own.kept kS (fun b hb e=> by have:=(Za0 _ _ _).1 hb;subst this;exact h.ne e.symm)
end
structure QInv (sh:List (Int × Int)) (W:List Wt) (E:List PE) (s:Ar) (L:Nat→List Nat) (D:KD) (M M2:Int):Prop where
 iv:Inv s L M2
 pv:PInv E s D M
 hsh:Zak s=sh
 hs:∀x∈W,LV s x.h.1 x.h.2.1 x.h.2.2 []
 nd:(W.map (fun x=> (x.h.1,x.h.2.1))).Nodup
 us:∀j,usAt E j=((W.map (fun x=> x.key)).count j:Int)
 tx:∀x∈W,∃e,E[x.key]?=some e∧e.key=x.text
 fq:∀x∈W,x.h.1=fitS sh 24
 fe:∀(j:Nat) (e:PE),E[j]?=some e→0<e.users→e.h.1=fitS sh e.key.length
 lv:∀i,i<sh.length→(Za6 s).getD i 0=(if i=fitS sh 24 then(W.length:Int) else 0)+(cntF sh i E:Int)
 su:sumU E=W.length
 fa:s.faults=0
section
variable {sh:List (Int × Int)} {W:List Wt} {E:List PE} {s s1 s2 s3:Ar} {L L1 L2:Nat→List Nat} {D D':KD} {M M' M2 M2':Int}
theorem QInv.lenL (h:QInv sh W E s L D M M2):(Za6 s).length=sh.length:=by rw [←h.hsh];simp [Za6,Zak]
theorem QInv.apart (h:QInv sh W E s L D M M2) {x:Wt} (hx:x∈W) {j:Nat} {e:PE} (he:E[j]?=some e) (hu:0<e.users):¬(e.h.1=x.h.1∧e.h.2.1=x.h.2.1):=by
 rintro⟨h1,h2⟩
 have a:=(h.pv.lv j e he hu)
 have b:=h.hs x hx
 rw [←h1,←h2] at b
 have:=(a.1.one b).2
 rw [this] at a
 simp at a
theorem QInv.users (h:QInv sh W E s L D M M2) {x:Wt} (hx:x∈W):∃e,E[x.key]?=some e∧e.key=x.text∧0<e.users∧1≤e.key.length∧e.key.length≤255:=by
 obtain⟨e,he,hk⟩:=h.tx x hx
 have h1:=h.us x.key
 rw [Zbx he] at h1
 have h2:0<(W.map (fun x=> x.key)).count x.key:=List.count_pos_iff.2 (List.mem_map.2 ⟨x,hx,rfl⟩)
 have hu:0<e.users:=by omega
 exact⟨e,he,hk,hu,(h.pv.lv _ e he hu).2⟩
theorem QInv.fit (h:QInv sh W E s L D M M2) (size:Int):fitK s.cls size=fitS sh size:=by rw [Ze5,h.hsh]
theorem QInv.cnt (h:QInv sh W E s L D M M2):(cntU E:Int)≤W.length:=by
 rw [←h.su]
 refine Zim E (fun e he=> ?_)
 obtain⟨j,hj⟩:=List.getElem?_of_mem he
 exact(h.pv.us j e hj).1
theorem QInv.slot (h:QInv sh W E s L D M M2) {i k:Nat} {age:Int} (g:Got s s1 i k age 24):PInv E s1 D M:=h.pv.arena fun j e he hu=> (g.lvs _ _ _ _).2 (.inr (h.pv.lv j e he hu).1)
theorem Zqa {s s1:Ar} {i k:Nat} {age size:Int} (g:Got s s1 i k age size):i<(Za6 s).length:=by
 obtain⟨c,hc,_⟩:=g.fit
 have:=(List.getElem?_eq_some_iff.1 hc).1
 simpa [Za6] using this
theorem Zd9 {s s1:Ar} {i k:Nat} (g:Gone s s1 i k) (j:Nat):(Za6 s1).getD j 0=(Za6 s).getD j 0+if j=i then-1 else 0:=
 Zi7 (by rw [g.lives,Int.sub_eq_add_neg]) (by have:=g.hi.1;simpa [Za6] using this) j
theorem Zcw {s s1:Ar} {i k:Nat} {age size:Int} (g:Got s s1 i k age size) (j:Nat):(Za6 s1).getD j 0=(Za6 s).getD j 0+if j=i then 1 else 0:=Zi7 g.lives (Zqa g) j
theorem QInv.undo (h:QInv sh W E s L D M M2) {i k:Nat} {age:Int} (g:Got s s1 i k age 24) (u:Gone s1 s2 i k) (v:Inv s2 L2 M2'):QInv sh W E s2 L2 D M M2'∧Za6 s2=Za6 s:=by
 have hl:∀j q a d,LV s2 j q a d ↔ LV s j q a d:=fun j q a d=> by
  rw [u.lvs,g.lvs]
  constructor
  ·rintro⟨h1 | h1,h2⟩
   ·exact absurd ⟨h1.1,h1.2.1⟩ h2
   ·exact h1
  ·intro h1
   refine⟨.inr h1,?_⟩
   rintro⟨rfl,rfl⟩
   exact g.old _ _ h1
 have hlv:Za6 s2=Za6 s:=by
  rw [u.lives,g.lives]
  have hi:=Zqa g
  simp [List.getD,hi]
 exact⟨⟨v,h.pv.arena fun j e he hu=> (hl _ _ _ _).2 (h.pv.lv j e he hu).1,by rw [u.shape,g.shape,h.hsh],fun x hx=> (hl _ _ _ _).2 (h.hs x hx),h.nd,h.us,h.tx,h.fq,h.fe,by rw [hlv];exact h.lv,h.su,by rw [u.faults,g.faults,h.fa]⟩,hlv⟩
theorem Zem {W:List Wt} {y:Wt} (hn:(W.map (fun x=> (x.h.1,x.h.2.1))).Nodup) (hy:∀x∈W,¬(x.h.1=y.h.1∧x.h.2.1=y.h.2.1)):((W++ [y]).map (fun x=> (x.h.1,x.h.2.1))).Nodup:=by
 rw [List.map_append,List.nodup_append]
 refine⟨hn,by simp,fun a ha b hb=> ?_⟩
 obtain⟨x,hx,rfl⟩:=List.mem_map.1 ha
 simp at hb
 subst hb
 intro e
 injection e with e1 e2
 exact hy x hx ⟨e1,e2⟩
theorem Zeq (W:List Wt) (y:Wt) (j:Nat):((W++ [y]).map (fun x=> x.key)).count j=(W.map (fun x=> x.key)).count j+if j=y.key then 1 else 0:=by
 rw [List.map_append,List.count_append,List.map_cons,List.map_nil,List.count_singleton]
 by_cases e:j=y.key
 ·subst e;simp
 ·simp [e,show¬y.key=j from fun q=> e q.symm]
theorem QInv.old (h:QInv sh W E s L D M M2) {i k:Nat} {age:Int} (g:Got s s1 i k age 24) (hfit:fitK s.cls 24=i) (v:Inv s1 L1 M2') {id:Nat} {x:PE} (hx:E[id]?=some x) (hu:0<x.users) (pv:PInv (E.set id { x with users:=x.users+1}) s1 D M') (win time wgt:Int):
  QInv sh (W++ [⟨win,time,wgt,(i,k,age),id,x.key⟩]) (E.set id { x with users:=x.users+1}) s1 L1 D M' M2':=by
 have hil:=(List.getElem?_eq_some_iff.1 hx).1
 refine⟨v,pv,by rw [g.shape,h.hsh],fun y hy=> ?_,Zem h.nd (fun y hy e=> ?_),fun j=> ?_,fun y hy=> ?_,fun y hy=> ?_,fun j e he hue=> ?_,fun j hj=> ?_,?_,by rw [g.faults,h.fa]⟩
 ·rcases List.mem_append.1 hy with hy | hy
  ·exact(g.lvs _ _ _ _).2 (.inr (h.hs y hy))
  ·rw [List.mem_singleton.1 hy]
   exact(g.lvs _ _ _ _).2 (.inl ⟨rfl,rfl,rfl,rfl⟩)
 ·have:=h.hs y hy
  rw [e.1,e.2] at this
  exact g.old _ _ this
 ·rw [Zdo hx,Zeq]
  have h1:=h.us j
  dsimp only
  split
  ·next e=>
   subst e
   rw [Zbx hx] at h1
   push_cast
   omega
  ·push_cast
   omega
 ·rcases List.mem_append.1 hy with hy | hy
  ·obtain⟨e,he,hk⟩:=h.tx y hy
   rw [List.getElem?_set]
   split
   ·next e1=>
    rw [←e1,hx] at he
    injection he with he
    subst he
    exact⟨{ x with users:=x.users+1},by simp [hil],hk⟩
   ·exact⟨e,he,hk⟩
  ·rw [List.mem_singleton.1 hy]
   exact⟨{ x with users:=x.users+1},by simp [hil],rfl⟩
 ·rcases List.mem_append.1 hy with hy | hy
  ·exact h.fq y hy
  ·rw [List.mem_singleton.1 hy,←h.fit]
   exact hfit.symm
 ·rcases Zbz he with ⟨rfl,rfl,_⟩ | ⟨_,h3⟩
  ·have:=h.fe _ _ hx hu
   exact this
  ·exact h.fe _ _ h3 hue
 ·rw [Zcw g,h.lv j hj]
  have h1:=Zcy sh j E id x { x with users:=x.users+1} hx
  have h2:(0<x.users∧fitS sh x.key.length=j) ↔ (0<x.users+1∧fitS sh x.key.length=j):=⟨fun q=> ⟨by omega,q.2⟩,fun q=> ⟨hu,q.2⟩⟩
  simp only [h2] at h1
  have h3:i=fitS sh 24:=by rw [←h.fit];exact hfit.symm
  rw [h3,List.length_append,List.length_singleton]
  split <;> (push_cast;omega)
 ·rw [Zcq _ _ _ _ hx,h.su,List.length_append,List.length_singleton]
  push_cast
  omega
theorem QInv.new (h:QInv sh W E s L D M M2) {i k i' k':Nat} {age age':Int} {key:List UInt8} (g:Got s s1 i k age 24) (hfit:fitK s.cls 24=i) (v:Inv s3 L2 M2') {id:Nat} {x:PE} {E1:List PE} (hE1:E1=E∨E1=E++ [PE.zero]) (hx:E1[id]?=some x) (hu:x.users=0)
  (g':Got s1 s2 i' k' age' key.length) (wr:Wrote s2 s3 i' k' age' key) (hfit':fitK s1.cls key.length=i') (pv:PInv (E1.set id ⟨(i',k',age'),key,1⟩) s3 D' M') (win time wgt:Int):
  QInv sh (W++ [⟨win,time,wgt,(i,k,age),id,key⟩]) (E1.set id ⟨(i',k',age'),key,1⟩) s3 L2 D' M' M2':=by
 have hil:=(List.getElem?_eq_some_iff.1 hx).1
 have hs1:Zak s1=sh:=by rw [g.shape,h.hsh]
 have hlive:∀j q a d,LV s1 j q a d→LV s3 j q a d:=fun j q a d hl=> (wr.lvs _ _ _ _).2 (.inr ⟨(g'.lvs _ _ _ _).2 (.inr hl),fun e=> by rw [e.1,e.2] at hl;exact g'.old _ _ hl⟩)
 have hget:∀(j:Nat) (e:PE),E[j]?=some e→E1[j]?=some e:=fun j e he=> by
  rcases hE1 with rfl | rfl
  ·exact he
  ·rw [List.getElem?_append_left (List.getElem?_eq_some_iff.1 he).1];exact he
 have hgetb:∀(j:Nat) (e:PE),E1[j]?=some e→0<e.users→E[j]?=some e:=fun j e he hue=> by
  rcases hE1 with rfl | rfl
  ·exact he
  ·rw [List.getElem?_append] at he
   split at he
   ·exact he
   ·have:=List.mem_of_getElem? he
    simp at this
    subst this
    simp [PE.zero] at hue
 have hus:∀j,usAt E1 j=usAt E j:=fun j=> by
  rcases hE1 with rfl | rfl
  ·rfl
  ·exact Znf E j
 refine⟨v,pv,by rw [wr.shape,g'.shape,hs1],fun y hy=> ?_,Zem h.nd (fun y hy e=> ?_),fun j=> ?_,fun y hy=> ?_,fun y hy=> ?_,fun j e he hue=> ?_,fun j hj=> ?_,?_,by rw [wr.faults,g'.faults,g.faults,h.fa]⟩
 ·rcases List.mem_append.1 hy with hy | hy
  ·exact hlive _ _ _ _ ((g.lvs _ _ _ _).2 (.inr (h.hs y hy)))
  ·rw [List.mem_singleton.1 hy]
   exact hlive _ _ _ _ ((g.lvs _ _ _ _).2 (.inl ⟨rfl,rfl,rfl,rfl⟩))
 ·have:=h.hs y hy
  rw [e.1,e.2] at this
  exact g.old _ _ this
 ·rw [Zdo hx,Zeq,hus]
  have h1:=h.us j
  dsimp only
  split
  ·next e=>
   subst e
   rw [←hus,Zbx hx,hu] at h1
   push_cast
   omega
  ·push_cast
   omega
 ·rcases List.mem_append.1 hy with hy | hy
  ·obtain⟨e,he,hk,heu,_⟩:=h.users hy
   rw [List.getElem?_set]
   split
   ·next e1=>
    have:=hget _ _ he
    rw [←e1,hx] at this
    injection this with this
    subst this
    omega
   ·exact⟨e,hget _ _ he,hk⟩
  ·rw [List.mem_singleton.1 hy]
   exact⟨⟨(i',k',age'),key,1⟩,by simp [hil],rfl⟩
 ·rcases List.mem_append.1 hy with hy | hy
  ·exact h.fq y hy
  ·rw [List.mem_singleton.1 hy,←h.fit]
   exact hfit.symm
 ·rcases Zbz he with ⟨rfl,rfl,_⟩ | ⟨_,h3⟩
  ·show i'=fitS sh key.length
   rw [←hfit',Ze5,hs1]
  ·exact h.fe _ _ (hgetb _ _ h3 hue) hue
 ·rw [wr.lives,Zcw g',Zcw g,h.lv j hj]
  have h1:=Zcy sh j E1 id x ⟨(i',k',age'),key,1⟩ hx
  have h0:cntF sh j E1=cntF sh j E:=by
   rcases hE1 with rfl | rfl
   ·rfl
   ·exact Zpd sh j E
  rw [if_neg (show¬(0<x.users∧fitS sh x.key.length=j) from fun q=> by omega),h0] at h1
  have h4:i'=fitS sh key.length:=by rw [←hfit',Ze5,hs1]
  have h3:i=fitS sh 24:=by rw [←h.fit];exact hfit.symm
  rw [h3,h4,List.length_append,List.length_singleton]
  dsimp only at h1
  have h5:(if (0:Int)<1∧fitS sh key.length=j then 1 else 0:Nat)=if j=fitS sh key.length then 1 else 0:=by
   by_cases e:j=fitS sh key.length
   ·rw [if_pos e,if_pos ⟨by omega,e.symm⟩]
   ·rw [if_neg e,if_neg (fun q=> e q.2.symm)]
  rw [h5] at h1
  split <;> split <;> simp_all <;> omega
 ·rw [Zcq _ _ _ _ hx,List.length_append,List.length_singleton]
  have h0:sumU E1=sumU E:=by
   rcases hE1 with rfl | rfl
   ·rfl
   ·exact Znl E
  rw [h0,h.su,hu]
  push_cast
  omega
theorem QInv.gone {x:Wt} (h:QInv sh (x :: W) E s L D M M2) (u:Gone s s1 x.h.1 x.h.2.1):PInv E s1 D M:=
 h.pv.arena fun j e he hu=> (u.lvs _ _ _ _).2 ⟨(h.pv.lv j e he hu).1,h.apart (List.mem_cons_self ..) he hu⟩
theorem QInv.rest {x:Wt} (h:QInv sh (x :: W) E s L D M M2) (u:Gone s s1 x.h.1 x.h.2.1):(∀y∈W,LV s1 y.h.1 y.h.2.1 y.h.2.2 [])∧(W.map (fun x=> (x.h.1,x.h.2.1))).Nodup:=by
 have hn:=h.nd
 rw [List.map_cons,List.nodup_cons] at hn
 refine⟨fun y hy=> (u.lvs _ _ _ _).2 ⟨h.hs y (List.mem_cons_of_mem _ hy),fun e=> hn.1 ?_⟩,hn.2⟩
 rw [←e.1,←e.2]
 exact List.mem_map.2 ⟨y,hy,rfl⟩
theorem Zde (W:List Wt) (y:Wt) (j:Nat):((y :: W).map (fun x=> x.key)).count j=(W.map (fun x=> x.key)).count j+if j=y.key then 1 else 0:=by
 rw [List.map_cons,List.count_cons]
 by_cases e:j=y.key
 ·subst e;simp
 ·simp [e,show¬y.key=j from fun q=> e q.symm]
theorem QInv.more {x:Wt} (h:QInv sh (x :: W) E s L D M M2) (u:Gone s s1 x.h.1 x.h.2.1) (v:Inv s1 L1 M2') {e:PE} (he:E[x.key]?=some e) (hu:1<e.users) (pv:PInv (E.set x.key { e with users:=e.users-1}) s1 D M'):
  QInv sh W (E.set x.key { e with users:=e.users-1}) s1 L1 D M' M2':=by
 have hil:=(List.getElem?_eq_some_iff.1 he).1
 obtain⟨r1,r2⟩:=h.rest u
 refine⟨v,pv,by rw [u.shape,h.hsh],r1,r2,fun j=> ?_,fun y hy=> ?_,fun y hy=> h.fq y (List.mem_cons_of_mem _ hy),fun j e2 he2 hue=> ?_,fun j hj=> ?_,?_,by rw [u.faults,h.fa]⟩
 ·rw [Zdo he]
  have h1:=h.us j
  rw [Zde] at h1
  dsimp only
  split
  ·next e1=>
   subst e1
   rw [Zbx he] at h1
   simp at h1
   omega
  ·next e1=>
   rw [if_neg e1] at h1
   simpa using h1
 ·obtain⟨e2,he2,hk⟩:=h.tx y (List.mem_cons_of_mem _ hy)
  rw [List.getElem?_set]
  split
  ·next e1=>
   rw [←e1,he] at he2
   injection he2 with he2
   subst he2
   exact⟨{ e with users:=e.users-1},by simp [hil],hk⟩
  ·exact⟨e2,he2,hk⟩
 ·rcases Zbz he2 with ⟨rfl,rfl,_⟩ | ⟨_,h3⟩
  ·have:=h.fe _ _ he (by omega)
   exact this
  ·exact h.fe _ _ h3 hue
 ·rw [Zd9 u,h.lv j hj]
  have h1:=Zcy sh j E x.key e { e with users:=e.users-1} he
  have h2:(0<e.users∧fitS sh e.key.length=j) ↔ (0<e.users-1∧fitS sh e.key.length=j):=⟨fun q=> ⟨by omega,q.2⟩,fun q=> ⟨by omega,q.2⟩⟩
  simp only [h2] at h1
  rw [h.fq x (List.mem_cons_self ..),List.length_cons]
  split <;> (push_cast;omega)
 ·rw [Zcq _ _ _ _ he,h.su,List.length_cons]
  push_cast
  omega
theorem QInv.last {x:Wt} (h:QInv sh (x :: W) E s L D M M2) (u:Gone s s1 x.h.1 x.h.2.1) {e:PE} (he:E[x.key]?=some e) (hu:e.users=1) (u2:Gone s1 s2 e.h.1 e.h.2.1) (v:Inv s2 L2 M2') (pv:PInv (E.set x.key { e with users:=0}) s2 D' M'):
  QInv sh W (E.set x.key { e with users:=0}) s2 L2 D' M' M2':=by
 have hil:=(List.getElem?_eq_some_iff.1 he).1
 obtain⟨r1,r2⟩:=h.rest u
 have hk0:∀y∈W,y.key≠x.key:=fun y hy e1=> by
  have h1:=h.us x.key
  rw [Zbx he,hu,Zde,if_pos rfl] at h1
  have h2:0<(W.map (fun x=> x.key)).count x.key:=List.count_pos_iff.2 (List.mem_map.2 ⟨y,hy,e1⟩)
  omega
 refine⟨v,pv,by rw [u2.shape,u.shape,h.hsh],fun y hy=> (u2.lvs _ _ _ _).2 ⟨r1 y hy,fun q=> h.apart (List.mem_cons_of_mem _ hy) he (by omega) ⟨q.1.symm,q.2.symm⟩⟩,r2,fun j=> ?_,fun y hy=> ?_,fun y hy=> h.fq y (List.mem_cons_of_mem _ hy),fun j e2 he2 hue=> ?_,fun j hj=> ?_,?_,by rw [u2.faults,u.faults,h.fa]⟩
 ·rw [Zdo he]
  have h1:=h.us j
  rw [Zde] at h1
  dsimp only
  split
  ·next e1=>
   subst e1
   rw [Zbx he,hu] at h1
   simp at h1
   omega
  ·next e1=>
   rw [if_neg e1] at h1
   simpa using h1
 ·obtain⟨e2,he2,hk⟩:=h.tx y (List.mem_cons_of_mem _ hy)
  rw [List.getElem?_set,if_neg (fun q=> hk0 y hy q.symm)]
  exact⟨e2,he2,hk⟩
 ·rcases Zbz he2 with ⟨rfl,rfl,_⟩ | ⟨_,h3⟩
  ·exact absurd hue (by simp)
  ·exact h.fe _ _ h3 hue
 ·rw [Zd9 u2,Zd9 u,h.lv j hj]
  have h1:=Zcy sh j E x.key e { e with users:=0} he
  rw [if_neg (show¬((0:Int)<(0:Int)∧fitS sh e.key.length=j) from fun q=> by omega)] at h1
  have h4:=h.fe _ _ he (by omega)
  rw [h.fq x (List.mem_cons_self ..),h4,List.length_cons]
  have h5:(if 0<e.users∧fitS sh e.key.length=j then 1 else 0:Nat)=if j=fitS sh e.key.length then 1 else 0:=by
   by_cases e1:j=fitS sh e.key.length
   ·rw [if_pos e1,if_pos ⟨by omega,e1.symm⟩]
   ·rw [if_neg e1,if_neg (fun q=> e1 q.2.symm)]
  rw [h5] at h1
  split <;> split <;> simp_all <;> omega
 ·rw [Zcq _ _ _ _ he,h.su,List.length_cons,hu]
  push_cast
  omega
theorem QInv.zero {s:Ar} {L:Nat→List Nat} {M2:Int} (sh:List (Int × Int)) (v:Inv s L M2) (hs:Zak s=sh) (hl:∀i,(Za6 s).getD i 0=0) (hf:s.faults=0):QInv sh [] [PE.zero] s L (.map []) 0 M2:=by
 refine⟨v,PInv.new s,hs,by simp,by simp,fun j=> ?_,by simp,by simp,fun j e he hu=> ?_,fun i hi=> ?_,rfl,hf⟩
 ·rcases j with _ | j <;> rfl
 ·have:=List.mem_of_getElem? he
  simp at this
  subst this
  simp [PE.zero] at hu
 ·rw [hl]
  simp [cntF,PE.zero]
end
open Go.RowKit Cfp
structure Qu (w:World) (B q a p mb G n:Nat) (nk:Int) (sh:List (Int × Int)) (W R:List Wt) (E:List PE) (EA:Option Addr) (cap:Nat) (D:KD) (s:Ar) (L:Nat→List Nat) (M M2:Int):Prop where
 qu:IsQ w B q a p G n W R
 po:IsPo w B p a nk E EA cap mb D
 ar:IsAr w B a s
 iv:QInv sh W E s L D M M2
 hB:B≤w.heap.size
 kn:(cntU E:Int)≤nk
 n64:n≤64
section
variable {w w':World} {B q a p mb G n:Nat} {nk:Int} {sh:List (Int × Int)} {W R:List Wt} {E:List PE} {EA:Option Addr} {cap:Nat} {D:KD} {s:Ar} {L:Nat→List Nat} {M M2:Int}
theorem Qu.quiet (h:Qu w B q a p mb G n nk sh W R E EA cap D s L M M2) (k:Keeps NO w w'):Qu w' B q a p mb G n nk sh W R E EA cap D s L M M2:=
 ⟨h.qu.quiet k,h.po.quiet k,h.ar.quiet k,h.iv,Nat.le_trans h.hB k.size,h.kn,h.n64⟩
theorem Qu.len (h:Qu w B q a p mb G n nk sh W R E EA cap D s L M M2):W.length≤n:=by have:=h.qu.len;omega
end
theorem Zrv (n:Nat):madeCells (Value.agg #[.int .i64 0,.int .i64 0,.int .u64 0,.int .i64 0,.int .i64 0,.int .i64 0,.int .i64 0]).cells (n*7)=(wtCs (List.replicate n Wt.zero)).toArray:=by
 apply Array.ext'
 refine List.ext_getElem? fun j=> ?_
 rw [show(wtCs (List.replicate n Wt.zero)).toArray.toList=wtCs (List.replicate n Wt.zero) from rfl,show wtCs (List.replicate n Wt.zero)=(List.replicate n Wt.zero).flatMap wtC from rfl,Zfd wtC 7 (fun _=> rfl) (by omega)]
 have hs:(madeCells (Value.agg #[.int .i64 0,.int .i64 0,.int .u64 0,.int .i64 0,.int .i64 0,.int .i64 0,.int .i64 0]).cells (n*7)).size=n*7:=by simp [madeCells]
 by_cases hj:j<n*7
 ·have h1:j / 7<n:=by omega
  rw [List.getElem?_replicate,if_pos h1]
  rw [Array.getElem?_toList,Array.getElem?_eq_getElem (by rw [hs];exact hj)]
  have h2:j % 7<7:=Nat.mod_lt _ (by omega)
  simp only [madeCells,Value.cells,Array.getElem_map,Array.getElem_range,Option.bind_some]
  show some (#[Value.int .i64 0,.int .i64 0,.int .u64 0,.int .i64 0,.int .i64 0,.int .i64 0,.int .i64 0][j % 7]!)=_
  generalize j % 7=r at h2
  rcases r with _ | _ | _ | _ | _ | _ | _ | r
  all_goals first | rfl | omega
 ·have h1:¬j / 7<n:=by omega
  rw [List.getElem?_replicate,if_neg h1]
  rw [Array.getElem?_toList,Array.getElem?_eq_none (by omega)]
  rfl
theorem Zkn (n:Nat) (hn:n≤64) (w:World):(Instr.makeSlice 221 (.int .i64 (n:Int)) (.int .i64 (n:Int))).run Tryz.prog w= .ok (.slice (some ⟨w.heap.size,0,none⟩) n n) (w.alloc (.cells (wtCs (List.replicate n Wt.zero)).toArray 242)):=by
 have hi:(Tryz.prog.info? 242).map (fun i=> (i.zero,i.size,i.bytes))=some (some (.agg #[.int .i64 0,.int .i64 0,.int .u64 0,.int .i64 0,.int .i64 0,.int .i64 0,.int .i64 0]),7,56):=by kernel_rfl
 obtain⟨i,h1,h2,h3,h4⟩:=info_parts hi
 have hr:=run_make (P:=Tryz.prog) w 221 242 i (.agg #[.int .i64 0,.int .i64 0,.int .u64 0,.int .i64 0,.int .i64 0,.int .i64 0,.int .i64 0]) Tryz.underlying221 h1 h2 .i64 .i64 (n:Int) (n:Int) (by omega) (by omega) (by rw [h4];omega) (by omega)
 rw [hr,Int.toNat_natCast,h3,Zrv]
def Zw4 (w:World) (a p n:Nat) (e:Ending) (w':World):Prop:=
 ∃q G,e= .returned (.tuple #[.pointer (some ⟨q,0,none⟩),.int .i64 0])∧IsQ w' w.heap.size q a p G n [] (List.replicate n Wt.zero)∧Keeps NO w w'
theorem Zri (w:World) (a p n:Nat) (h1:1≤n) (h2:n≤64):
  Calls Tryz.prog 51 #[.pointer (some ⟨a,0,none⟩),.pointer (some ⟨p,0,none⟩),.int .i64 n] w (Zw4 w a p n):=by
 have hmk:=Zkn n h2
 have t1:decide ((n:Int)<1)=false:=by simp;omega
 have t2:decide ((64:Int)<(n:Int))=false:=by simp;omega
 obtain⟨C,hC⟩:∃C,C=(wtCs (List.replicate n Wt.zero)).toArray:=⟨_,rfl⟩
 rw [←hC] at hmk
 have HC:=zz hC
 clear hC
 go_enter Tryz.func51,Tryz.ntmps51
 go_wp2_with fail
 go_ret2
 have k1:=(Kz0 NO w).alloc (.cells C 242)
 have o1:=Own.new w w.heap.size 242 C n 7 (Nat.le_refl _) (by simp only [maxLen];omega) (by rw [HC.out];simp [Zcc])
 have k2:=(Kz0 NO (w.alloc (.cells C 242))).alloc (.cells #[.pointer (some ⟨a,0,none⟩),.pointer (some ⟨p,0,none⟩),.slice (some ⟨w.heap.size,0,none⟩) n n,.int .i64 0] 223)
 refine⟨w.heap.size+1,w.heap.size,rfl,⟨Nat.le_succ _,?_,?_⟩,k1.trans k2⟩
 ·exact Blk.new_at _ _ _ _ (by simp)
 ·have:=o1.kept k2 (fun _ _ h=> h)
  rw [HC.out] at this
  rw [HC.out]
  simpa using this
section
variable (w:World) (B q a p G n:Nat) (W R:List Wt)
theorem Zrj (h:IsQ w B q a p G n W R):Calls Tryz.prog 165 #[.pointer (some ⟨q,0,none⟩)] w fun e w'=> e= .returned (.int .i64 (W.length:Int))∧w'=w:=by
 obtain⟨⟨p0,p1,p2,p3⟩,hpw⟩:=h.cells
 clear h
 go_enter Tryz.func165,Tryz.ntmps165
 go_wp2_with fail
 go_ret
 exact⟨rfl,rfl⟩
def Zbr (z:Int):List Wt→Nat
 | []=> 0
 | x :: l=> if 0<Zbr z l then Zbr z l+1 else if x.win≤z then 1 else 0
theorem Zd5 (z:Int):∀(l:List Wt) (i:Nat) (x:Wt),l[i]?=some x→x.win≤z→(∀(j:Nat) (y:Wt),i<j→l[j]?=some y→z<y.win)→Zbr z l=i+1
 | [],_,_,h,_,_=> by simp at h
 | y :: l,0,x,h,hx,hj=> by
   simp at h
   subst h
   have h0:Zbr z l=0:=by
    have:∀(l:List Wt),(∀(j:Nat) (y:Wt),l[j]?=some y→z<y.win)→Zbr z l=0:=by
     intro l
     induction l with
     | nil=> intro _;rfl
     | cons y l ih=>
       intro h
       have h1:=ih (fun j u hu=> h (j+1) u (by simpa using hu))
       have h2:=h 0 y rfl
       simp only [Zbr,h1]
       rw [if_neg (by omega),if_neg (by omega)]
    exact this l (fun j u hu=> hj (j+1) u (by omega) (by simpa using hu))
   simp [Zbr,h0,hx]
 | y :: l,i+1,x,h,hx,hj=> by
   have:=Zd5 z l i x (by simpa using h) hx (fun j u h1 hu=> hj (j+1) u (by omega) (by simpa using hu))
   simp [Zbr,this]
theorem Zfn (z:Int):∀(l:List Wt),(∀(j:Nat) (y:Wt),l[j]?=some y→z<y.win)→Zbr z l=0
 | [],_=> rfl
 | y :: l,h=> by
   have h1:=Zfn z l (fun j u hu=> h (j+1) u (by simpa using hu))
   have h2:=h 0 y rfl
   simp only [Zbr,h1]
   rw [if_neg (by omega),if_neg (by omega)]
theorem Zkv (h:IsQ w B q a p G n W R) (hn:n≤64) (z:Int):Calls Tryz.prog 65 #[.pointer (some ⟨q,0,none⟩),.int .i64 z] w fun e w'=> e= .returned (.int .i64 (Zbr z W:Int))∧w'=w:=by
 obtain⟨⟨p0,p1,p2,p3⟩,hpw⟩:=h.cells
 have H:=zz h
 have hl:=h.len
 obtain⟨m,hm⟩:∃m,m=W.length:=⟨_,rfl⟩
 obtain⟨v,hv⟩:∃v,v=Zbr z W:=⟨_,rfl⟩
 rw [←hm] at p3 hl
 rw [←hv]
 have HM:=zz hm
 have HV:=zz hv
 have hmn:m≤n:=by omega
 clear h hm hv hl
 go_enter Tryz.func65,Tryz.ntmps65
 go_wp2_with fail
 go_loop [5] (fun iv=> ∃k:Nat,k≤m∧iv= .int .i64 ((k:Int)-1)∧Hid (∀(j:Nat) (y:Wt),k≤j→W[j]?=some y→z<y.win)) (fun iv=> (intOf iv+1).toNat)
 case atStart=> exact⟨m,Nat.le_refl _,rfl,zz (fun j y h1 h2=> by have:=(List.getElem?_eq_some_iff.1 h2).1;have:=HM.out;omega)⟩
 case round=>
  obtain⟨k,hk,rfl,HJ⟩:=hrel
  by_cases hk0:1≤k
  ·obtain⟨i,rfl⟩:∃i,k=i+1:=⟨k-1,by omega⟩
   obtain⟨x,hx⟩:∃x,W[i]?=some x:=⟨W[i]'(by rw [←HM.out];omega),by simp⟩
   have hx2:(W++R)[i]?=some x:=by rw [List.getElem?_append_left (List.getElem?_eq_some_iff.1 hx).1];exact hx
   have c0:=(H.out.at hx2).1
   have HX:=zz hx
   rw [show((i+1:Nat):Int)-1=(i:Int) by omega]
   have e1:decide ((0:Int)≤(i:Int))=true:=by simp
   have hiI:(i:Int)<(n:Int):=by omega
   have hi0:(0:Int)≤(i:Int):=by omega
   clear hx hx2
   by_cases hz:x.win≤z
   ·have e2:decide (x.win≤z)=true:=by simpa using hz
    have hV:Hid (v=i+1):=by show v=i+1;rw [HV.out];exact Zd5 z W i x HX.out hz HJ.out
    clear hz
    go_wp2_with fail
    go_ret
    exact⟨Zaa (by have:=hV.out;omega),rfl⟩
   ·have e2:decide (x.win≤z)=false:=by simpa using hz
    have HZ:Hid (z<x.win):=by show z<x.win;omega
    clear hz
    go_wp2_with fail
    go_round
    case rel=>
     refine⟨i,by omega,rfl,zz (fun j y h1 h2=> ?_)⟩
     by_cases e:j=i
     ·subst e
      rw [HX.out] at h2;injection h2 with h2;subst h2
      exact HZ.out
     ·exact HJ.out j y (by omega) h2
    case measure=> simp [intOf]
  ·obtain rfl:k=0:=by omega
   have e1:decide ((0:Int)≤(-1:Int))=false:=by decide
   have hV:Hid (v=0):=by show v=0;rw [HV.out];exact Zfn z W (fun j y h2=> HJ.out j y (by omega) h2)
   rw [show((0:Nat):Int)-1= -1 by omega]
   go_wp2_with fail
   go_ret
   exact⟨Zaa (by have:=hV.out;omega),rfl⟩
end
open Go.RowKit Cfp
def Zdf (sh:List (Int × Int)) (lv:List Int) (size c:Int):Prop:=(c=1∧(size<1∨∀x∈sh,x.1<size))∨(c=7∧∃(i:Nat) (x:Int × Int),sh[i]?=some x∧fitS sh size=i∧lv.getD i 0=x.2)
def Zvk (n:Nat) (nk:Int) (sh:List (Int × Int)) (W:List Wt) (lv:List Int) (key:List UInt8) (c:Int):Prop:=
 (W.length=n∧c=7)∨(W.length<n∧key= []∧c=3)∨(W.length<n∧255<key.length∧c=4)∨
  (W.length<n∧1≤key.length∧key.length≤255∧(Zdf sh lv 24 c∨(nk≤W.length∧c=7)∨∃lv1:List Int,(∀j,lv1.getD j 0=lv.getD j 0+if j=fitS sh 24 then 1 else 0)∧Zdf sh lv1 key.length c))
theorem Zf9 {s:Ar} {size c:Int} (h:Zix s size c):Zdf (Zak s) (Za6 s) size c:=by
 rcases h with ⟨h1,h2⟩ | ⟨h1,i,d,hd,hf,hl⟩
 ·refine .inl ⟨h1,h2.imp id fun h3 x hx=> ?_⟩
  obtain⟨d,hd,rfl⟩:=List.mem_map.1 hx
  obtain⟨i,hi⟩:=List.getElem?_of_mem hd
  exact h3 i d hi
 ·refine .inr ⟨h1,i,(d.size,d.count),by simp [Zak,hd],by rw [←Ze5];exact hf,?_⟩
  simp [Za6,List.getD,hd,hl]
inductive Int12 (w:World) (B p a mb:Nat) (nk:Int) (sh:List (Int × Int)) (W:List Wt) (E:List PE) (EA:Option Addr) (cap:Nat) (D:KD) (s s1:Ar) (L1:Nat→List Nat) (M M2:Int) (z:Hd) (key:List UInt8) (win time wgt:Int) (e:Ending) (w':World):Prop
 | no (c:Int) (he:e= .returned (.tuple #[.int .i64 0,.int .i64 c])) (h0:c≠0) (hc:(nk≤W.length∧c=7)∨∃lv1:List Int,(∀j,lv1.getD j 0=(Za6 s).getD j 0+if j=fitS sh 24 then 1 else 0)∧Zdf sh lv1 key.length c)
   (h:IsPo w' B p a nk E EA cap mb D) (hA:IsAr w' B a s1) (k:Keeps NO w w')
 | ok (id:Nat) (E':List PE) (EA':Option Addr) (cap':Nat) (D':KD) (s':Ar) (L':Nat→List Nat) (he:e= .returned (.tuple #[.int .i64 id,.int .i64 0])) (hi:QInv sh (W++ [⟨win,time,wgt,z,id,key⟩]) E' s' L' D' (M+1) (M2+1))
   (h:IsPo w' B p a nk E' EA' cap' mb D') (hA:IsAr w' B a s') (hn:(cntU E':Int)≤nk) (k:Keeps (PoS B mb w) w w')
theorem Qu.more {w:World} {B q a p mb G n:Nat} {nk:Int} {sh:List (Int × Int)} {W R:List Wt} {E:List PE} {EA:Option Addr} {cap:Nat} {D:KD} {s:Ar} {L:Nat→List Nat} {M M' M2 M2':Int} (h:Qu w B q a p mb G n nk sh W R E EA cap D s L M M2) (h1:M≤M') (h2:M2≤M2'):Qu w B q a p mb G n nk sh W R E EA cap D s L M' M2':=
 ⟨h.qu,h.po,h.ar,⟨h.iv.iv.more h2,h.iv.pv.more h1,h.iv.hsh,h.iv.hs,h.iv.nd,h.iv.us,h.iv.tx,h.iv.fq,h.iv.fe,h.iv.lv,h.iv.su,h.iv.fa⟩,h.hB,h.kn,h.n64⟩
inductive Pushes (w:World) (B q a p mb G n:Nat) (nk:Int) (sh:List (Int × Int)) (W:List Wt) (lv:List Int) (M M2:Int) (key:List UInt8) (win time wgt:Int) (e:Ending) (w':World):Prop
 | no (c:Int) (R:List Wt) (E:List PE) (EA:Option Addr) (cap:Nat) (D:KD) (s:Ar) (L:Nat→List Nat) (he:e= .returned (.int .i64 c)) (h:Qu w' B q a p mb G n nk sh W R E EA cap D s L (M+1) (M2+2)) (hlv:Za6 s=lv) (hc:Zvk n nk sh W lv key c) (k:Keeps (QuS B mb w) w w')
 | ok (hd:Hd) (id:Nat) (R:List Wt) (E:List PE) (EA:Option Addr) (cap:Nat) (D:KD) (s:Ar) (L:Nat→List Nat) (he:e= .returned (.int .i64 0)) (hl:W.length<n) (hk:1≤key.length∧key.length≤255) (h:Qu w' B q a p mb G n nk sh (W++ [⟨win,time,wgt,hd,id,key⟩]) R E EA cap D s L (M+1) (M2+2)) (k:Keeps (QuS B mb w) w w')
theorem Zkw (w:World) (B q a p mb G n:Nat) (nk:Int) (sh:List (Int × Int)) (W R:List Wt) (E:List PE) (EA:Option Addr) (cap:Nat) (D:KD) (s:Ar) (L:Nat→List Nat) (M M2:Int) (t:ByteArray) (win time wgt:Int)
  (h:Qu w B q a p mb G n nk sh W R E EA cap D s L M M2) (hl:W.length<n) (hM:M≤900000) (hM2:0≤M2∧M2<900000000) (h1:1≤t.size) (h2:t.size≤255):
  Calls Tryz.prog 61 #[.pointer (some ⟨q,0,none⟩),.int .i64 win,.agg #[.string t,.int .i64 time,.int .u64 wgt]] w (Pushes w B q a p mb G n nk sh W (Za6 s) M M2 t.data.toList win time wgt):=by
 have hlen:t.data.toList.length=t.size:=by rw [Array.length_toList];rfl
 have hne:t.toList.isEmpty=false:=by
  rw [ByteArray.toList_eq]
  rcases hx:t.data.toList with _ | _
  ·rw [hx] at hlen;simp at hlen;omega
  ·rfl
 have e1:decide ((255:Int)<(t.size:Int))=false:=by simp;omega
 have HLen:=zz hlen
 clear hlen
 have kb:=(Kz0 NO w).alloc (.cells #[.string t,.int .i64 time,.int .u64 wgt] 62)
 have HX:=zz (Blk.new w 62 #[.string t,.int .i64 time,.int .u64 wgt])
 have H1:=zz (h.quiet kb)
 have K1:=zz kb
 obtain⟨m,hm⟩:∃m,m=W.length:=⟨_,rfl⟩
 have HM:=zz hm
 have hmn:m≤n:=by have:=h.len;omega
 have hn64:=h.n64
 clear h kb hm
 go_enter Tryz.func61,Tryz.ntmps61
 go_upto_region 3 with fail
 generalize w.alloc _=w1 at*
 generalize w.heap.size=X at*
 obtain⟨⟨x0,x1,x2⟩,_,hX⟩:=HX.out.three
 obtain⟨⟨p0,p1,p2,p3⟩,hpw⟩:=H1.out.qu.cells
 rw [←HM.out] at p3
 have hmlt:m<n:=by have:=HM.out;omega
 have hmq:((m:Int)==(n:Int))=false:=by simp;omega
 clear hl
 go_quiet (fail)
 go_upto_region 9 with fail
 have kq:=(Kz0 NO w1).drewN nq
 have HX2:=zz (HX.out.kept kq (fun h=> h))
 have H2:=zz (H1.out.quiet kq)
 have K2:=zz (K1.out.trans kq)
 have hB1:=H1.out.hB
 clear kq
 generalize w1.drewN nq=w2 at*
 clear HX H1 K1 p0 p1 p2 p3 x0 x1 x2 hX hpw
 obtain⟨⟨x0,x1,x2⟩,_,hX⟩:=HX2.out.three
 obtain⟨⟨p0,p1,p2,p3⟩,hpw⟩:=H2.out.qu.cells
 rw [←HM.out] at p3
 have hB2:=H2.out.hB
 go_wp2_with fail
 refine(Zd2 B a s L M2 24 _ H2.out.ar H2.out.iv.iv (by omega) hB2).mono ?_
 rintro e w3 hal
 rcases hal with ⟨rfl,h3,k3,hr⟩ | ⟨rfl,h3,k3,hr⟩ | ⟨i,k,age,s1,L1,rfl,h3,v3,g3,hage,k3,hfit⟩
 ·have kb:=(Kz0 NO w3).alloc (.cells #[.int .i64 0,.int .i64 0,.int .i64 0] 236)
  have H3:=zz ((H2.out.quiet k3).quiet kb)
  have K3:=zz ((K2.out.trans k3).trans kb)
  have HR:Hid (Zix s 24 1):=zz (.inl ⟨rfl,hr⟩)
  clear h3 k3 kb hr H2 p0 p1 p2 p3 x0 x1 x2
  go_wp2_with fail
  go_ret
  exact .no 1 R E EA cap D s L rfl (H3.out.more (by omega) (by omega)) rfl (.inr (.inr (.inr ⟨by have:=HM.out;omega,by have:=HLen.out;omega,by have:=HLen.out;omega,.inl (by have:=Zf9 HR.out;rw [H3.out.iv.hsh] at this;exact this)⟩))) (QuS.zero (mb:=mb) K3.out)
 ·have kb:=(Kz0 NO w3).alloc (.cells #[.int .i64 0,.int .i64 0,.int .i64 0] 236)
  have H3:=zz ((H2.out.quiet k3).quiet kb)
  have K3:=zz ((K2.out.trans k3).trans kb)
  have HR:Hid (Zix s 24 7):=zz (.inr ⟨rfl,hr⟩)
  clear h3 k3 kb hr H2 p0 p1 p2 p3 x0 x1 x2
  go_wp2_with fail
  go_ret
  exact .no 7 R E EA cap D s L rfl (H3.out.more (by omega) (by omega)) rfl (.inr (.inr (.inr ⟨by have:=HM.out;omega,by have:=HLen.out;omega,by have:=HLen.out;omega,.inl (by have:=Zf9 HR.out;rw [H3.out.iv.hsh] at this;exact this)⟩))) (QuS.zero (mb:=mb) K3.out)
 ·have HY4:=zz (Blk.new w3 236 #[.int .i64 i,.int .i64 k,.int .i64 age])
  have kb:=(Kz0 NO w3).alloc (.cells #[.int .i64 i,.int .i64 k,.int .i64 age] 236)
  have HQ4:=zz ((H2.out.qu.ar k3).quiet kb)
  have HP4:=zz ((H2.out.po.ar k3).quiet kb)
  have HA4:=zz (h3.quiet kb)
  have HX4:=zz ((HX2.out.kept k3 (ArS.not HX2.out (by decide) (by decide) (by decide))).kept kb (fun h=> h))
  have K4:=zz (QuS.trans (QuS.zero (mb:=mb) K2.out) (QuS.trans (QuS.po (mb:=mb) (PoS.ar (mb:=mb) k3)) (QuS.zero (mb:=mb) kb)):Keeps (QuS B mb w) w _)
  have hB4:=Nat.le_trans hB2 (Nat.le_trans k3.size kb.size)
  have HV3:=zz v3
  have HG:=zz g3
  have HFit:=zz hfit
  have HPv:=zz (H2.out.iv.slot g3)
  have HIv:=zz H2.out.iv
  have hkn:=zz H2.out.kn
  clear h3 k3 kb v3 g3 hfit H2 HX2 K2 p0 p1 p2 p3 x0 x1 x2 hX hpw
  go_upto_region 12 with fail
  generalize w3.alloc _=w4 at*
  generalize w3.heap.size=Y at*
  obtain⟨⟨x0,x1,x2⟩,_,hX⟩:=HX4.out.three
  obtain⟨⟨p0,p1,p2,p3⟩,hpw⟩:=HQ4.out.cells
  have HI:Hid (∀wa,Keeps NO w4 wa→Calls Tryz.prog 121 #[.pointer (some ⟨p,0,none⟩),.string t] wa (Int12 w4 B p a mb nk sh W E EA cap D s s1 (L1) M (M2+1) (i,k,age) t.data.toList win time wgt)):=zz (fun wa ka=> by
   refine(Zel wa B p a mb cap nk E EA D s1 L1 M (M2+1) t (HP4.out.quiet ka) (HA4.out.quiet ka) HV3.out HPv.out hM (by omega) (by omega) (Nat.le_trans hB4 ka.size)).mono ?_
   intro e w' hi
   rcases hi with ⟨c,he,hc,h,hA,kk⟩ | ⟨id,x,he,hx,hu,hk,h,hA,v,kk⟩ | ⟨id,x,E1,EA1,cap1,i',k',age',s2,s3,L2,he,hk1,hk2,hno,hn,hE1,hx,hu,hid1,hleast,h,hA,hV,g',wr,hage',hfit',v,kk⟩
   ·refine .no c he ?_ ?_ h hA (ka.trans kk)
    ·rcases hc with ⟨_,rfl⟩ | ⟨_,rfl⟩ | ⟨_,_,_,_,rfl⟩ | ⟨_,_,_,_,⟨rfl,_⟩ | ⟨rfl,_⟩⟩ <;> omega
    ·rcases hc with ⟨h4,_⟩ | ⟨h4,_⟩ | ⟨_,_,_,h4,rfl⟩ | ⟨_,_,_,_,h4⟩
     ·have:=HLen.out;rw [h4] at this;simp at this;omega
     ·have:=HLen.out;omega
     ·exact .inl ⟨by rw [←h4];exact HIv.out.cnt,rfl⟩
     ·refine .inr ⟨Za6 s1,fun j=> ?_,?_⟩
      ·rw [Zcw HG.out j,←HFit.out,HIv.out.fit]
      ·have:=Zf9 h4
       rw [HG.out.shape,HIv.out.hsh] at this
       exact this
   ·refine .ok id _ EA cap D s1 L1 he ?_ h hA ?_ (PoS.quiet ka kk)
    ·rw [←hk]
     exact HIv.out.old HG.out HFit.out (HV3.out.more (show M2+1≤M2+1+1 by omega)) hx hu v win time wgt
    ·have:=Zbo E id x { x with users:=x.users+1} hx
     simp only [hu,show(0:Int)<x.users+1 by omega,if_true] at this
     have:=hkn.out
     omega
   ·refine .ok id _ EA1 cap1 _ s3 L2 he (HIv.out.new HG.out HFit.out hV hE1 hx hu g' wr hfit' v win time wgt) h hA ?_ (PoS.quiet ka kk)
    have hE1c:cntU E1=cntU E:=by
     rcases hE1 with rfl | rfl
     ·rfl
     ·rw [Zin];rfl
    have:=Zbo E1 id x ⟨(i',k',age'),t.data.toList,1⟩ hx
    rw [if_neg (by omega),if_pos (by show(0:Int)<1;omega)] at this
    have:=hkn.out
    omega)
  clear HP4 HPv
  have HSg:Hid (∀W,Keeps (PoS B mb w4) w4 W→(Keeps (PoS B mb w4) w4 W∧W.cell? ⟨q,1,none⟩=some (.pointer (some ⟨p,0,none⟩))∧W.cell? ⟨X,0,none⟩=some (.string t))):=zz (fun W kW=> by
   have n1:=PoS.not (mb:=mb) (B:=B) HQ4.out.blk (by decide) (by decide) (by decide) (by decide) (by decide)
   have n2:=PoS.not (mb:=mb) (B:=B) HX4.out (by decide) (by decide) (by decide) (by decide) (by decide)
   exact⟨kW,kW.cell_some p1 n1,kW.cell_some x0 n2⟩)
  refine wp_region_held_drew (S:=fun W=> Keeps (PoS B mb w4) w4 W∧W.cell? ⟨q,1,none⟩=some (.pointer (some ⟨p,0,none⟩))∧W.cell? ⟨X,0,none⟩=some (.string t)) (by kernel_rfl) (HSg.out _ ((Kz0 _ _).drew)) (fun hHeld=> ?_)
  refine tkH 0 ?_
  refine tkH 1 ?_
  refine tkH 2 ?_
  refine tkH 3 ?_
  refine tkH 4 ?_
  refine tkH 5 ?_
  refine rd1 6 (fun K hK=> ?_)
  go_simp
  go_at_call 121
  refine(HI.out _ ((Kz0 _ _).drew)).mono ?_
  intro e w5 hi
  rcases hi with ⟨c,rfl,hc0,hcw,h5,a5,k5⟩ | ⟨id,E5,EA5,cap5,D5,s5,L5,rfl,i5,h5,a5,n5,k5⟩
  ·have hcb:(c != 0)=true:=by simpa using hc0
   have HCw:=zz hcw
   have HP5:=zz h5
   have HA5:=zz a5
   have K5:=zz k5
   clear hcw h5 a5 k5 hc0 HI
   have HQ5:=zz (HQ4.out.quiet K5.out)
   have HY5:=zz (HY4.out.kept K5.out (fun h=> h))
   have hB5:B≤w5.heap.size:=Nat.le_trans hB4 K5.out.size
   refine hK.out _ _ (HSg.out _ (K5.out.weak (fun _ _ h=> h.elim))) (fun _=> ?_)
   clear hK K HSg hHeld
   (try simp only [Zpt])
   refine tkH 7 ?_
   refine tkH 8 ?_
   refine tkH 9 ?_
   refine tkH 10 ?_
   refine tkH 11 ?_
   refine wpAnyH_done (by kernel_rfl) ?_ _
   (try simp only [Zpt])
   clear p0 p1 p2 p3 x0 x1 x2 hX hpw HQ4 HY4
   obtain⟨⟨y0,y1,y2⟩,_,hY⟩:=HY5.out.three
   obtain⟨⟨p0,p1,p2,p3⟩,hpw⟩:=HQ5.out.cells
   go_upto_region 14 with fail
   have HSg:Hid (∀W,Keeps (ArS B w5) w5 W→(Keeps (ArS B w5) w5 W∧W.cell? ⟨q,0,none⟩=some (.pointer (some ⟨a,0,none⟩))∧W.cell? ⟨Y,0,none⟩=some (.int .i64 i)∧W.cell? ⟨Y,1,none⟩=some (.int .i64 k)∧W.cell? ⟨Y,2,none⟩=some (.int .i64 age))):=zz (fun W kW=> by
    have n1:=ArS.not (B:=B) HQ5.out.blk (by decide) (by decide) (by decide)
    have n2:=ArS.not (B:=B) HY5.out (by decide) (by decide) (by decide)
    exact⟨kW,kW.cell_some p0 n1,kW.cell_some y0 n2,kW.cell_some y1 n2,kW.cell_some y2 n2⟩)
   refine wp_region_held_drew (S:=fun W=> Keeps (ArS B w5) w5 W∧W.cell? ⟨q,0,none⟩=some (.pointer (some ⟨a,0,none⟩))∧W.cell? ⟨Y,0,none⟩=some (.int .i64 i)∧W.cell? ⟨Y,1,none⟩=some (.int .i64 k)∧W.cell? ⟨Y,2,none⟩=some (.int .i64 age)) (by kernel_rfl) (HSg.out _ ((Kz0 _ _).drew)) (fun hHeld=> ?_)
   refine tkH 0 ?_
   refine tkH 1 ?_
   refine tkH 2 ?_
   refine tkH 3 ?_
   refine tkH 4 ?_
   refine rd1 5 (fun K hK=> ?_)
   go_simp
   go_at_call 122
   have kd:Keeps NO w5 w5.drew:=(Kz0 _ _).drew
   have hlv:LV s1 i k age []:=(HG.out.lvs _ _ _ _).2 (.inl ⟨rfl,rfl,rfl,rfl⟩)
   refine(Zdr B a s1 L1 (M2+1) i k age [] _ (HA5.out.quiet kd) HV3.out hlv).mono ?_
   rintro e w6 ⟨rfl,⟨s6,L6,h6,v6,g6⟩,k6⟩
   have k56:=ArS.quiet kd k6
   have HA6:=zz h6
   obtain⟨qi6,lv6⟩:=HIv.out.undo HG.out g6 (v6.more (show M2+1≤M2+2 by omega))
   have HI6:=zz qi6
   have HL6:=zz lv6
   have HP6:=zz (HP5.out.ar k56)
   have HQ6:=zz (HQ5.out.ar k56)
   have K6:=zz (QuS.trans K4.out (QuS.trans (QuS.zero (mb:=mb) K5.out) (QuS.po (mb:=mb) (PoS.ar (mb:=mb) k56))))
   have hB6:B≤w6.heap.size:=Nat.le_trans hB5 k56.size
   try go_wp2_with fail
   refine hK.out _ _ (HSg.out _ k56) (fun _=> ?_)
   clear hK K HSg hHeld kd k6 k56 h6 qi6 lv6 v6 g6 hlv
   (try simp only [Zpt])
   refine wpAnyH_done (by kernel_rfl) ?_ _
   (try simp only [Zpt])
   go_wp2_with fail
   go_ret
   exact .no c R E EA cap D s6 L6 rfl (Qu.more ⟨HQ6.out,HP6.out,HA6.out,HI6.out,hB6,hkn.out,hn64⟩ (by omega) (Int.le_refl _)) HL6.out (.inr (.inr (.inr ⟨by have:=HM.out;omega,by have:=HLen.out;omega,by have:=HLen.out;omega,.inr HCw.out⟩))) K6.out
  ·have HI5:=zz i5
   have HP5:=zz h5
   have HA5:=zz a5
   have HN5:=zz n5
   have K5:=zz k5
   have HQ5:=zz (HQ4.out.pos k5)
   have HY5:=zz (HY4.out.kept k5 (PoS.not (mb:=mb) HY4.out (by decide) (by decide) (by decide) (by decide) (by decide)))
   have HX5:=zz (HX4.out.kept k5 (PoS.not (mb:=mb) HX4.out (by decide) (by decide) (by decide) (by decide) (by decide)))
   have hB5:B≤w5.heap.size:=Nat.le_trans hB4 K5.out.size
   refine hK.out _ _ (HSg.out _ k5) (fun _=> ?_)
   clear hK K HSg hHeld i5 h5 a5 n5 k5 HI
   (try simp only [Zpt])
   refine tkH 7 ?_
   refine tkH 8 ?_
   refine tkH 9 ?_
   refine tkH 10 ?_
   refine tkH 11 ?_
   refine wpAnyH_done (by kernel_rfl) ?_ _
   (try simp only [Zpt])
   clear p0 p1 p2 p3 x0 x1 x2 hX hpw HQ4 HY4 HX4
   obtain⟨⟨y0,y1,y2⟩,_,hY⟩:=HY5.out.three
   obtain⟨⟨x0,x1,x2⟩,_,hX⟩:=HX5.out.three
   obtain⟨⟨p0,p1,p2,p3⟩,hpw⟩:=HQ5.out.cells
   rw [←HM.out] at p3
   have hRl:R.length=n-m:=by have:=HQ5.out.len;have:=HM.out;omega
   obtain⟨z0,hz0⟩:∃z,(W++R)[m]?=some z:=⟨(W++R)[m]'(by rw [List.length_append];have:=HM.out;omega),by simp⟩
   obtain⟨c0,c1,c2,c3,c4,c5,c6⟩:=HQ5.out.at hz0
   have ff:=fun j=> HQ5.out.own.frozen j
   have f0:=ff (m*7)
   have f1:=ff (m*7+1)
   have f2:=ff (m*7+2)
   have f3:=ff (m*7+3)
   have f4:=ff (m*7+4)
   have f5:=ff (m*7+5)
   have f6:=ff (m*7+6)
   have hmI:(m:Int)<(n:Int):=by omega
   have hm0:(0:Int)≤(m:Int):=by omega
   clear hRl hz0 ff
   go_upto_region 16 with fail
   go_region
   obtain⟨qa,ka⟩:=HQ5.out.add (by have:=HM.out;omega) ⟨win,time,wgt,(i,k,age),id,t.data.toList⟩
   rw [←HM.out] at qa ka
   dsimp only at qa ka
   have HQ6:=zz (qa.quiet ((Kz0 NO _).drew))
   have HP6:=zz ((HP5.out.kept ka (fun b hb=> HQ5.out.othP (.inr hb))).quiet ((Kz0 NO _).drew))
   have HA6:=zz ((HA5.out.kept ka (fun b hb=> HQ5.out.othQ (.inr hb))).quiet ((Kz0 NO _).drew))
   have K6:=zz (QuS.trans (QuS.trans K4.out (QuS.po (mb:=mb) K5.out)) (Keeps.drew (ka.weak (S':=QuS B mb w5) (fun b _ hb=> by subst hb;exact HQ5.out.inG))))
   have hB6:=Nat.le_trans hB5 ((Keeps.drew ka).size)
   clear qa ka HQ5 HP5 HA5 K4 K5 HY5 HX5 y0 y1 y2 hY x0 x1 x2 hX c0 c1 c2 c3 c4 c5 c6 f0 f1 f2 f3 f4 f5 f6 p0 p1 p2 p3 hpw hB5
   generalize World.drew _=w6 at*
   obtain⟨⟨p0,p1,p2,p3⟩,hpw⟩:=HQ6.out.cells
   rw [←HM.out] at p3
   have fq:=HQ6.out.blk.frozen 3
   obtain⟨qb,kb⟩:=HQ6.out.count (W':=W++ [⟨win,time,wgt,(i,k,age),id,t.data.toList⟩]) (R':=R.tail) (by simp) ((m:Int)+1) (by have:=HM.out;simp;omega)
   have HQ7:=zz qb
   have HP7:=zz (HP6.out.kept kb (fun b hb=> HQ6.out.othP (.inl hb)))
   have HA7:=zz (HA6.out.kept kb (fun b hb=> HQ6.out.othQ (.inl hb)))
   have K7:=zz (QuS.trans K6.out (kb.weak (S':=QuS B mb w6) (fun b _ hb=> by subst hb;exact HQ6.out.inQ)))
   have hB7:=Nat.le_trans hB6 kb.size
   clear qb kb HQ6 HP6 HA6 K6
   go_wp2_with fail
   go_ret
   exact .ok (i,k,age) id R.tail E5 EA5 cap5 D5 s5 L5 rfl (by have:=HM.out;omega) ⟨by have:=HLen.out;omega,by have:=HLen.out;omega⟩ (Qu.more ⟨HQ7.out,HP7.out,HA7.out,HI5.out,hB7,HN5.out,hn64⟩ (Int.le_refl _) (by omega)) K7.out
end Go.Proofs.YtjamiaamngalgaaGreat
