/-
  Parts: Summaries in memory; sum; summary.Bounds: the inde; summary.Bounds by its co; summary.entry: the error; summar. No conditions beyond those of the statement.
-/
import Derived.Test.YtjamiaamngalgaaGreatG27
import Derived.Test.YtjamiaamngalgaaGreatG30
import Derived.Test.YtjamiaamngalgaaGreatG09
import Derived.Deep.CutRange
import Derived.Deep.RegionHeld3
import Derived.Test.YtjamiaamngalgaaGreatG00
import Derived.OrdersHeld
import Derived.Deep.CutBlock
import Derived.Deep.Quiet
import Derived.Deep.QuietTactic
set_option linter.unusedVariables false
set_option linter.unusedSimpArgs false
set_option maxRecDepth 1000000
set_option maxHeartbeats 4000000
namespace Go.Proofs.YtjamiaamngalgaaGreat
open Go.RowKit Cfp
abbrev smV (tot:Int) (A:Option Addr) (n cA:Nat) (un:Int) (R:Option Addr) (m cR:Nat):Value:= .agg #[.int .u64 tot,.slice A n cA,.int .u64 un,.slice R m cR]
abbrev smC (tot:Int) (A:Option Addr) (n cA:Nat) (un:Int) (R:Option Addr) (m cR:Nat):Array Value:= #[.int .u64 tot,.slice A n cA,.int .u64 un,.slice R m cR]
structure SmIn (w:World) (B:Nat) (A:Option Addr) (n:Nat) (l:List Ln) (R:Option Addr) (m:Nat) (F:Zaq):Prop where
 len:l.length=n
 ents:Rd w B A 3 n (lnCs l)
 rows:Rd w B R 1 m ((List.range m).map fun j=> .slice (F j).1 (F j).2.1 (F j).2.2.1)
 rrd:RowsRd w B .u64 m F
 num:∀x∈l,U x.lo∧U x.hi∧x.key.size≤140737488351232
 n1:n≤1000000
 m1:m≤1000000
theorem RowsRd.kept {w w':World} {B m:Nat} {F:Zaq} {S:Nat→Prop} (h:RowsRd w B .u64 m F) (k:Keeps S w w') (hs:∀b,b<B→¬S b):RowsRd w' B .u64 m F:=
 fun j hj=> ⟨(h j hj).1.kept k hs,(h j hj).2⟩
theorem RowsRd.more {w:World} {B B' m:Nat} {F:Zaq} (h:RowsRd w B .u64 m F) (hB:B≤B'):RowsRd w B' .u64 m F:=
 fun j hj=> ⟨(h j hj).1.more hB,(h j hj).2⟩
theorem SmIn.kept {w w':World} {B n m:Nat} {A R:Option Addr} {l:List Ln} {F:Zaq} {S:Nat→Prop} (h:SmIn w B A n l R m F) (k:Keeps S w w') (hs:∀b,b<B→¬S b):SmIn w' B A n l R m F:=
 ⟨h.len,h.ents.kept k hs,h.rows.kept k hs,h.rrd.kept k hs,h.num,h.n1,h.m1⟩
theorem SmIn.more {w:World} {B B' n m:Nat} {A R:Option Addr} {l:List Ln} {F:Zaq} (h:SmIn w B A n l R m F) (hB:B≤B'):SmIn w B' A n l R m F:=
 ⟨h.len,h.ents.more hB,h.rows.more hB,h.rrd.more hB,h.num,h.n1,h.m1⟩
def estS (tot:Int) (m:Nat) (F:Zaq) (zs:List Int) (seed:Int) (k:List UInt8):Int:=if m=0 then tot else Cmp.ofV (Cmp.rowsL F m) zs seed k
section
theorem Zsu (w:World) (B:Nat) (c:Cfg) (C T:Option Addr) (n0 k0 q j:Nat) (zs:List Int) (ht:Rd w B T 1 q (zs.map (.int .u64))) (hzb:∀z∈zs,0≤z∧z<18446744073709551616) (hs:0≤c.seed∧c.seed<18446744073709551616)
  (tot un:Int) (A R:Option Addr) (n cA m cR:Nat) (l:List Ln) (F:Zaq) (h:SmIn w B A n l R m F) (s:ByteArray) (hk:s.size≤140737488351232):
  Calls Tryz.prog 249 #[Value.agg (cfC c C n0 k0 T q j),smV tot A n cA un R m cR,.string s] w fun e w'=> e= .returned (.int .u64 (estS tot m F zs c.seed s.data.toList))∧Keeps NO w w':=by
 obtain⟨w2,hw2⟩:∃w2,w2=(w.alloc (.cells (cfC c C n0 k0 T q j) 27)).alloc (.cells (smC tot A n cA un R m cR) 78):=⟨_,rfl⟩
 have k2:Keeps NO w w2:=by rw [hw2];exact((Kz0 _ _).alloc _).alloc _
 have b3:Blk w2 w.heap.size 27 (cfC c C n0 k0 T q j):=by rw [hw2];exact(Blk.new _ _ _).alloc _
 have b4:Blk w2 (w.heap.size+1) 78 (smC tot A n cA un R m cR):=by rw [hw2];exact Blk.new_at _ _ _ _ (by simp)
 have h2:=h.kept k2 (fun _ _ h=> h)
 have hO:=zz (Zua (w:=w2) (c0:=cR) (ct:=j) h2.rows h2.rrd h2.m1 (ht.kept k2 (fun _ _ h=> h)) hzb c.seed hs.1 hs.2 s hk)
 have c0:w2.cell? ⟨w.heap.size+1,0,none⟩=some (.int .u64 tot):=b4.cell 0
 have c3:w2.cell? ⟨w.heap.size+1,3,none⟩=some (.slice R m cR):=b4.cell 3
 have c15:w2.cell? ⟨w.heap.size,15,none⟩=some (.slice T q j):=b3.cell 15
 have c16:w2.cell? ⟨w.heap.size,16,none⟩=some (.int .u64 c.seed):=b3.cell 16
 have K2:=zz k2
 have HW2:=zz hw2
 clear hw2 k2 b3 b4 h2 h ht hzb hs
 by_cases hm:m=0
 ·have e1:((m:Int)==0)=true:=by simp [hm]
  have hE:Hid (estS tot m F zs c.seed s.data.toList=tot):=zz (if_pos hm)
  rw [hE.out]
  clear hm hE
  go_enter Tryz.func249,Tryz.ntmps249
  go_upto_region 1 with fail
  rw [←HW2.out]
  go_wp2_with fail
  go_ret
  exact⟨rfl,K2.out⟩
 ·have e1:((m:Int)==0)=false:=by simp [hm]
  have hE:Hid (estS tot m F zs c.seed s.data.toList=Cmp.ofV (Cmp.rowsL F m) zs c.seed s.data.toList):=zz (if_neg hm)
  rw [hE.out]
  clear hm hE
  go_enter Tryz.func249,Tryz.ntmps249
  go_upto_region 1 with fail
  rw [←HW2.out]
  go_wp2_with fail
  refine(hO.out).mono ?_
  rintro e w3 ⟨rfl,nq,rfl⟩
  go_wp2_with fail
  go_ret
  exact⟨rfl,K2.out.drewN nq⟩
end
open Go.RowKit Cfp
def Zcg (l:List Ln) (k:ByteArray):Nat:=l.findIdx (fun x=> x.key.toList==k.toList)
theorem Zon (l:List Ln) (k:ByteArray):Zcg l k≤l.length:=List.findIdx_le_length
theorem Zom {l:List Ln} {k:ByteArray} {i:Nat} {x:Ln} (h:l[i]?=some x) (hs:(x.key.toList==k.toList)=true) (hb:∀(j:Nat) (d:Ln),j<i→l[j]?=some d→(d.key.toList==k.toList)=false):Zcg l k=i:=by
 obtain⟨hi,he⟩:=List.getElem?_eq_some_iff.1 h
 unfold Zcg
 rw [List.findIdx_eq hi]
 exact⟨by rw [he];exact hs,fun j hj=> hb j _ hj (List.getElem?_eq_getElem (by omega))⟩
theorem Zol {l:List Ln} {k:ByteArray} (hb:∀(j:Nat) (d:Ln),l[j]?=some d→(d.key.toList==k.toList)=false):Zcg l k=l.length:=by
 unfold Zcg
 rw [List.findIdx_eq_length]
 intro c hc
 obtain⟨j,hj,he⟩:=List.getElem_of_mem hc
 exact hb j c (by rw [List.getElem?_eq_getElem hj,he])
theorem Zs3 (x:Ln) (k:ByteArray) (q:Nat) (W:World) (hb:W.cell? ⟨q,0,none⟩=some (.string k)):
  Calls Tryz.prog 246 #[.agg #[.string x.key,.int .u64 x.lo,.int .u64 x.hi],.pointer (some ⟨q,0,none⟩)] W fun e w'=> e= .returned (.bool (x.key.toList==k.toList))∧Keeps NO W w':=by
 have k1:=(Kz0 NO W).alloc (.cells #[.string x.key,.int .u64 x.lo,.int .u64 x.hi] 263)
 have b1:=Blk.new W 263 #[.string x.key,.int .u64 x.lo,.int .u64 x.hi]
 have q0:(W.alloc (.cells #[.string x.key,.int .u64 x.lo,.int .u64 x.hi] 263)).cell? ⟨W.heap.size,0,none⟩=some (.string x.key):=b1.cell 0
 have qb:=k1.cell_some hb (fun h=> h)
 have K1:=zz k1
 clear k1 b1
 go_enter Tryz.func246,Tryz.ntmps246
 go_wp2_with fail
 go_ret
 exact⟨by simp,K1.out⟩
def idxQ (k n:Nat):Int:=if k<n then(k:Int) else-1
theorem Zhd {k n:Nat} (h:k<n):idxQ k n=k:=if_pos h
theorem Zhc (n:Nat):idxQ n n= -1:=if_neg (by omega)
theorem Zos (B:Nat) (A:Option Addr) (l:List Ln) (n cap:Nat) (k:ByteArray) (q:Nat) (w:World) (hr:Rd w B A 3 n (lnCs l)) (hb:w.cell? ⟨q,0,none⟩=some (.string k)) (hn:n≤1000000):
  Calls Tryz.prog 245 #[.slice A n cap,.func (.func 246) #[] #[.pointer (some ⟨q,0,none⟩)]] w fun e w'=> e= .returned (.int .i64 (idxQ (Zcg l k) n))∧Keeps NO w w':=by
 have HO:=zz hr
 have HB:=zz hb
 have HL:=zz (Zbn hr)
 obtain⟨rv,hrv⟩:∃rv,rv=idxQ (Zcg l k) n:=⟨_,rfl⟩
 rw [←hrv]
 have HRV:=zz hrv
 clear hr hb hrv
 go_enter Tryz.func245,Tryz.ntmps245
 go_wp2_with fail
 go_loopw [5,8] (fun _ iv wr=> ∃i:Nat,i≤n∧iv= .int .i64 i∧Hid (∀(j:Nat) (d:Ln),j<i→l[j]?=some d→(d.key.toList==k.toList)=false)∧Hid (Keeps NO w wr)) (fun _ iv _=> n-(intOf iv).toNat)
 case atStart=> exact⟨0,by omega,rfl,zz (fun j d h=> by omega),zz (Kz0 _ _)⟩
 case round=>
  obtain⟨i,hi,rfl,HJ,KR⟩:=hrel
  by_cases hlt:i<n
  ·have HLT:Hid (i+1≤n):=hlt
   have hil:i<l.length:=by rw [HL.out];exact hlt
   obtain⟨x,hx⟩:∃x,l[i]?=some x:=⟨l[i]'hil,by simp⟩
   obtain⟨b,off,rfl,hbB,c0,c1,c2⟩:=Zc7 (HO.out.kept KR.out (fun _ _ h=> h)) hx (by omega)
   have hiI:(i:Int)<(n:Int):=by omega
   have hi0:(0:Int)≤(i:Int):=by omega
   have HX:=zz hx
   have HW:=zz (Zs3 x k q wr (KR.out.cell_some HB.out (fun h=> h)))
   clear hil hx
   by_cases hs:(x.key.toList==k.toList)=true
   ·rw [hs] at HW
    have HV:Hid (rv=i):=by
     show rv=i
     rw [HRV.out,Zom HX.out hs HJ.out,Zhd hlt]
    clear hs
    go_wp2_with fail
    refine HW.out.mono ?_
    rintro e w2 ⟨rfl,k2⟩
    have K2:=zz (KR.out.trans k2)
    clear k2
    go_wp2_with fail
    go_ret
    exact⟨Zaa HV.out.symm,K2.out⟩
   ·have hs:(x.key.toList==k.toList)=false:=by simpa using hs
    rw [hs] at HW
    have HS:=zz hs
    clear hs
    go_wp2_with fail
    refine HW.out.mono ?_
    rintro e w2 ⟨rfl,k2⟩
    have K2:=zz (KR.out.trans k2)
    clear k2
    go_wp2_with fail
    go_roundw
    case rel=>
     refine⟨i+1,HLT.out,by go_num,zz (fun j d hj hd=> ?_),K2⟩
     rcases Nat.lt_or_ge j i with h | h
     ·exact HJ.out j d h hd
     ·obtain rfl:j=i:=by omega
      rw [HX.out] at hd;injection hd with hd;subst hd;exact HS.out
    case measure=> have:=HLT.out;simp [intOf];omega
  ·obtain rfl:i=n:=by omega
   have HV:Hid (rv= -1):=by
    show rv= -1
    rw [HRV.out,Zol (fun j d hd=> HJ.out j d (by rw [←HL.out];exact(List.getElem?_eq_some_iff.1 hd).1) hd),HL.out,Zhc]
   go_wp2_with fail
   go_ret
   exact⟨Zaa HV.out.symm,KR.out⟩
open Go.RowKit Cfp
namespace sbd
def findReg (q:Nat):Code→Option Code
 | .region id ops b=> if id=q then some (.region id ops b) else none
 | .loop c=> findReg q c
 | .seq a b=> match findReg q a with
   | some c=> some c
   | none=> findReg q b
 | .block _ c=> findReg q c
 | .scope c=> findReg q c
 | .cond _ a b=> match findReg q a with
   | some c=> some c
   | none=> findReg q b
 | _=> none
def NormPost (W:Act→World→Prop):Exit→Act→World→Prop
 | .normal,a,w=> W a w
 | _,_,_=> False
noncomputable def rg5:Code:=((Tryz.f204.body.bind (findReg 5)).getD .skip)
def Rds (X3 X4 X5 X8:Nat) (cs ss:Array Value) (k:ByteArray) (lo hi:Int) (w:World):Prop:=
 Blk w X3 27 cs∧w.cell? ⟨X4,0,none⟩=ss[0]?∧w.cell? ⟨X4,1,none⟩=ss[1]?∧w.cell? ⟨X4,2,none⟩=ss[2]?∧w.cell? ⟨X4,3,none⟩=ss[3]?∧w.cell? ⟨X5,0,none⟩=some (.string k)∧w.cell? ⟨X8,0,none⟩=some (.int .u64 lo)∧w.cell? ⟨X8,1,none⟩=some (.int .u64 hi)
theorem reg5 (w1:World) (X3 X4 X5 X6 X8:Nat) (c:Cfg) (C T:Option Addr) (n0 k0 q j:Nat) (tot un:Int) (A R:Option Addr) (n cA m cR:Nat) (k:ByteArray) (lo hi est iv:Int)
  (HE:Hid (∀W,Keeps NO w1 W→Calls Tryz.prog 249 #[Value.agg (cfC c C n0 k0 T q j),smV tot A n cA un R m cR,.string k] W fun e w'=> e= .returned (.int .u64 est)∧Keeps NO W w'))
  (b3:Blk w1 X3 27 (cfC c C n0 k0 T q j)) (b4:Blk w1 X4 78 (smC tot A n cA un R m cR)) (b5:Blk w1 X5 9 #[.string k]) (b6:Blk w1 X6 103 (bndC 0 0)) (b8:Blk w1 X8 103 (bndC lo hi))
  (hne:X3≠X6∧X4≠X6∧X5≠X6∧X8≠X6) (s0 s1 s2 s7 s10 s11 s12 s13 s14 s15 s16 s17 s18 s19 s20 s21 s22 s23 s24 s25 s26 s27 s28 s29 s30 s31 s32:Value):
  Code.wp Tryz.prog rg5 (NormPost fun a' w'=> (Blk w' X6 103 (bndC (imin lo est) (imin hi est))∧Keeps (· =X6) w1 w')∧(∃u25 u26 u27 u28 u29 u30 u31 u32:Value,a'=⟨#[s0,s1,s2,.pointer (some ⟨X3,0,none⟩),.pointer (some ⟨X4,0,none⟩),.pointer (some ⟨X5,0,none⟩),.pointer (some ⟨X6,0,none⟩),.bool (decide (0≤iv)),.pointer (some ⟨X8,0,none⟩),.int .i64 iv,s10,s11,s12,s13,s14,s15,s16,s17,s18,s19,s20,s21,s22,s23,s24,u25,u26,u27,u28,u29,u30,u31,u32],[]⟩)) ⟨#[s0,s1,s2,.pointer (some ⟨X3,0,none⟩),.pointer (some ⟨X4,0,none⟩),.pointer (some ⟨X5,0,none⟩),.pointer (some ⟨X6,0,none⟩),s7,.pointer (some ⟨X8,0,none⟩),.int .i64 iv,s10,s11,s12,s13,s14,s15,s16,s17,s18,s19,s20,s21,s22,s23,s24,s25,s26,s27,s28,s29,s30,s31,s32],[]⟩ w1:=by
 have HRd:Hid (∀W,Keeps (· =X6) w1 W→Rds X3 X4 X5 X8 (cfC c C n0 k0 T q j) (smC tot A n cA un R m cR) k lo hi W):=zz (fun W kW=> ⟨b3.kept kW hne.1,(b4.kept kW hne.2.1).cell 0,(b4.kept kW hne.2.1).cell 1,(b4.kept kW hne.2.1).cell 2,(b4.kept kW hne.2.1).cell 3,(b5.kept kW hne.2.2.1).cell 0,(b8.kept kW hne.2.2.2).cell 0,(b8.kept kW hne.2.2.2).cell 1⟩)
 have B6:=zz b6
 have k0':Keeps NO w1 w1.drew:=(Kz0 _ _).drew
 have KK:Hid (∀W,Keeps NO w1 W→Keeps (· =X6) w1 W):=zz (fun W kW=> (Kz0 (· =X6) w1).step kW (fun _ _ h=> h.elim))
 clear b3 b4 b5 b6 b8
 conv=> arg 2;whnf
 dsimp only
 refine wp_region_held_drew (S:=Rds X3 X4 X5 X8 (cfC c C n0 k0 T q j) (smC tot A n cA un R m cR) k lo hi) (by kernel_rfl) (HRd.out _ (KK.out _ k0')) (fun hHeld=> ?_)
 refine tkH 0 ?_ (hy:=by intro w hSw; (try dsimp only at hSw);obtain⟨h0,h1,h2,h3,h4,h5,h6,h7⟩:=hSw;go_simp;try (with_reducible rfl))
 refine wpAnyH_take (i:=1) (v:=_) rfl (by kernel_rfl) (by kernel_rfl) (by kernel_rfl) (fun _ _ _ h=> h) (Zbg (c:=c) (C:=C) (T:=T) (n:=n0) (k:=k0) (q:=q) (j:=j) (g:=X3) (.tmp 3) rfl (fun _ h=> h.1) (by simp [Act.eval,Act.put]) (by kernel_rfl)) (by assumption) ?_
 (try simp only [Zpt])
 refine tkH 2 ?_ (hy:=by intro w hSw; (try dsimp only at hSw);obtain⟨h0,h1,h2,h3,h4,h5,h6,h7⟩:=hSw;go_simp;try (with_reducible rfl))
 refine tkH 3 ?_ (hy:=by intro w hSw; (try dsimp only at hSw);obtain⟨h0,h1,h2,h3,h4,h5,h6,h7⟩:=hSw;go_simp;try (with_reducible rfl))
 refine tkH 6 ?_ (hy:=by intro w hSw; (try dsimp only at hSw);obtain⟨h0,h1,h2,h3,h4,h5,h6,h7⟩:=hSw;go_simp;try (with_reducible rfl))
 refine tkH 7 ?_ (hy:=by intro w hSw; (try dsimp only at hSw);obtain⟨h0,h1,h2,h3,h4,h5,h6,h7⟩:=hSw;go_simp;try (with_reducible rfl))
 refine rd1 4 (fun K hK=> ?_)
 go_simp
 go_at_call 249
 refine(HE.out _ k0').mono ?_
 rintro e W1 ⟨rfl,kk⟩
 have k1:=k0'.trans kk
 try go_wp2_with fail
 refine hK.out _ _ (HRd.out _ (KK.out _ k1)) (fun hHeld=> ?_)
 clear hK K kk
 (try simp only [Zpt])
 refine rd1 5 (fun K hK=> ?_)
 go_simp
 go_at_call 248
 refine(Zpl lo hi est W1).mono ?_
 rintro e W2 ⟨rfl,kk⟩
 have k2:=k1.trans kk
 try go_wp2_with fail
 refine hK.out _ _ (HRd.out _ (KK.out _ k2)) (fun hHeld=> ?_)
 clear hK K kk
 (try simp only [Zpt])
 have B6:=zz (B6.out.kept k2 (fun h=> h))
 have q0:=B6.out.cell 0
 have q1:=B6.out.cell 1
 have f0:=B6.out.frozen 0
 have f1:=B6.out.frozen 1
 have hw2:=KK.out _ k2
 refine rd1 8 (fun K hK=> ?_)
 go_simp
 have kS:Keeps (· =X6) W2 ((W2.setCell ⟨X6,0,none⟩ (.int .u64 (imin lo est))).setCell ⟨X6,1,none⟩ (.int .u64 (imin hi est))):=Keeps.setCell (S:=(· =X6)) (p:=⟨X6,1,none⟩) (Keeps.setCell (S:=(· =X6)) (p:=⟨X6,0,none⟩) (Kz0 _ _) (.inl rfl) _) (.inl rfl) _
 have bS:=(B6.out.set 0 (.int .u64 (imin lo est))).set 1 (.int .u64 (imin hi est))
 have kT:=hw2.trans kS
 refine hK.out _ _ (HRd.out _ kT) (fun hHeld=> ?_)
 clear hK K
 (try simp only [Zpt])
 refine tkH 9 ?_ (hy:=by intro w hSw; (try dsimp only at hSw);obtain⟨h0,h1,h2,h3,h4,h5,h6,h7⟩:=hSw;go_simp;try (with_reducible rfl))
 refine wpAnyH_done (by kernel_rfl) ?_ _
 refine⟨⟨bS,kT⟩,⟨_,_,_,_,_,_,_,_,rfl⟩⟩
end sbd
def loS (l:List Ln) (k:ByteArray):Int:=match l[Zcg l k]? with
 | some x=> x.lo
 | none=> 0
def hiS (l:List Ln) (un:Int) (k:ByteArray):Int:=match l[Zcg l k]? with
 | some x=> Sat.add x.lo x.hi
 | none=> un
theorem Zh4 (w:World) (B:Nat) (c:Cfg) (C T:Option Addr) (n0 k0 q j:Nat) (zs:List Int) (ht:Rd w B T 1 q (zs.map (.int .u64))) (hzb:∀z∈zs,0≤z∧z<18446744073709551616) (hs:0≤c.seed∧c.seed<18446744073709551616)
  (tot un:Int) (A R:Option Addr) (n cA m cR:Nat) (l:List Ln) (F:Zaq) (h:SmIn w B A n l R m F) (hB:B≤w.heap.size) (k:ByteArray) (hk:k.size≤140737488351232):
  Calls Tryz.prog 204 #[Value.agg (cfC c C n0 k0 T q j),smV tot A n cA un R m cR,.string k] w fun e w'=> e= .returned (.tuple #[bnd (imin (loS l k) (estS tot m F zs c.seed k.data.toList)) (imin (hiS l un k) (estS tot m F zs c.seed k.data.toList)),.bool (decide (Zcg l k<n))])∧Keeps NO w w':=by
 obtain⟨w5,hw5⟩:∃w5,w5=((((w.alloc (.cells (cfC c C n0 k0 T q j) 27)).alloc (.cells (smC tot A n cA un R m cR) 78)).alloc (.cells #[.string k] 9)).alloc (.cells (bndC 0 0) 103)).alloc (.cells (bndC 0 un) 103):=⟨_,rfl⟩
 obtain⟨g,hg⟩:∃g,g=w.heap.size:=⟨_,rfl⟩
 have k5:Keeps NO w w5:=by rw [hw5];exact(((((Kz0 _ _).alloc _).alloc _).alloc _).alloc _).alloc _
 have b3:Blk w5 g 27 (cfC c C n0 k0 T q j):=by rw [hw5,hg];exact((((Blk.new _ _ _).alloc _).alloc _).alloc _).alloc _
 have b4:Blk w5 (g+1) 78 (smC tot A n cA un R m cR):=by rw [hw5,hg];exact(((Blk.new_at _ _ _ _ (by simp)).alloc _).alloc _).alloc _
 have b5:Blk w5 (g+1+1) 9 #[.string k]:=by rw [hw5,hg];exact((Blk.new_at _ _ _ _ (by simp)).alloc _).alloc _
 have b6:Blk w5 (g+1+1+1) 103 (bndC 0 0):=by rw [hw5,hg];exact(Blk.new_at _ _ _ _ (by simp)).alloc _
 have b8:Blk w5 (g+1+1+1+1) 103 (bndC 0 un):=by rw [hw5,hg];exact Blk.new_at _ _ _ _ (by simp)
 have h5:=h.kept k5 (fun _ _ h=> h)
 have t5:=ht.kept k5 (fun _ _ h=> h)
 have HE:=zz (fun(S:Nat→Prop) (hS:∀b,b<B→¬S b) W (kW:Keeps S w5 W)=> Zsu W B c C T n0 k0 q j zs (t5.kept kW hS) hzb hs tot un A R n cA m cR l F (h5.kept kW hS) k hk)
 obtain⟨est,hest⟩:∃est,est=estS tot m F zs c.seed k.data.toList:=⟨_,rfl⟩
 rw [←hest] at HE ⊢
 have hIX:=zz (Zos B A l n cA k (g+1+1) w5 h5.ents (b5.cell 0) h5.n1)
 obtain⟨LO,hLO⟩:∃v,v=loS l k:=⟨_,rfl⟩
 obtain⟨HI,hHI⟩:∃v,v=hiS l un k:=⟨_,rfl⟩
 obtain⟨FB,hFB⟩:∃v,v=decide (Zcg l k<n):=⟨_,rfl⟩
 obtain⟨iv,hiv⟩:∃v,v=idxQ (Zcg l k) n:=⟨_,rfl⟩
 rw [←hLO,←hHI,←hFB]
 rw [←hiv] at hIX
 have HLO:=zz hLO
 have HHI:=zz hHI
 have HFB:=zz hFB
 have HIV:=zz hiv
 clear hLO hHI hFB hiv
 have B3:=zz b3
 have B4:=zz b4
 have B5:=zz b5
 have B6:=zz b6
 have B8:=zz b8
 have K5:=zz k5
 have H5:=zz h5
 have c41:w5.cell? ⟨g+1,1,none⟩=some (.slice A n cA):=b4.cell 1
 have c42:w5.cell? ⟨g+1,2,none⟩=some (.int .u64 un):=b4.cell 2
 have c50:w5.cell? ⟨g+1+1,0,none⟩=some (.string k):=b5.cell 0
 have HW5:=zz hw5
 have HG:=zz hg
 have hmf:∀(fn:Fn) (first cap:Array Value) (w:World),(Instr.makeFunc fn first cap).run Tryz.prog w= .ok (.func fn first cap) w:=fun _ _ _ _=> rfl
 clear hw5 b3 b4 b5 b6 b8 k5 h5 t5 h ht hzb hest hg
 go_enter Tryz.func204,Tryz.ntmps204
 go_upto_region 2 with fail
 rw [←HW5.out]
 have HGs:Hid (w.heap.size=g):=zz HG.out.symm
 clear HW5 HG
 generalize hgs:w.heap.size=gs at*
 obtain rfl:gs=g:=HGs.out
 clear HGs
 have hn1:=H5.out.n1
 go_wp2_with fail
 refine hIX.out.mono ?_
 rintro e w6 ⟨rfl,k6⟩
 have B3:=zz (B3.out.kept k6 (fun h=> h))
 have B4:=zz (B4.out.kept k6 (fun h=> h))
 have B5:=zz (B5.out.kept k6 (fun h=> h))
 have B6:=zz (B6.out.kept k6 (fun h=> h))
 have B8:=zz (B8.out.kept k6 (fun h=> h))
 have K6:=zz (K5.out.trans k6)
 have H6:=zz (H5.out.kept k6 (fun _ _ h=> h))
 have K56:=zz k6
 have hs56:=k6.size
 have hlen:=H6.out.len
 clear k6 K5 H5 hIX c41 c42 c50 hmf
 obtain⟨p,hp⟩:∃p,p=Zcg l k:=⟨_,rfl⟩
 have hple:p≤n:=by have:=Zon l k;omega
 by_cases hf:p<n
 ·obtain⟨x,hx⟩:∃x,l[p]?=some x:=⟨l[p]'(by omega),List.getElem?_eq_getElem _⟩
  obtain rfl:LO=x.lo:=by have:=HLO.out;unfold loS at this;rw [←hp,hx] at this;exact this
  obtain rfl:HI=Sat.add x.lo x.hi:=by have:=HHI.out;unfold hiS at this;rw [←hp,hx] at this;exact this
  obtain rfl:iv=(p:Int):=by rw [HIV.out,←hp,Zhd hf]
  have HFB':Hid (FB=decide ((0:Int)≤(p:Int))):=zz (by rw [HFB.out,←hp];simp [hf])
  obtain⟨b,off,rfl,hbB,c0,c1,c2⟩:=Zc7 H6.out.ents hx (by omega)
  have hU:=H6.out.num x (List.mem_of_getElem? hx)
  have c41:w6.cell? ⟨gs+1,1,none⟩=some (.slice (some ⟨b,off,none⟩) n cA):=B4.out.cell 1
  have hp0:(0:Int)≤(p:Int):=by omega
  have hp1:(p:Int)<(n:Int):=by omega
  clear HLO HHI HIV HFB hx hp hlen
  go_wp2_with fail
  refine(Zt9 x.key x.lo x.hi hU.1 hU.2.1 w6).mono ?_
  rintro e w7 ⟨rfl,k7⟩
  have B3:=zz (B3.out.kept k7 (fun h=> h))
  have B4:=zz (B4.out.kept k7 (fun h=> h))
  have B5:=zz (B5.out.kept k7 (fun h=> h))
  have B6:=zz (B6.out.kept k7 (fun h=> h))
  have B8:=zz (B8.out.kept k7 (fun h=> h))
  have K7:=zz (K6.out.trans k7)
  have K57:=zz (K56.out.trans k7)
  have d0:=B8.out.cell 0
  have d1:=B8.out.cell 1
  have f0:=B8.out.frozen 0
  have f1:=B8.out.frozen 1
  clear k7 K6 K56 c0 c1 c2 c41 H6
  go_upto_region 5 with fail
  have kS:Keeps (· =gs+1+1+1+1) w7 ((w7.setCell ⟨gs+1+1+1+1,0,none⟩ (.int .u64 x.lo)).setCell ⟨gs+1+1+1+1,1,none⟩ (.int .u64 (Sat.add x.lo x.hi))):=Keeps.setCell (S:=(· =gs+1+1+1+1)) (p:=⟨gs+1+1+1+1,1,none⟩) (Keeps.setCell (S:=(· =gs+1+1+1+1)) (p:=⟨gs+1+1+1+1,0,none⟩) (Kz0 _ _) (.inl rfl) _) (.inl rfl) _
  have B3:=zz (B3.out.kept kS (by omega))
  have B4:=zz (B4.out.kept kS (by omega))
  have B5:=zz (B5.out.kept kS (by omega))
  have B6:=zz (B6.out.kept kS (by omega))
  have B8:=zz ((B8.out.set 0 (.int .u64 x.lo)).set 1 (.int .u64 (Sat.add x.lo x.hi)))
  have K8:=zz ((Kz0 (fun b=> b=gs+1+1+1∨b=gs+1+1+1+1) w).step K7.out (fun _ _ h=> h.elim) |>.step kS (fun _ _ e=> Or.inr e))
  have K58:=zz ((Kz0 (· =gs+1+1+1+1) w5).step K57.out (fun _ _ h=> h.elim) |>.step kS (fun _ _ e=> e))
  clear kS K7 K57 d0 d1 f0 f1
  generalize (w7.setCell _ _).setCell _ _=w8 at*
  have HE8:=zz (fun W (kW:Keeps NO w8 W)=> HE.out (· =gs+1+1+1+1) (fun b hb=> by omega) W (K58.out.step kW (fun _ _ h=> h.elim)))
  clear HE K58
  refine Code.wp_mono ?_ (sbd.reg5 w8 gs (gs+1) (gs+1+1) (gs+1+1+1) (gs+1+1+1+1) c C T n0 k0 q j tot un _ R _ cA m cR k x.lo (Sat.add x.lo x.hi) est (p:Int) HE8 B3.out B4.out B5.out B6.out B8.out (by omega) _ _ _ _ _ _ _ _ _ _ _ _ _ _ _ _ _ _ _ _ _ _ _ _ _ _ _)
  intro e a' w9 hex
  cases e <;> (first | exact hex.elim | skip)
  obtain⟨⟨b6,k9⟩,⟨u25,u26,u27,u28,u29,u30,u31,u32,rfl⟩⟩:=hex
  have q0:=b6.cell 0
  have q1:=b6.cell 1
  have K9:=zz (K8.out.step k9 (fun _ _ e=> Or.inl e))
  clear b6 k9
  dsimp only
  go_wp2_with fail
  refine bodyPost_ret (v:= .tuple #[bnd (imin x.lo est) (imin (Sat.add x.lo x.hi) est),.bool FB]) (by rw [HFB'.out];simp [results,Tryz.results204,go_sem,q0,q1]) rfl ⟨rfl,?_⟩
  exact(Kz0 NO w).step K9.out (fun b hb e=> by omega)
 ·obtain rfl:p=n:=by omega
  obtain rfl:LO=0:=by have:=HLO.out;unfold loS at this;rw [←hp,List.getElem?_eq_none (by omega)] at this;exact this
  obtain rfl:HI=un:=by have:=HHI.out;unfold hiS at this;rw [←hp,List.getElem?_eq_none (by omega)] at this;exact this
  obtain rfl:iv= -1:=by rw [HIV.out,←hp,Zhc]
  have HFB':Hid (FB=decide ((0:Int)≤ -1)):=zz (by rw [HFB.out,←hp];simp)
  have K8:=zz ((Kz0 (fun b=> b=gs+1+1+1∨b=gs+1+1+1+1) w).step K6.out (fun _ _ h=> h.elim))
  have HE8:=zz (fun W (kW:Keeps NO w6 W)=> HE.out NO (fun _ _ h=> h) W (K56.out.trans kW))
  clear HE K56 K6 H6 HLO HHI HIV HFB hp hlen
  go_upto_region 5 with fail
  refine Code.wp_mono ?_ (sbd.reg5 w6 gs (gs+1) (gs+1+1) (gs+1+1+1) (gs+1+1+1+1) c C T n0 k0 q j tot HI _ R _ cA m cR k 0 HI est (-1) HE8 B3.out B4.out B5.out B6.out B8.out (by omega) _ _ _ _ _ _ _ _ _ _ _ _ _ _ _ _ _ _ _ _ _ _ _ _ _ _ _)
  intro e a' w9 hex
  cases e <;> (first | exact hex.elim | skip)
  obtain⟨⟨b6,k9⟩,⟨u25,u26,u27,u28,u29,u30,u31,u32,rfl⟩⟩:=hex
  have q0:=b6.cell 0
  have q1:=b6.cell 1
  have K9:=zz (K8.out.step k9 (fun _ _ e=> Or.inl e))
  clear b6 k9
  dsimp only
  go_wp2_with fail
  refine bodyPost_ret (v:= .tuple #[bnd (imin 0 est) (imin HI est),.bool FB]) (by rw [HFB'.out];simp [results,Tryz.results204,go_sem,q0,q1]) rfl ⟨rfl,?_⟩
  exact(Kz0 NO w).step K9.out (fun b hb e=> by omega)
open Go.RowKit
def Zek (l:List Ln) (i:Nat) (x:Ln):Bool:=if i=0 then false else match l[i-1]? with
 | some y=> Op.bytesLess x.key.toList y.key.toList||x.key.toList==y.key.toList
 | none=> false
def Zc1 (tot:Int) (l:List Ln) (i:Nat) (x:Ln):Int:=
 if x.key.size=0 then 3 else if 255<x.key.size then 4 else if Zek l i x=true then 6 else if x.lo=0∨Sat.addOk x.lo x.hi=false∨tot<Sat.add x.lo x.hi then 1 else 0
theorem Zry {k:ByteArray} (h:k.size=0):(k.toList== [])=true:=by
 have:k.data.toList= []:=List.eq_nil_of_length_eq_zero (by simpa using h)
 rw [ByteArray.toList_eq,this];rfl
theorem Zoj {k:ByteArray} (h:¬k.size=0):(k.toList== [])=false:=by
 have:¬k.data.toList= []:=fun e=> h (by have:=congrArg List.length e;simpa using this)
 rw [ByteArray.toList_eq]
 simpa using this
theorem Zmg (w:World) (B:Nat) (tot un:Int) (A R:Option Addr) (n cA m cR:Nat) (l:List Ln) (F:Zaq) (h:SmIn w B A n l R m F) (hB:B≤w.heap.size) (i:Nat) (x:Ln) (hx:l[i]?=some x):
  Calls Tryz.prog 134 #[smV tot A n cA un R m cR,.int .i64 (i:Int)] w fun e w'=> e= .returned (.int .i64 (Zc1 tot l i x))∧Keeps NO w w':=by
 have hin:i<n:=by have:=(List.getElem?_eq_some_iff.1 hx).1;have:=h.len;omega
 obtain⟨wA,hwA⟩:∃v,v=w.alloc (.cells (smC tot A n cA un R m cR) 78):=⟨_,rfl⟩
 have kA:Keeps NO w wA:=by rw [hwA];exact(Kz0 _ _).alloc _
 have bA:Blk wA w.heap.size 78 (smC tot A n cA un R m cR):=by rw [hwA];exact Blk.new _ _ _
 have hA:=h.kept kA (fun _ _ h=> h)
 have hE:=fun(j:Nat) (y:Ln) (hy:l[j]?=some y)=> Zc7 hA.ents hy (by omega)
 obtain⟨b,off,rfl,hbB,c0,c1,c2⟩:=hE i x hx
 have hU:=h.num x (List.mem_of_getElem? hx)
 have hprev:Hid (∀y,0<i→l[i-1]?=some y→wA.cell? ⟨b,off+(i-1)*3,none⟩=some (.string y.key)):=zz (fun y _ hy=> by
  obtain⟨b',off',he,_,d0,_,_⟩:=hE (i-1) y hy
  injection he with he
  injection he with e1 e2 e3
  subst e1 e2
  exact d0)
 have hi0:(0:Int)≤(i:Int):=by omega
 have hi1:(i:Int)<(n:Int):=by omega
 have a0:wA.cell? ⟨w.heap.size,0,none⟩=some (.int .u64 tot):=bA.cell 0
 have a1:wA.cell? ⟨w.heap.size,1,none⟩=some (.slice (some ⟨b,off,none⟩) n cA):=bA.cell 1
 have haz:=bA.lt
 have hbz:b<wA.heap.size:=by omega
 obtain⟨rv,hrv⟩:∃v,v=Zc1 tot l i x:=⟨_,rfl⟩
 rw [←hrv]
 have HRV:=zz hrv
 have hks:=hU.2.2
 have hn1:=h.n1
 have HWA:=zz hwA
 have KA:=zz kA
 clear hrv hwA kA bA hE h hA
 by_cases h1:x.key.size=0
 ·have HV:Hid (rv=3):=zz (by rw [HRV.out];exact if_pos h1)
  have e1:=Zry h1
  clear HRV h1
  go_enter Tryz.func134,Tryz.ntmps134
  go_upto_region 1 with fail
  rw [←HWA.out]
  clear HWA
  generalize hgs:w.heap.size=gs at*
  go_wp2_with fail
  go_ret
  exact⟨Zaa HV.out.symm,KA.out.alloc _⟩
 have e1:=Zoj h1
 by_cases h2:255<x.key.size
 ·have HV:Hid (rv=4):=zz (by rw [HRV.out];unfold Zc1;rw [if_neg h1,if_pos h2])
  have e2:decide ((255:Int)<(x.key.size:Int))=true:=by simp;omega
  have e2':(255:Int)<(x.key.size:Int):=by omega
  clear HRV h1 h2
  go_enter Tryz.func134,Tryz.ntmps134
  go_upto_region 1 with fail
  rw [←HWA.out]
  clear HWA
  generalize hgs:w.heap.size=gs at*
  go_wp2_with fail
  go_ret
  exact⟨Zaa HV.out.symm,KA.out.alloc _⟩
 have e2:¬((255:Int)<(x.key.size:Int)):=by omega
 rcases h3:Zek l i x with _ | _
 rotate_left
 ·have HV:Hid (rv=6):=zz (by rw [HRV.out];unfold Zc1;rw [if_neg h1,if_neg h2,if_pos h3])
  have hip:0<i:=by
   rcases Nat.eq_zero_or_pos i with e | e
   ·unfold Zek at h3;rw [if_pos e] at h3;cases h3
   ·exact e
  obtain⟨y,hy⟩:∃y,l[i-1]?=some y:=⟨l[i-1]'(by have:=(List.getElem?_eq_some_iff.1 hx).1;omega),List.getElem?_eq_getElem _⟩
  have d0:=hprev.out y hip hy
  have hle:(Op.bytesLess x.key.toList y.key.toList||x.key.toList==y.key.toList)=true:=by unfold Zek at h3;rw [if_neg (by omega),hy] at h3;exact h3
  obtain⟨i',hi'⟩:∃i':Nat,i'=i-1:=⟨_,rfl⟩
  have e4:IntKind.i64.wrap ((i:Int)-1)=(i':Int):=by rw [IntWalk.i64_in _ (by omega)];omega
  rw [←hi'] at d0
  have hi2:(0:Int)≤(i':Int):=by omega
  have hi3:(i':Int)<(n:Int):=by omega
  have hip2:decide (0<i)=true:=by simp;omega
  clear HRV h1 h2 h3 hprev hx hy hi' hip
  go_enter Tryz.func134,Tryz.ntmps134
  go_upto_region 1 with fail
  rw [←HWA.out]
  clear HWA
  generalize hgs:w.heap.size=gs at*
  go_upto_region 6 with fail
  go_quiet (fail)
  go_wp2_with fail
  go_ret
  exact⟨Zaa HV.out.symm,by first | exact(KA.out.alloc _).drewN _ | exact(KA.out.alloc _).drew⟩
 have hle:Hid (0<i→∃y,l[i-1]?=some y∧(Op.bytesLess x.key.toList y.key.toList||x.key.toList==y.key.toList)=false):=zz (fun hip=> by
  obtain⟨y,hy⟩:∃y,l[i-1]?=some y:=⟨l[i-1]'(by have:=(List.getElem?_eq_some_iff.1 hx).1;omega),List.getElem?_eq_getElem _⟩
  refine⟨y,hy,?_⟩
  unfold Zek at h3;rw [if_neg (by omega),hy] at h3;exact h3)
 have HV:Hid (rv=if x.lo=0∨Sat.addOk x.lo x.hi=false∨tot<Sat.add x.lo x.hi then 1 else 0):=zz (by rw [HRV.out];unfold Zc1;rw [if_neg h1,if_neg h2,if_neg (by simp [h3])])
 obtain⟨u0,u1⟩:=hU.1
 obtain⟨v0,v1⟩:=hU.2.1
 obtain⟨sm,hsm⟩:∃sm,sm=Sat.add x.lo x.hi:=⟨_,rfl⟩
 obtain⟨ok,hok⟩:∃ok,ok=Sat.addOk x.lo x.hi:=⟨_,rfl⟩
 have HA:=zz (fun W=> Sat.add_any x.lo x.hi u0 u1 v0 v1 W)
 rw [←hsm,←hok] at HA HV
 clear HRV h1 h2 h3 hx hsm hok
 by_cases hip:0<i
 ·obtain⟨y,hy,hyl⟩:=hle.out hip
  have d0:=hprev.out y hip hy
  obtain⟨i',hi'⟩:∃i':Nat,i'=i-1:=⟨_,rfl⟩
  have e4:IntKind.i64.wrap ((i:Int)-1)=(i':Int):=by rw [IntWalk.i64_in _ (by omega)];omega
  rw [←hi'] at d0
  have hi2:(0:Int)≤(i':Int):=by omega
  have hi3:(i':Int)<(n:Int):=by omega
  have hip2:decide (0<i)=true:=by simp;omega
  clear hprev hy hi' hip hle
  go_enter Tryz.func134,Tryz.ntmps134
  go_upto_region 1 with fail
  rw [←HWA.out]
  clear HWA
  generalize hgs:w.heap.size=gs at*
  go_upto_region 6 with fail
  go_quiet (fail)
  go_wp2_with fail
  refine(HA.out _).mono ?_
  rintro e w3 ⟨rfl,rfl⟩
  rcases g1:(x.lo==0) with _ | _
  rotate_left
  ·go_wp2_with fail
   go_ret
   exact⟨Zaa (by rw [HV.out,if_pos (.inl (by simpa using g1))]),by first | exact(KA.out.alloc _).drewN _ | exact(KA.out.alloc _).drew⟩
  rcases ok with _ | _
  ·go_wp2_with fail
   go_ret
   exact⟨Zaa (by rw [HV.out,if_pos (by simp)]),by first | exact(KA.out.alloc _).drewN _ | exact(KA.out.alloc _).drew⟩
  rcases g2:decide (tot<sm) with _ | _
  rotate_left
  ·go_wp2_with fail
   go_ret
   exact⟨Zaa (by rw [HV.out,if_pos (.inr (.inr (by simpa using g2)))]),by first | exact(KA.out.alloc _).drewN _ | exact(KA.out.alloc _).drew⟩
  go_wp2_with fail
  go_ret
  exact⟨Zaa (by rw [HV.out,if_neg (by simp at g1 g2;simp [g1];omega)]),by first | exact(KA.out.alloc _).drewN _ | exact(KA.out.alloc _).drew⟩
 ·obtain rfl:i=0:=by omega
  simp only [Nat.zero_mul,Nat.add_zero] at c0 c1 c2
  clear hprev hip hle
  go_enter Tryz.func134,Tryz.ntmps134
  go_upto_region 1 with fail
  rw [←HWA.out]
  clear HWA
  generalize hgs:w.heap.size=gs at*
  go_upto_region 6 with fail
  go_quiet (fail)
  go_wp2_with fail
  refine(HA.out _).mono ?_
  rintro e w3 ⟨rfl,rfl⟩
  rcases g1:(x.lo==0) with _ | _
  rotate_left
  ·go_wp2_with fail
   go_ret
   exact⟨Zaa (by rw [HV.out,if_pos (.inl (by simpa using g1))]),by first | exact(KA.out.alloc _).drewN _ | exact(KA.out.alloc _).drew⟩
  rcases ok with _ | _
  ·go_wp2_with fail
   go_ret
   exact⟨Zaa (by rw [HV.out,if_pos (by simp)]),by first | exact(KA.out.alloc _).drewN _ | exact(KA.out.alloc _).drew⟩
  rcases g2:decide (tot<sm) with _ | _
  rotate_left
  ·go_wp2_with fail
   go_ret
   exact⟨Zaa (by rw [HV.out,if_pos (.inr (.inr (by simpa using g2)))]),by first | exact(KA.out.alloc _).drewN _ | exact(KA.out.alloc _).drew⟩
  go_wp2_with fail
  go_ret
  exact⟨Zaa (by rw [HV.out,if_neg (by simp at g1 g2;simp [g1];omega)]),by first | exact(KA.out.alloc _).drewN _ | exact(KA.out.alloc _).drew⟩
open Go.RowKit Cfp
def Zf0 (d wd tot:Int) (R:List (List Int)):Int:=
 if R.length=0 then 0 else if (R.length:Int)≠d then 3 else if R.any (fun r=> (r.length:Int) != wd)=true then 3 else if R.any (fun r=> r.any (fun z=> decide (tot<z)))=true then 1 else 0
theorem Zpk (z tot:Int) (q:Nat) (W:World) (hb:W.cell? ⟨q,0,none⟩=some (.int .u64 tot)):
  Calls Tryz.prog 198 #[.int .u64 z,.pointer (some ⟨q,0,none⟩)] W fun e w'=> e= .returned (.bool (decide (tot<z)))∧Keeps NO W w':=by
 go_enter Tryz.func198,Tryz.ntmps198
 go_wp2_with fail
 go_ret
 exact⟨rfl,Kz0 _ _⟩
def Zc5 (zs:List Int) (tot:Int):Nat:=zs.findIdx (fun z=> decide (tot<z))
theorem Zl4 {zs:List Int} {tot:Int} {i:Nat} {z:Int} (h:zs[i]?=some z) (hs:tot<z) (hb:∀(j:Nat) (d:Int),j<i→zs[j]?=some d→¬tot<d):Zc5 zs tot=i:=by
 obtain⟨hi,he⟩:=List.getElem?_eq_some_iff.1 h
 unfold Zc5
 rw [List.findIdx_eq hi]
 refine⟨by rw [he];simpa using hs,fun j hj=> ?_⟩
 have:=hb j _ hj (List.getElem?_eq_getElem (by omega))
 simpa using this
theorem Zl3 {zs:List Int} {tot:Int} (hb:∀(j:Nat) (d:Int),zs[j]?=some d→¬tot<d):Zc5 zs tot=zs.length:=by
 unfold Zc5
 rw [List.findIdx_eq_length]
 intro c hc
 obtain⟨j,hj,he⟩:=List.getElem_of_mem hc
 have:=hb j c (by rw [List.getElem?_eq_getElem hj,he])
 simpa using this
theorem Zjf (zs:List Int) (tot:Int):decide (Zc5 zs tot<zs.length)=zs.any (fun z=> decide (tot<z)):=by
 rw [Bool.eq_iff_iff]
 simp only [decide_eq_true_eq]
 unfold Zc5
 rw [List.findIdx_lt_length,List.any_eq_true]
theorem Zor (B:Nat) (A:Option Addr) (zs:List Int) (n cap:Nat) (tot:Int) (q:Nat) (w:World) (hr:Rd w B A 1 n (zs.map (.int .u64))) (hb:w.cell? ⟨q,0,none⟩=some (.int .u64 tot)) (hn:n≤maxLen):
  Calls Tryz.prog 242 #[.slice A n cap,.func (.func 198) #[] #[.pointer (some ⟨q,0,none⟩)]] w fun e w'=> e= .returned (.int .i64 (idxQ (Zc5 zs tot) n))∧Keeps NO w w':=by
 have hnm:(n:Int)≤9223372036854775807:=by simp only [maxLen] at hn;omega
 have HO:=zz hr
 have HB:=zz hb
 have HL:=zz (show zs.length=n by simpa using hr.1)
 obtain⟨rv,hrv⟩:∃rv,rv=idxQ (Zc5 zs tot) n:=⟨_,rfl⟩
 rw [←hrv]
 have HRV:=zz hrv
 clear hr hb hrv
 go_enter Tryz.func242,Tryz.ntmps242
 go_wp2_with fail
 go_loopw [5,8] (fun _ iv wr=> ∃i:Nat,i≤n∧iv= .int .i64 i∧Hid (∀(j:Nat) (d:Int),j<i→zs[j]?=some d→¬tot<d)∧Hid (Keeps NO w wr)) (fun _ iv _=> n-(intOf iv).toNat)
 case atStart=> exact⟨0,by omega,rfl,zz (fun j d h=> by omega),zz (Kz0 _ _)⟩
 case round=>
  obtain⟨i,hi,rfl,HJ,KR⟩:=hrel
  by_cases hlt:i<n
  ·have HLT:Hid (i+1≤n):=hlt
   have hil:i<zs.length:=by rw [HL.out];exact hlt
   obtain⟨x,hx⟩:∃x,zs[i]?=some x:=⟨zs[i]'hil,by simp⟩
   obtain⟨b,off,rfl,hbB,hc⟩:=(HO.out.kept KR.out (fun _ _ h=> h)).2 (by omega)
   have c0:=hc i (.int .u64 x) (by simp [hx])
   have hiI:(i:Int)<(n:Int):=by omega
   have hi0:(0:Int)≤(i:Int):=by omega
   have HX:=zz hx
   have HW:=zz (Zpk x tot q wr (KR.out.cell_some HB.out (fun h=> h)))
   clear hil hx hc
   by_cases hs:tot<x
   ·have e1:decide (tot<x)=true:=by simpa using hs
    rw [e1] at HW
    have HV:Hid (rv=i):=by
     show rv=i
     rw [HRV.out,Zl4 HX.out hs HJ.out,Zhd hlt]
    clear hs e1
    go_wp2_with fail
    refine HW.out.mono ?_
    rintro e w2 ⟨rfl,k2⟩
    have K2:=zz (KR.out.trans k2)
    clear k2
    go_wp2_with fail
    go_ret
    exact⟨Zaa HV.out.symm,K2.out⟩
   ·have e1:decide (tot<x)=false:=by simpa using hs
    rw [e1] at HW
    have HS:=zz hs
    clear hs e1
    go_wp2_with fail
    refine HW.out.mono ?_
    rintro e w2 ⟨rfl,k2⟩
    have K2:=zz (KR.out.trans k2)
    clear k2
    go_wp2_with fail
    go_roundw
    case rel=>
     refine⟨i+1,HLT.out,by go_num,zz (fun j d hj hd=> ?_),K2⟩
     rcases Nat.lt_or_ge j i with h | h
     ·have:=HJ.out j d h hd;omega
     ·obtain rfl:j=i:=by omega
      rw [HX.out] at hd;injection hd with hd;subst hd;have:=HS.out;omega
    case measure=> have:=HLT.out;simp [intOf];omega
  ·obtain rfl:i=n:=by omega
   have HV:Hid (rv= -1):=by
    show rv= -1
    rw [HRV.out,Zl3 (fun j d hd=> HJ.out j d (by rw [←HL.out];exact(List.getElem?_eq_some_iff.1 hd).1) hd),HL.out,Zhc]
   go_wp2_with fail
   go_ret
   exact⟨Zaa HV.out.symm,KR.out⟩
theorem Zmi (B:Nat) (A:Option Addr) (zs:List Int) (n cap:Nat) (tot:Int) (q:Nat) (w:World) (hr:Rd w B A 1 n (zs.map (.int .u64))) (hb:w.cell? ⟨q,0,none⟩=some (.int .u64 tot)) (hn:n≤maxLen):
  Calls Tryz.prog 197 #[.slice A n cap,.func (.func 198) #[] #[.pointer (some ⟨q,0,none⟩)]] w fun e w'=> e= .returned (.bool (zs.any (fun z=> decide (tot<z))))∧Keeps NO w w':=by
 have HL:zs.length=n:=by simpa using hr.1
 have HV:Hid (decide ((0:Int)≤idxQ (Zc5 zs tot) n)=zs.any (fun z=> decide (tot<z))):=zz (by
  rw [←Zjf,HL]
  unfold idxQ
  by_cases h:Zc5 zs tot<n
  ·rw [if_pos h];simp [h]
  ·rw [if_neg h];simp [h])
 have HI:=zz (Zor B A zs n cap tot q w hr hb hn)
 obtain⟨bv,hbv⟩:∃bv,bv=zs.any (fun z=> decide (tot<z)):=⟨_,rfl⟩
 rw [←hbv] at HV ⊢
 generalize idxQ (Zc5 zs tot) n=iv at HI HV
 clear hr hb hbv
 go_enter Tryz.func197,Tryz.ntmps197
 go_wp2_with fail
 refine HI.out.mono ?_
 rintro e w2 ⟨rfl,k2⟩
 have K2:=zz k2
 clear k2
 go_wp2_with fail
 go_ret
 exact⟨Znv HV.out,K2.out⟩
open Go.RowKit Cfp
theorem Zct (F:Zaq) (m:Nat) (p:List Int→Bool):(Cmp.rowsL F m).any p=true ↔ ∃j,j<m∧p (F j).2.2.2=true:=by
 unfold Cmp.rowsL
 rw [List.any_eq_true]
 constructor
 ·rintro⟨r,hr,hp⟩
  obtain⟨j,hj,rfl⟩:=List.mem_map.1 hr
  exact⟨j,List.mem_range.1 hj,hp⟩
 ·rintro⟨j,hj,hp⟩
  exact⟨_,List.mem_map.2 ⟨j,List.mem_range.2 hj,rfl⟩,hp⟩
theorem Zj9 (w:World) (B:Nat) (c:Cfg) (C T:Option Addr) (n0 k0 q j:Nat) (tot un:Int) (A R:Option Addr) (n cA m cR:Nat) (l:List Ln) (F:Zaq) (h:SmIn w B A n l R m F) (hB:B≤w.heap.size):
  Calls Tryz.prog 135 #[Value.agg (cfC c C n0 k0 T q j),smV tot A n cA un R m cR] w fun e w'=> e= .returned (.int .i64 (Zf0 c.depth c.width tot (Cmp.rowsL F m)))∧Keeps NO w w':=by
 obtain⟨w2,hw2⟩:∃w2,w2=(w.alloc (.cells (cfC c C n0 k0 T q j) 27)).alloc (.cells (smC tot A n cA un R m cR) 78):=⟨_,rfl⟩
 have k2:Keeps NO w w2:=by rw [hw2];exact((Kz0 _ _).alloc _).alloc _
 have b2:Blk w2 w.heap.size 27 (cfC c C n0 k0 T q j):=by rw [hw2];exact(Blk.new _ _ _).alloc _
 have b3:Blk w2 (w.heap.size+1) 78 (smC tot A n cA un R m cR):=by rw [hw2];exact Blk.new_at _ _ _ _ (by simp)
 have h2:=h.kept k2 (fun _ _ h=> h)
 have d10:w2.cell? ⟨w.heap.size,10,none⟩=some (.int .i64 c.depth):=b2.cell 10
 have d11:=zz (show w2.cell? ⟨w.heap.size,11,none⟩=some (.int .i64 c.width) from b2.cell 11)
 have s0:=zz (show w2.cell? ⟨w.heap.size+1,0,none⟩=some (.int .u64 tot) from b3.cell 0)
 have s3:w2.cell? ⟨w.heap.size+1,3,none⟩=some (.slice R m cR):=b3.cell 3
 have S3:=zz s3
 obtain⟨rv,hrv⟩:∃v,v=Zf0 c.depth c.width tot (Cmp.rowsL F m):=⟨_,rfl⟩
 rw [←hrv]
 have HRV:=zz hrv
 have HH:=zz h2
 have K2:=zz k2
 have HW2:=zz hw2
 have hm1:=h.m1
 have hml:(Cmp.rowsL F m).length=m:=Cmp.rowsL_len F m
 have HML:=zz hml
 clear hrv hw2 k2 b2 b3 h2 h hml
 by_cases e0:m=0
 ·have HV:Hid (rv=0):=zz (by rw [HRV.out];unfold Zf0;rw [HML.out,if_pos e0])
  have e1:((m:Int)==0)=true:=by simp [e0]
  clear HRV e0
  go_enter Tryz.func135,Tryz.ntmps135
  go_upto_region 1 with fail
  rw [←HW2.out]
  go_wp2_with fail
  go_ret
  exact⟨Zaa HV.out.symm,K2.out⟩
 have e1:((m:Int)==0)=false:=by simp [e0]
 by_cases e2:(m:Int)=c.depth
 rotate_left
 ·have HV:Hid (rv=3):=zz (by rw [HRV.out];unfold Zf0;rw [HML.out,if_neg e0,if_pos e2])
  have e3:((m:Int) != c.depth)=true:=by simp [e2]
  clear HRV e0 e2
  go_enter Tryz.func135,Tryz.ntmps135
  go_upto_region 1 with fail
  rw [←HW2.out]
  go_wp2_with fail
  go_ret
  exact⟨Zaa HV.out.symm,K2.out⟩
 have e3:((m:Int) != c.depth)=false:=by simp [e2]
 have HV:Hid (rv=if (Cmp.rowsL F m).any (fun r=> (r.length:Int) != c.width)=true then 3 else if (Cmp.rowsL F m).any (fun r=> r.any (fun z=> decide (tot<z)))=true then 1 else 0):=zz (by rw [HRV.out];unfold Zf0;rw [HML.out,if_neg e0,if_neg (by simp [e2])])
 have HLn:Hid (∀i,i<m→(F i).2.2.2.length=(F i).2.1):=zz (fun i hi=> by have:=(HH.out.rrd i hi).1.1;simpa using this)
 obtain⟨wd,hwd⟩:∃wd,wd=c.width:=⟨_,rfl⟩
 rw [←hwd] at HV d11
 clear HRV e0 e2 hwd
 go_enter Tryz.func135,Tryz.ntmps135
 go_upto_region 1 with fail
 rw [←HW2.out]
 clear HW2
 generalize hgs:w.heap.size=gs at*
 go_wp2_with fail
 go_loopw [22] (fun iv wr=> ∃i:Nat,i≤m∧iv= .int .i64 i∧Hid (∀j,j<i→((F j).2.1:Int)=wd)∧Hid (Keeps NO w2 wr)) (fun iv _=> m-(intOf iv).toNat)
 case atStart=> exact⟨0,by omega,rfl,zz (fun j h=> by omega),zz (Kz0 _ _)⟩
 case round=>
  obtain⟨i,hi,rfl,HJ,KR⟩:=hrel
  by_cases hlt:i<m
  ·have HLT:Hid (i+1≤m):=hlt
   obtain⟨b,off,rfl,hbB,hc⟩:=(HH.out.rows.kept KR.out (fun _ _ h=> h)).2 (by omega)
   have c0:=hc i (.slice (F i).1 (F i).2.1 (F i).2.2.1) (by simp [hlt])
   have hiI:(i:Int)<(m:Int):=by omega
   have hi0:(0:Int)≤(i:Int):=by omega
   have w11:=KR.out.cell_some d11.out (fun h=> h)
   obtain⟨rl,hrl⟩:∃rl,rl=(F i).2.1:=⟨_,rfl⟩
   rw [←hrl] at c0
   have HRL:=zz hrl
   have HI:=zz hlt
   clear hc hrl
   by_cases hs:(rl:Int)=wd
   ·have e4:((rl:Int) != wd)=false:=by simp [hs]
    have HS:Hid ((rl:Int)=wd):=zz hs
    clear hs
    go_wp2_with fail
    go_roundw
    case rel=>
     refine⟨i+1,HLT.out,by go_num,zz (fun j hj=> ?_),KR⟩
     rcases Nat.lt_or_ge j i with h | h
     ·exact HJ.out j h
     ·obtain rfl:j=i:=by omega
      rw [←HRL.out];exact HS.out
    case measure=> have:=HLT.out;simp [intOf];omega
   ·have e4:((rl:Int) != wd)=true:=by simp [hs]
    have HR3:Hid (rv=3):=zz (by rw [HV.out,if_pos ((Zct F m _).2 ⟨i,HI.out,by rw [HLn.out i HI.out,←HRL.out];exact e4⟩)])
    clear hs
    go_wp2_with fail
    go_ret
    exact⟨Zaa HR3.out.symm,K2.out.trans KR.out⟩
  ·obtain rfl:i=m:=by omega
   have HV2:Hid (rv=if (Cmp.rowsL F i).any (fun r=> r.any (fun z=> decide (tot<z)))=true then 1 else 0):=zz (by
    rw [HV.out,if_neg]
    intro he
    obtain⟨j,hj,hp⟩:=(Zct F i _).1 he
    rw [HLn.out j hj] at hp
    simp [HJ.out j hj] at hp)
   have KX:=zz (K2.out.trans KR.out)
   have HHr:=zz (HH.out.kept KR.out (fun _ _ h=> h))
   have s3':=KR.out.cell_some S3.out (fun h=> h)
   have s0':=zz (KR.out.cell_some s0.out (fun h=> h))
   have S3':=zz s3'
   obtain⟨wx,rfl⟩:∃wx:World,wx=wr:=⟨_,rfl⟩
   have hmf:∀(fn:Fn) (first cap:Array Value) (w:World),(Instr.makeFunc fn first cap).run Tryz.prog w= .ok (.func fn first cap) w:=fun _ _ _ _=> rfl
   clear HV HJ KR K2 HH d11 s0 S3
   go_wp2_with fail
   go_loopw [35] (fun iv wr=> ∃t:Nat,t≤i∧iv= .int .i64 t∧Hid (∀j,j<t→(F j).2.2.2.any (fun z=> decide (tot<z))=false)∧Hid (Keeps NO wx wr)) (fun iv _=> i-(intOf iv).toNat)
   case atStart=> exact⟨0,by omega,rfl,zz (fun j h=> by omega),zz (Kz0 _ _)⟩
   case round=>
    obtain⟨t,ht,rfl,HJ,KR⟩:=hrel
    by_cases hlt:t<i
    ·have HLT:Hid (t+1≤i):=hlt
     obtain⟨b,off,rfl,hbB,hc⟩:=(HHr.out.rows.kept KR.out (fun _ _ h=> h)).2 (by omega)
     have c0:=hc t (.slice (F t).1 (F t).2.1 (F t).2.2.1) (by simp [hlt])
     have hiI:(t:Int)<(i:Int):=by omega
     have hi0:(0:Int)≤(t:Int):=by omega
     have hrt:=HHr.out.rrd t hlt
     have HCt:=zz (fun W (kW:Keeps NO wr W)=> Zmi B (F t).1 (F t).2.2.2 (F t).2.1 (F t).2.2.1 tot (gs+1) W ((hrt.1.kept KR.out (fun _ _ h=> h)).kept kW (fun _ _ h=> h)) ((KR.out.trans kW).cell_some s0'.out (fun h=> h)) (by have:=hrt.2.2;omega))
     have HI:=zz hlt
     obtain⟨bv,hbv⟩:∃bv,bv=(F t).2.2.2.any (fun z=> decide (tot<z)):=⟨_,rfl⟩
     rw [←hbv] at HCt
     have HBV:=zz hbv
     clear hc hrt hbv
     go_wp2_with fail
     refine(HCt.out _ (Kz0 _ _)).mono ?_
     rintro e w5 ⟨rfl,k5⟩
     have K5:=zz (KR.out.trans k5)
     clear k5 HCt
     rcases bv with _ | _
     ·go_wp2_with fail
      go_roundw
      case rel=>
       refine⟨t+1,HLT.out,by go_num,zz (fun j hj=> ?_),K5⟩
       rcases Nat.lt_or_ge j t with h | h
       ·exact HJ.out j h
       ·obtain rfl:j=t:=by omega
        exact HBV.out.symm
      case measure=> have:=HLT.out;simp [intOf];omega
     ·have HR1:Hid (rv=1):=zz (by rw [HV2.out,if_pos ((Zct F i _).2 ⟨t,HI.out,HBV.out.symm⟩)])
      go_wp2_with fail
      go_ret
      exact⟨Zaa HR1.out.symm,KX.out.trans K5.out⟩
    ·obtain rfl:t=i:=by omega
     have HR0:Hid (rv=0):=zz (by
      rw [HV2.out,if_neg]
      intro he
      obtain⟨j,hj,hp⟩:=(Zct F t _).1 he
      rw [HJ.out j hj] at hp
      cases hp)
     go_wp2_with fail
     go_ret
     exact⟨Zaa HR0.out.symm,KX.out.trans KR.out⟩
open Go.RowKit Cfp
def Zdn (tot:Int) (l:List Ln):List Ln→Nat→Int
 | [],_=> 0
 | x :: r,i=> if Zc1 tot l i x=0 then Zdn tot l r (i+1) else Zc1 tot l i x
def accE (l:List Ln):Int × Bool:=l.foldl (fun a x=> (Sat.add a.1 x.lo,a.2&&Sat.addOk a.1 x.lo)) (0,true)
theorem Zn2 (l:List Ln) (x:Ln):accE (l++ [x])=(Sat.add (accE l).1 x.lo,(accE l).2&&Sat.addOk (accE l).1 x.lo):=by simp [accE,List.foldl_append]
theorem Zn1 {l:List Ln} {i:Nat} {x:Ln} (h:l[i]?=some x):accE (l.take (i+1))=(Sat.add (accE (l.take i)).1 x.lo,(accE (l.take i)).2&&Sat.addOk (accE (l.take i)).1 x.lo):=by
 rw [←Zn2,List.take_add_one,h];rfl
theorem Zn3:∀(l:List Ln) (a:Int × Bool),U a.1→(∀x∈l,U x.lo)→U (l.foldl (fun a x=> (Sat.add a.1 x.lo,a.2&&Sat.addOk a.1 x.lo)) a).1
 | [],a,h,_=> h
 | x :: l,a,h,hl=> Zn3 l _ (Sat.add_bd _ _ h.1 (hl x (by simp)).1) (fun y hy=> hl y (by simp [hy]))
theorem Zve (l:List Ln) (h:∀x∈l,U x.lo):U (accE l).1:=Zn3 l _ (show U 0 from⟨by omega,by omega⟩) h
theorem Zj7 {tot:Int} {l:List Ln} {i:Nat} {x:Ln} (h:l[i]?=some x):Zdn tot l (l.drop i) i=if Zc1 tot l i x=0 then Zdn tot l (l.drop (i+1)) (i+1) else Zc1 tot l i x:=by
 have hi:=(List.getElem?_eq_some_iff.1 h).1
 rw [List.drop_eq_getElem_cons hi,(List.getElem?_eq_some_iff.1 h).2]
 rfl
def Zd1 (d wd tot un:Int) (l:List Ln) (R:List (List Int)):Int:=
 if 9223372036854775808<tot∨tot<un then 1 else if 96<l.length then 7 else if Zdn tot l l 0=0 then(if (accE l).2=false∨tot<(accE l).1 then 12 else Zf0 d wd tot R) else Zdn tot l l 0
theorem Zhp (w:World) (B:Nat) (c:Cfg) (C T:Option Addr) (n0 k0 q j:Nat) (tot un:Int) (A R:Option Addr) (n cA m cR:Nat) (l:List Ln) (F:Zaq) (h:SmIn w B A n l R m F) (hB:B≤w.heap.size):
  Calls Tryz.prog 70 #[Value.agg (cfC c C n0 k0 T q j),smV tot A n cA un R m cR] w fun e w'=> e= .returned (.int .i64 (Zd1 c.depth c.width tot un l (Cmp.rowsL F m)))∧Keeps NO w w':=by
 obtain⟨w2,hw2⟩:∃w2,w2=(w.alloc (.cells (cfC c C n0 k0 T q j) 27)).alloc (.cells (smC tot A n cA un R m cR) 78):=⟨_,rfl⟩
 have k2:Keeps NO w w2:=by rw [hw2];exact((Kz0 _ _).alloc _).alloc _
 have b2:Blk w2 w.heap.size 27 (cfC c C n0 k0 T q j):=by rw [hw2];exact(Blk.new _ _ _).alloc _
 have b3:Blk w2 (w.heap.size+1) 78 (smC tot A n cA un R m cR):=by rw [hw2];exact Blk.new_at _ _ _ _ (by simp)
 have h2:=h.kept k2 (fun _ _ h=> h)
 have s0:w2.cell? ⟨w.heap.size+1,0,none⟩=some (.int .u64 tot):=b3.cell 0
 have s1:w2.cell? ⟨w.heap.size+1,1,none⟩=some (.slice A n cA):=b3.cell 1
 have s2:w2.cell? ⟨w.heap.size+1,2,none⟩=some (.int .u64 un):=b3.cell 2
 have B2:=zz b2
 have B3:=zz b3
 obtain⟨rv,hrv⟩:∃v,v=Zd1 c.depth c.width tot un l (Cmp.rowsL F m):=⟨_,rfl⟩
 rw [←hrv]
 have HRV:=zz hrv
 have HH:=zz h2
 have K2:=zz k2
 have HW2:=zz hw2
 have hn1:=h.n1
 have HLN:=zz h.len
 clear hrv hw2 k2 b2 b3 h2 h
 rcases e1:decide (9223372036854775808<tot) with _ | _
 rotate_left
 ·have HV:Hid (rv=1):=zz (by rw [HRV.out];unfold Zd1;rw [if_pos (.inl (by simpa using e1))])
  clear HRV
  go_enter Tryz.func70,Tryz.ntmps70
  go_upto_region 1 with fail
  rw [←HW2.out]
  clear HW2
  generalize hgs:w.heap.size=gs at*
  go_wp2_with fail
  go_ret
  exact⟨Zaa HV.out.symm,K2.out⟩
 rcases e2:decide (tot<un) with _ | _
 rotate_left
 ·have HV:Hid (rv=1):=zz (by rw [HRV.out];unfold Zd1;rw [if_pos (.inr (by simpa using e2))])
  clear HRV
  go_enter Tryz.func70,Tryz.ntmps70
  go_upto_region 1 with fail
  rw [←HW2.out]
  clear HW2
  generalize hgs:w.heap.size=gs at*
  go_wp2_with fail
  go_ret
  exact⟨Zaa HV.out.symm,K2.out⟩
 by_cases h96:96<n
 ·have HV:Hid (rv=7):=zz (by rw [HRV.out];unfold Zd1;rw [if_neg (by simp at e1 e2;omega),if_pos (by rw [HLN.out];exact h96)])
  have e3:(96:Int)<(n:Int):=by omega
  clear HRV
  go_enter Tryz.func70,Tryz.ntmps70
  go_upto_region 1 with fail
  rw [←HW2.out]
  clear HW2
  generalize hgs:w.heap.size=gs at*
  go_wp2_with fail
  go_ret
  exact⟨Zaa HV.out.symm,K2.out⟩
 have HV:Hid (rv=if Zdn tot l l 0=0 then(if (accE l).2=false∨tot<(accE l).1 then 12 else Zf0 c.depth c.width tot (Cmp.rowsL F m)) else Zdn tot l l 0):=zz (by rw [HRV.out];unfold Zd1;rw [if_neg (by simp at e1 e2;omega),if_neg (by rw [HLN.out];exact h96)])
 have e3:¬((96:Int)<(n:Int)):=by omega
 clear HRV h96
 go_enter Tryz.func70,Tryz.ntmps70
 go_upto_region 1 with fail
 rw [←HW2.out]
 clear HW2
 generalize hgs:w.heap.size=gs at*
 go_wp2_with fail
 go_loopw [5,6,28] (fun ov av iv wr=> ∃i:Nat,i≤n∧iv= .int .i64 i∧ov= .int .u64 (accE (l.take i)).1∧av= .bool (accE (l.take i)).2∧Hid (Zdn tot l l 0=Zdn tot l (l.drop i) i)∧Hid (Keeps NO w2 wr)) (fun _ _ iv _=> n-(intOf iv).toNat)
 case atStart=> exact⟨0,by omega,rfl,by simp [accE],by simp [accE],zz rfl,zz (Kz0 _ _)⟩
 case round=>
  obtain⟨i,hi,rfl,rfl,rfl,HS,KR⟩:=hrel
  have hsz:=KR.out.size
  have b3r:=B3.out.kept KR.out (fun h=> h)
  have t0:wr.cell? ⟨gs+1,0,none⟩=some (.int .u64 tot):=b3r.cell 0
  have t1:wr.cell? ⟨gs+1,1,none⟩=some (.slice A n cA):=b3r.cell 1
  have t2:wr.cell? ⟨gs+1,2,none⟩=some (.int .u64 un):=b3r.cell 2
  have t3:wr.cell? ⟨gs+1,3,none⟩=some (.slice R m cR):=b3r.cell 3
  have hg1:=b3r.lt
  have HHr:=zz (HH.out.kept KR.out (fun _ _ h=> h))
  have hUo:=zz (Zve (l.take i) (fun x hx=> (HH.out.num x (List.mem_of_mem_take hx)).1))
  by_cases hlt:i<n
  ·have HLT:Hid (i+1≤n):=hlt
   obtain⟨x,hx⟩:∃x,l[i]?=some x:=⟨l[i]'(by rw [HLN.out];exact hlt),by simp⟩
   obtain⟨b,off,rfl,hbB,c0,c1,c2⟩:=Zc7 HHr.out.ents hx (by omega)
   have hiI:(i:Int)<(n:Int):=by omega
   have hi0:(0:Int)≤(i:Int):=by omega
   have hUx:=(HH.out.num x (List.mem_of_getElem? hx)).1
   have hAT:=zz (Zn1 hx)
   obtain⟨ow,how⟩:∃ow,ow=(accE (l.take i)).1:=⟨_,rfl⟩
   obtain⟨al,hal⟩:∃al,al=(accE (l.take i)).2:=⟨_,rfl⟩
   rw [←how] at hUo
   rw [←how,←hal] at hAT
   rw [←how,←hal]
   have kA:=(Kz0 NO wr).alloc (.cells #[.string x.key,.int .u64 x.lo,.int .u64 x.hi] 263)
   have BA:=zz (Blk.new wr 263 #[.string x.key,.int .u64 x.lo,.int .u64 x.hi])
   have HEn:=zz (Zmg _ B tot un (some ⟨b,off,none⟩) R n cA m cR l F (HHr.out.kept kA (fun _ _ h=> h)) (by simp;omega) i x hx)
   have KA:=zz (KR.out.trans kA)
   have HSd:=zz (Zj7 (tot:=tot) hx)
   obtain⟨ev,hev⟩:∃ev,ev=Zc1 tot l i x:=⟨_,rfl⟩
   rw [←hev] at HEn HSd
   clear kA hev hx how hal
   go_wp2_with fail
   refine HEn.out.mono ?_
   rintro e w5 ⟨rfl,k5⟩
   have K5:=zz (KA.out.trans k5)
   have BA5:=zz (BA.out.kept k5 (fun h=> h))
   have q1:w5.cell? ⟨wr.heap.size,1,none⟩=some (.int .u64 x.lo):=BA5.out.cell 1
   clear k5 HEn KA BA
   by_cases hz:ev=0
   ·have e4:(ev != 0)=false:=by simp [hz]
    have HSn:=zz (HS.out.trans (HSd.out.trans (if_pos hz)))
    obtain⟨u0,u1⟩:=hUx
    obtain⟨v0,v1⟩:=hUo.out
    have HSA:=zz (fun W=> Sat.add_any ow x.lo v0 v1 u0 u1 W)
    clear hz HS HSd
    go_wp2_with fail
    refine(HSA.out _).mono ?_
    rintro e w6 ⟨rfl,rfl⟩
    rcases al with _ | _
    ·go_wp2_with fail
     go_roundw
     case rel=> exact⟨i+1,HLT.out,by go_num,by rw [hAT.out],by rw [hAT.out];rfl,HSn,K5⟩
     case measure=> have:=HLT.out;simp [intOf];omega
    ·go_wp2_with fail
     go_roundw
     case rel=> exact⟨i+1,HLT.out,by go_num,by rw [hAT.out],by rw [hAT.out];rfl,HSn,K5⟩
     case measure=> have:=HLT.out;simp [intOf];omega
   ·have e4:(ev != 0)=true:=by simp [hz]
    have HR:=zz (show rv=ev by rw [HV.out,HS.out,HSd.out,if_neg hz,if_neg hz])
    clear hz HS HSd
    go_wp2_with fail
    go_ret
    exact⟨Zaa HR.out.symm,K2.out.trans K5.out⟩
  ·obtain rfl:i=n:=by omega
   have hT:l.take i=l:=List.take_of_length_le (by rw [HLN.out];exact Nat.le_refl _)
   have hD:l.drop i= []:=List.drop_eq_nil_of_le (by rw [HLN.out];exact Nat.le_refl _)
   rw [hT] at hUo ⊢
   have HS0:=zz (show Zdn tot l l 0=0 by rw [HS.out,hD];rfl)
   have HV2:=zz (HV.out.trans (if_pos HS0.out))
   obtain⟨ow,how⟩:∃ow,ow=(accE l).1:=⟨_,rfl⟩
   obtain⟨al,hal⟩:∃al,al=(accE l).2:=⟨_,rfl⟩
   rw [←how,←hal] at HV2
   rw [←how,←hal]
   have KX:=zz (K2.out.trans KR.out)
   have B2r:=zz (B2.out.kept KR.out (fun h=> h))
   have HRo:=zz (fun W (kW:Keeps NO wr W)=> Zj9 W B c C T n0 k0 q j tot un A R i cA m cR l F (HHr.out.kept kW (fun _ _ h=> h)) (by have:=kW.size;omega))
   obtain⟨re,hre⟩:∃re,re=Zf0 c.depth c.width tot (Cmp.rowsL F m):=⟨_,rfl⟩
   rw [←hre] at HRo HV2
   clear hT hD HS HV HS0 how hal hre
   rcases al with _ | _
   ·go_wp2_with fail
    go_ret
    exact⟨Zaa (by rw [HV2.out,if_pos (by simp)]),KX.out⟩
   rcases e5:decide (tot<ow) with _ | _
   rotate_left
   ·go_wp2_with fail
    go_ret
    exact⟨Zaa (by rw [HV2.out,if_pos (.inr (by simpa using e5))]),KX.out⟩
   go_wp2_with (refine Zah _ rfl B2r.out rfl (by rfl) ?_;simp only [Zpt])
   refine(HRo.out _ (Kz0 _ _)).mono ?_
   rintro e w5 ⟨rfl,k5⟩
   have K5:=zz (KX.out.trans k5)
   clear k5
   go_wp2_with fail
   go_ret
   exact⟨Zaa (by rw [HV2.out,if_neg (by simp at e5;simp;omega)]),K5.out⟩
end Go.Proofs.YtjamiaamngalgaaGreat
