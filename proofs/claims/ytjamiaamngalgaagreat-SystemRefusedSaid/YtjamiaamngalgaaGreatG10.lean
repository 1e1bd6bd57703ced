/-
  Parts: arena.New; arena.Usage; the deck's; The reference's NewArena; law 8's example, and its; law 8's example; An ar. No conditions beyond those of the statement.
-/
import Derived.Test.YtjamiaamngalgaaGreatG00
import Derived.Test.YtjamiaamngalgaaGreatG05
import Derived.Lib.Hide
import Derived.Deep.RegionLaw
import Derived.Deep.RegionHeld3
import Derived.Deep.DrawnRows
import Derived.Test.YtjamiaamngalgaaGreatG02
set_option linter.unusedVariables false
set_option linter.unusedSimpArgs false
set_option maxRecDepth 1000000
set_option maxHeartbeats 4000000
namespace Go.Proofs.YtjamiaamngalgaaGreat
open Go.RowKit Cfp
def mkC (c:Int × Int):Cls:=⟨c.1,c.2,none,0,[],0⟩
def Zap (l:List (Int × Int)) (i:Nat) (CA:Option Addr) (cap:Nat):Ar:=⟨CA,cap,(l.take i).map mkC,List.replicate i (-1)++List.replicate (8-i) 0,0⟩
theorem Zt3:ElemOf Tryz.prog 141 147 4 48:=ElemOf.mk' (z:= .agg #[.int .i64 0,.int .i64 0,.slice none 0 0,.int .i64 0]) Tryz.underlying141 (by kernel_rfl) rfl (by omega)
theorem Zl2 (w:World) (B:Nat) (l:List (Int × Int)) (hB:B≤w.heap.size):IsAr (w.alloc (.cells (arC (Zap l 0 none 0)).toArray 144)) B w.heap.size (Zap l 0 none 0):=
 ⟨hB,Blk.new w _ _,Own.nil _ _ _ _,fun i c _ h=> by simp [Zap] at h,fun i c _ h=> by simp [Zap] at h,fun i j c d _ _ _ h=> by simp [Zap] at h,by simp [Zap]⟩
theorem Zm0 (i:Nat) (hi:i<8):(List.replicate i (-1:Int)++List.replicate (8-i) 0).set i (-1)=List.replicate (i+1) (-1)++List.replicate (8-(i+1)) 0:=by
 rw [List.set_append_right _ _ (by simp)]
 simp only [List.length_replicate,Nat.sub_self]
 rw [show 8-i=(8-(i+1))+1 from by omega,List.replicate_succ,List.set_cons_zero,List.replicate_succ',List.append_assoc]
 rfl
theorem Zpp (l:List (Int × Int)) (i:Nat) (hi:i<8) (CA:Option Addr) (cap:Nat) (v:Value):((arC (Zap l i CA cap)).set 0 v)[1+i]?=some (.int .i64 0):=by
 unfold arC Zap
 dsimp only
 rw [List.set_cons_zero,Nat.add_comm 1 i,List.getElem?_cons_succ,List.getElem?_append_left (by simp;omega),List.getElem?_map,List.getElem?_append_right (by simp)]
 simp [List.getElem?_replicate]
 omega
theorem Zpn (l:List (Int × Int)) (i:Nat) (hi:i<8) (hl:i<l.length) (CA CA':Option Addr) (cap cap':Nat):arC (Zap l (i+1) CA' cap')=((arC (Zap l i CA cap)).set 0 (.slice CA' (i+1) cap')).set (1+i) (.int .i64 (-1)):=by
 unfold arC Zap
 dsimp only
 rw [List.set_cons_zero,Nat.add_comm 1 i,List.set_cons_succ,List.set_append_left _ _ (by simp;omega),←List.map_set,Zm0 i hi]
 simp
 omega
theorem Zu8 {w:World} {B a n:Nat} {l:List (Int × Int)} {CA:Option Addr} {cap:Nat} (hB:B≤a) (hn:n≤l.length) (hn8:n≤8) (hb:Blk w a 144 (arC (Zap l n CA cap)).toArray) (ho:Own w B 147 4 CA n cap (Zbv ((l.take n).map mkC))):IsAr w B a (Zap l n CA cap):=by
 have hcl:(Zap l n CA cap).cls.length=n:=by simp [Zap];omega
 have hm:∀(i:Nat) (c:Cls),(Zap l n CA cap).cls[i]?=some c→c.SA=none∧c.sc=0∧c.slots= []:=fun i c h=> by
  have:=List.mem_of_getElem? h
  simp only [Zap,List.mem_map] at this
  obtain⟨x,_,rfl⟩:=this
  exact⟨rfl,rfl,rfl⟩
 refine⟨hB,hb,by rw [hcl];exact ho,fun i c _ h=> ?_,fun i c _ h j x hx=> ?_,fun i j c d _ _ _ h h2 b hb=> ?_,by simp [Zap];omega⟩
 ·obtain⟨h1,h2,h3⟩:=hm i c h
  rw [h1,h2,h3]
  exact Own.nil _ _ _ _
 ·obtain⟨h1,h2,h3⟩:=hm i c h
  rw [h3] at hx
  simp at hx
 ·obtain⟨h1,h3⟩:=hm i c h
  rw [h1] at hb
  exact absurd hb (Zaj b)
theorem Ztc (l:List (Int × Int)) (hE:Za7 l=0) (C:Option Addr) (n k B:Nat) (w:World) (hr:Rd w B C 2 n (prs l)) (hB:B≤w.heap.size):
  Calls Tryz.prog 12 #[.slice C n k] w fun e w'=> ∃a CA cap,e= .returned (.tuple #[.pointer (some ⟨a,0,none⟩),.int .i64 0])∧IsAr w' w.heap.size a (Zap l n CA cap)∧Keeps NO w w':=by
 have hlen:l.length=n:=by have:=hr.1;rw [Zkx] at this;omega
 obtain⟨⟨n0,n1⟩,hlb⟩:=Ze9 l hE
 rw [hlen] at n0 n1
 have HCk:=zz (Zjx l (fun c hc=> by have:=hlb c hc;omega) C n k B w hr hB (by omega))
 rw [hE] at HCk
 have HL:=zz hlen
 have HR:=zz hr
 have HLb:=zz hlb
 clear hr hE hlen hlb
 go_enter Tryz.func12,Tryz.ntmps12
 go_wp2_with fail
 refine HCk.out.mono ?_
 rintro e w1 ⟨rfl,k1⟩
 have K1:=zz k1
 have hw1:w.heap.size≤w1.heap.size:=k1.size
 have HA0:=zz (Zl2 w1 w.heap.size l hw1)
 have K2:=zz (k1.alloc (.cells (arC (Zap l 0 none 0)).toArray 144))
 clear k1 HCk
 go_upto_region 5 with fail
 change Hid (IsAr (w1.alloc (.cells #[.slice none 0 0,.int .i64 0,.int .i64 0,.int .i64 0,.int .i64 0,.int .i64 0,.int .i64 0,.int .i64 0,.int .i64 0,.int .i64 0] 144)) w.heap.size w1.heap.size (Zap l 0 none 0)) at HA0
 change Hid (Keeps NO w (w1.alloc (.cells #[.slice none 0 0,.int .i64 0,.int .i64 0,.int .i64 0,.int .i64 0,.int .i64 0,.int .i64 0,.int .i64 0,.int .i64 0,.int .i64 0] 144))) at K2
 generalize w1.alloc _=w2 at*
 generalize w1.heap.size=a at*
 go_wp2_with fail
 go_loopw [6,7,17] (fun _ _ iv wr=> ∃(i:Nat) (CA:Option Addr) (cap:Nat),i≤n∧iv= .int .i64 i∧Hid (IsAr wr w.heap.size a (Zap l i CA cap))∧Hid (Keeps NO w wr)) (fun _ _ iv _=> n-(intOf iv).toNat)
 case atStart=> exact⟨0,none,0,by omega,rfl,HA0,K2⟩
 case round=>
  obtain⟨i,CA,cap,hi,rfl,HA,KR⟩:=hrel
  by_cases hlt:i<n
  ·have HLT:Hid (i+1≤n):=hlt
   obtain⟨c,hc⟩:∃c,l[i]?=some c:=⟨l[i]'(by have:=HL.out;omega),by simp⟩
   obtain⟨b,off,rfl,hbB,hcell⟩:=(HR.out.kept KR.out (fun _ _ h=> h)).2 (by omega)
   obtain⟨g1,g2⟩:=Zky hc
   have f1:=hcell _ _ g1
   have f2:=hcell _ _ g2
   rw [←Nat.add_assoc] at f2
   have hltI:(i:Int)<(n:Int):=by omega
   have hj0:(0:Int)≤(i:Int):=by omega
   have hi8:(i:Int)<8:=by omega
   have kA:=(Kz0 NO wr).alloc (.cells #[.int .i64 c.1,.int .i64 c.2] 35)
   have bA:=Blk.new wr 35 #[.int .i64 c.1,.int .i64 c.2]
   have HA1:=zz (HA.out.quiet kA)
   have K1r:=zz (KR.out.trans kA)
   have HBA:=zz bA
   have HC:=zz hc
   clear hcell g1 g2 hc kA bA
   go_upto_region 8 with fail
   generalize wr.alloc _=w5 at*
   generalize wr.heap.size=X at*
   have hcl:(Zap l i CA cap).cls.length=i:=by simp [Zap];have:=HL.out;omega
   have HO:Hid (Own w5 w.heap.size 147 4 CA i cap (Zbv ((l.take i).map mkC))):=by have:=HA1.out.own;rw [hcl] at this;exact this
   have c0:w5.cell? ⟨a,0,none⟩=some (.slice CA i cap):=by have:=IsArH.classes_cell HA1.out;rw [hcl] at this;exact this
   have f0:=HA1.out.blk.frozen 0
   have x0:=HBA.out.cell 0
   have x1:=HBA.out.cell 1
   have hw5:w.heap.size≤w5.heap.size:=K1r.out.size
   have HBl:=zz HA1.out.blk
   have HBe:=zz HA1.out.le
   have hX5:X<w5.heap.size:=HBA.out.lt
   have ha5:a<w5.heap.size:=HBl.out.lt
   clear hcl HA1 HA KR
   simp only [Zpg] at x0 x1
   go_region_law ((refine Zao _ Zt3 (by rfl) (.tmp 26) (.tmp 29) (by rfl) w.heap.size _ (by rfl) (by exact HO.out.kept (((Kz0 NO w5).drew).alloc _) (fun _ _ h=> h)) _ (m:=1) [.int .i64 c.1,.int .i64 c.2,.slice none 0 0,.int .i64 0] (by rfl) (by exact Blk.rd (xs:= [.int .i64 c.1,.int .i64 c.2,.slice none 0 0,.int .i64 0]) (Blk.new_at _ _ _ _ (by simp)) rfl) (by simp [Value.oneCell']) (by simp only [maxLen];omega) (by omega) (by simp;omega) ?_;intro A7 c7 w7 o7 k7 hA7;have hkA:=((Kz0 NO w5).drew).alloc (.cells #[.int .i64 c.1,.int .i64 c.2,.slice none 0 0,.int .i64 0] 147);have B7:=(HBl.out.kept hkA (fun h=> h)).kept k7 (fun h=> HO.out.ne_blk HBl.out (by decide) h rfl);have f7:=B7.frozen 0;have q7:w7.cell? ⟨a,0,none⟩=some (.slice CA (Zap l i CA cap).cls.length cap):=B7.cell 0;have HB7:=zz B7;have O7:=zz o7;have K7:=zz ((K1r.out.trans hkA).step k7 (fun b hb h=> by have:=HO.out.inB h;omega));clear o7 k7 hA7 B7 hkA))
   all_goals (
    have HB8:=zz (HB7.out.set 0 (.slice A7 (i+1) c7))
    have kB:=Zaf w7 a 0 (.slice A7 (i+1) c7)
    have K8:=zz (K7.out.step kB (fun b hb e=> by have:=HBe.out;omega))
    have O8:=zz (O7.out.kept kB (fun b hb e=> O7.out.ne_blk HB7.out (by decide) hb e))
    have q8:=HB8.out.cell (1+i)
    rw [List.setIfInBounds_toArray,List.getElem?_toArray,Zpp l i (by omega)] at q8
    have f8:=HB8.out.frozen (1+i)
    clear HB7 O7 K7 kB
    generalize w7.setCell _ _=w8 at*
    go_upto_region 9 with fail
    go_wp2_with fail
    go_roundw)
   all_goals first
    | (case rel=>
      refine⟨i+1,A7,c7,HLT.out,by go_num,?_,zz (K8.out.step (Zaf w8 a (1+i) (.int .i64 (-1))) (fun b hb e=> by have:=HBe.out;omega))⟩
      have h9:=HB8.out.set (1+i) (.int .i64 (-1))
      rw [List.setIfInBounds_toArray,List.setIfInBounds_toArray,←Zpn l i (by omega) (by have:=HL.out;omega)] at h9
      refine Zu8 HBe.out (by have:=HL.out;omega) (by omega) h9 ?_
      have h10:=O8.out.kept (Zaf w8 a (1+i) (.int .i64 (-1))) (fun b hb e=> O8.out.ne_blk HB8.out (by decide) hb e)
      have h11:Zbv ((l.take (i+1)).map mkC)=Zbv ((l.take i).map mkC)++ [.int .i64 c.1,.int .i64 c.2,.slice none 0 0,.int .i64 0]:=by
       rw [List.take_add_one,HC.out,List.map_append,Zmo]
       rfl
      rw [h11]
      exact h10)
    | (case measure=> have:=HLT.out;simp [intOf];omega)
  ·obtain rfl:i=n:=by omega
   go_wp2_with fail
   go_ret2
   exact⟨a,CA,cap,rfl,HA.out,KR.out⟩
open Go.RowKit Cfp
def Cls.nil:Cls:=⟨0,0,none,0,[],0⟩
open Go.RowKit Cfp
theorem IsAr.hasC {w:World} {B a:Nat} {s:Ar} (h:IsAr w B a s) (hn:0<s.cls.length):∃C,s.CA=some ⟨C,0,none⟩:=by
 obtain⟨C,hC,_⟩:=h.own.some_ hn
 exact⟨C,hC⟩
theorem IsAr.hasS {w:World} {B a:Nat} {s:Ar} (h:IsAr w B a s) {i:Nat} {c:Cls} (hc:s.cls[i]?=some c) (hn:0<c.slots.length):∃S,c.SA=some ⟨S,0,none⟩:=by
 obtain⟨S,hS,_⟩:=(h.sl i c (fun e=> e) hc).some_ hn
 exact⟨S,hS⟩
theorem ArS.to {B:Nat} {w w':World} (k:Keeps (ArS B w) w w') (hB:w.heap.size≤B):Keeps NO w w':=⟨k.os,k.tape,k.output,k.size,fun b hb _=> k.block b hb (fun h=> by have:=h.1;omega)⟩
open Go.RowKit Cfp
def Chain (slots:List Slot):Int→List Nat→Prop
 | f,[]=> f= -1
 | f,k :: r=> f=(k:Int)∧∃x,slots[k]?=some x∧Chain slots x.next r
theorem Chain.bd {slots:List Slot} {f:Int} {l:List Nat} (h:Chain slots f l): -1≤f∧f<(slots.length:Int):=by
 rcases l with _ | ⟨k,r⟩
 ·have:f= -1:=h
  omega
 ·obtain⟨h1,x,h2,_⟩:=h
  have:=(List.getElem?_eq_some_iff.1 h2).1
  omega
theorem Chain.same {slots slots':List Slot}:∀ {l:List Nat} {f:Int},Chain slots f l→(∀k∈l,slots'[k]?=slots[k]?)→Chain slots' f l
 | [],_,h,_=> h
 | q :: r,f,h,he=> by
   obtain⟨h1,x,h2,h3⟩:=h
   exact⟨h1,x,by rw [he q (List.mem_cons_self ..)];exact h2,Chain.same h3 (fun k hk=> he k (List.mem_cons_of_mem _ hk))⟩
def Zbp:List Slot→Int
 | []=> 0
 | x :: l=> (if x.used then 1 else 0)+Zbp l
theorem Zcp:∀l:List Slot,0≤Zbp l∧Zbp l≤l.length
 | []=> by simp [Zbp]
 | x :: l=> by have:=Zcp l;simp only [Zbp,List.length_cons];split <;> (push_cast;omega)
theorem Zc3:∀(l:List Slot) (k:Nat) (x y:Slot),l[k]?=some x→Zbp (l.set k y)=Zbp l-(if x.used then 1 else 0)+(if y.used then 1 else 0)
 | [],_,_,_,h=> by simp at h
 | z :: l,0,x,y,h=> by
   simp at h
   subst h
   simp only [List.set_cons_zero,Zbp]
   omega
 | z :: l,k+1,x,y,h=> by
   simp only [List.set_cons_succ,Zbp]
   rw [Zc3 l k x y (by simpa using h)]
   omega
theorem Zk3 (l:List Slot) (y:Slot):Zbp (l++ [y])=Zbp l+(if y.used then 1 else 0):=by
 induction l with
 | nil=> simp [Zbp]
 | cons x l ih=> simp only [List.cons_append,Zbp,ih];omega
theorem Zfm:∀(l:List Slot) (k:Nat) (x:Slot),l[k]?=some x→x.used=true→1≤Zbp l
 | [],_,_,h,_=> by simp at h
 | z :: l,0,x,h,hu=> by
   simp at h
   subst h
   have:=Zcp l
   simp only [Zbp,hu,if_true]
   omega
 | z :: l,k+1,x,h,hu=> by
   have:=Zfm l k x (by simpa using h) hu
   simp only [Zbp]
   split <;> omega
theorem Zeg:∀(l:List Slot),(∀x∈l,x.used=true)→Zbp l=l.length
 | [],_=> rfl
 | x :: l,h=> by
   have:=Zeg l (fun y hy=> h y (List.mem_cons_of_mem _ hy))
   simp only [Zbp,h x (List.mem_cons_self ..),if_true,List.length_cons,this]
   push_cast;omega
def LV (s:Ar) (i k:Nat) (age:Int) (d:List UInt8):Prop:=∃c x,s.cls[i]?=some c∧c.slots[k]?=some x∧x.used=true∧x.age=age∧x.data=d
structure Inv (s:Ar) (L:Nat→List Nat) (M:Int):Prop where
 hn:s.cls.length≤8
 hp:0<s.cls.length
 ch:∀(i:Nat) (c:Cls),s.cls[i]?=some c→∃f,s.free[i]?=some f∧Chain c.slots f (L i)
 nd:∀i,(L i).Nodup
 us:∀(i:Nat) (c:Cls) (k:Nat) (x:Slot),s.cls[i]?=some c→c.slots[k]?=some x→(x.used=false ↔ k∈L i)
 ag:∀(i:Nat) (c:Cls) (k:Nat) (x:Slot),s.cls[i]?=some c→c.slots[k]?=some x→0≤x.age∧x.age≤M∧x.data.length≤4096
 lv:∀(i:Nat) (c:Cls),s.cls[i]?=some c→c.live=Zbp c.slots
 cb:∀(i:Nat) (c:Cls),s.cls[i]?=some c→(c.slots.length:Int)≤c.count∧c.count≤65536∧1≤c.size∧c.size≤4096
 fa:0≤s.faults∧s.faults≤M
def updL (L:Nat→List Nat) (i:Nat) (r:List Nat):Nat→List Nat:=fun j=> if j=i then r else L j
theorem Inv.more {s:Ar} {L:Nat→List Nat} {M M':Int} (h:Inv s L M) (hm:M≤M'):Inv s L M':=
 ⟨h.hn,h.hp,h.ch,h.nd,h.us,fun i c k x hc hx=> by have:=h.ag i c k x hc hx;omega,h.lv,h.cb,by have:=h.fa;omega⟩
theorem Inv.upd {s:Ar} {L:Nat→List Nat} {M M':Int} (h:Inv s L M) {i:Nat} {c c':Cls} {f':Int} {r:List Nat} (hm:M≤M') (hc:s.cls[i]?=some c) (hf:i<s.free.length)
  (hch:Chain c'.slots f' r) (hnd:r.Nodup) (hus:∀(k:Nat) (x:Slot),c'.slots[k]?=some x→(x.used=false ↔ k∈r)) (hag:∀(k:Nat) (x:Slot),c'.slots[k]?=some x→0≤x.age∧x.age≤M'∧x.data.length≤4096)
  (hlv:c'.live=Zbp c'.slots) (hcb:(c'.slots.length:Int)≤c'.count∧c'.count=c.count∧c'.size=c.size):
  Inv { s with free:=s.free.set i f',cls:=s.cls.set i c'} (updL L i r) M':=by
 have hil:=(List.getElem?_eq_some_iff.1 hc).1
 have hself:(s.cls.set i c')[i]?=some c':=by simp [hil]
 have hoth:∀j,j≠i→(s.cls.set i c')[j]?=s.cls[j]?:=fun j hj=> by rw [List.getElem?_set,if_neg (fun e=> hj e.symm)]
 refine⟨by simpa using h.hn,by simpa using h.hp,fun j d hd=> ?_,fun j=> ?_,fun j d k x hd hx=> ?_,fun j d k x hd hx=> ?_,fun j d hd=> ?_,fun j d hd=> ?_,by have:=h.fa;dsimp only;omega⟩
 ·by_cases e:j=i
  ·subst e
   dsimp only at hd
   rw [hself] at hd;injection hd with hd;subst hd
   exact⟨f',by simp [hf],by simpa [updL] using hch⟩
  ·dsimp only at hd
   rw [hoth j e] at hd
   obtain⟨f,h1,h2⟩:=h.ch j d hd
   exact⟨f,by dsimp only;rw [List.getElem?_set,if_neg (fun q=> e q.symm)];exact h1,by simpa [updL,e] using h2⟩
 ·by_cases e:j=i <;> simp [updL,e,hnd,h.nd j]
 ·by_cases e:j=i
  ·subst e
   dsimp only at hd
   rw [hself] at hd;injection hd with hd;subst hd
   simpa [updL] using hus k x hx
  ·dsimp only at hd
   rw [hoth j e] at hd
   simpa [updL,e] using h.us j d k x hd hx
 ·by_cases e:j=i
  ·subst e
   dsimp only at hd
   rw [hself] at hd;injection hd with hd;subst hd
   exact hag k x hx
  ·dsimp only at hd
   rw [hoth j e] at hd
   have:=h.ag j d k x hd hx;omega
 ·by_cases e:j=i
  ·subst e
   dsimp only at hd
   rw [hself] at hd;injection hd with hd;subst hd
   exact hlv
  ·dsimp only at hd
   rw [hoth j e] at hd
   exact h.lv j d hd
 ·have h1:=h.cb i c hc
  by_cases e:j=i
  ·subst e
   dsimp only at hd
   rw [hself] at hd;injection hd with hd;subst hd
   omega
  ·dsimp only at hd
   rw [hoth j e] at hd
   exact h.cb j d hd
theorem LV.upd {s:Ar} {i k:Nat} {c c':Cls} {fr:List Int} (hc:s.cls[i]?=some c) (hq:∀q,q≠k→c'.slots[q]?=c.slots[q]?) (j q:Nat) (g:Int) (d:List UInt8) (hne:¬(j=i∧q=k)):
  LV { s with free:=fr,cls:=s.cls.set i c'} j q g d ↔ LV s j q g d:=by
 have hil:=(List.getElem?_eq_some_iff.1 hc).1
 unfold LV
 by_cases e:j=i
 ·subst e
  have hqk:q≠k:=fun e=> hne ⟨rfl,e⟩
  constructor
  ·rintro⟨c1,x,h1,h2,h3⟩
   have:c1=c':=by simp [hil] at h1;exact h1.symm
   subst this
   exact⟨c,x,hc,by rw [←hq q hqk];exact h2,h3⟩
  ·rintro⟨c1,x,h1,h2,h3⟩
   rw [hc] at h1;injection h1 with h1;subst h1
   exact⟨c',x,by simp [hil],by rw [hq q hqk];exact h2,h3⟩
 ·have:(s.cls.set i c')[j]?=s.cls[j]?:=by rw [List.getElem?_set,if_neg (fun q=> e q.symm)]
  simp only [this]
def Zak (s:Ar):List (Int × Int):=s.cls.map (fun c=> (c.size,c.count))
def Za6 (s:Ar):List Int:=s.cls.map (fun c=> c.live)
theorem Zcs {s:Ar} {i:Nat} {c c':Cls} (hc:s.cls[i]?=some c) (h1:c'.size=c.size) (h2:c'.count=c.count):(s.cls.set i c').map (fun c=> (c.size,c.count))=Zak s:=by
 have hil:=(List.getElem?_eq_some_iff.1 hc).1
 unfold Zak
 refine List.ext_getElem? fun j=> ?_
 rw [List.getElem?_map,List.getElem?_map,List.getElem?_set]
 split
 ·next e=> subst e;rw [hc];simp [h1,h2]
 ·rfl
structure Got (s s':Ar) (i k:Nat) (age:Int) (size:Int):Prop where
 lvs:∀j q g d,LV s' j q g d ↔ (j=i∧q=k∧g=age∧d= [])∨LV s j q g d
 old:∀g d,¬LV s i k g d
 shape:Zak s'=Zak s
 lives:Za6 s'=(Za6 s).set i ((Za6 s).getD i 0+1)
 fit:∃c,s.cls[i]?=some c∧size≤c.size∧c.live+1≤c.count
 faults:s'.faults=s.faults
theorem Zso {l:List Cls} {size:Int} {i:Nat} {c:Cls} (h:fitK l size=i) (hc:l[i]?=some c):size≤c.size:=by
 have hil:=(List.getElem?_eq_some_iff.1 hc).1
 unfold fitK at h
 have:=List.findIdx_getElem (p:=fun c:Cls=> decide (size≤c.size)) (xs:=l) (w:=by rw [h];exact hil)
 simp only [h] at this
 rw [(List.getElem?_eq_some_iff.1 hc).2] at this
 simpa using this
open Go.RowKit Cfp
inductive Allocs (w:World) (B a:Nat) (s:Ar) (M:Int) (size:Int) (e:Ending) (w':World):Prop
 | range (he:e= .returned (.tuple #[.agg #[.int .i64 0,.int .i64 0,.int .i64 0],.int .i64 1])) (h:IsAr w' B a s) (k:Keeps NO w w') (hr:size<1∨∀(i:Nat) (c:Cls),s.cls[i]?=some c→c.size<size)
 | full (he:e= .returned (.tuple #[.agg #[.int .i64 0,.int .i64 0,.int .i64 0],.int .i64 7])) (h:IsAr w' B a s) (k:Keeps NO w w') (hf:∃(i:Nat) (c:Cls),s.cls[i]?=some c∧fitK s.cls size=i∧c.live=c.count)
 | ok (i j:Nat) (age:Int) (s':Ar) (L':Nat→List Nat) (he:e= .returned (.tuple #[.agg #[.int .i64 i,.int .i64 j,.int .i64 age],.int .i64 0])) (h:IsAr w' B a s') (v:Inv s' L' (M+1)) (g:Got s s' i j age size) (ha:1≤age∧age≤M+1) (k:Keeps (ArS B w) w w') (hfit:fitK s.cls size=i)
theorem Zg8 {s:Ar} {i:Nat} {c c':Cls} (hc:s.cls[i]?=some c) (h1:c'.live=c.live+1):(s.cls.set i c').map (fun c=> c.live)=(Za6 s).set i ((Za6 s).getD i 0+1):=by
 have:(Za6 s).getD i 0=c.live:=by simp [Za6,List.getD,hc]
 rw [this,List.map_set,h1]
 rfl
theorem Zd2 (B a:Nat) (s:Ar) (L:Nat→List Nat) (M:Int) (size:Int) (w:World) (h:IsAr w B a s) (v:Inv s L M) (hM:0≤M∧M<1000000000) (hB:B≤w.heap.size):
  Calls Tryz.prog 120 #[.pointer (some ⟨a,0,none⟩),.int .i64 size] w (Allocs w B a s M size):=by
 obtain⟨C,hC⟩:=h.hasC v.hp
 by_cases h1:size<1
 ·exact(Zit B a s size w h v.hn (.inl h1)).mono fun e w' ⟨he,k⟩=> .range he (h.quiet k) k (.inl h1)
 by_cases h2:fitK s.cls size=s.cls.length
 ·refine(Zit B a s size w h v.hn (.inr h2)).mono fun e w' ⟨he,k⟩=> .range he (h.quiet k) k (.inr fun i c hc=> ?_)
  unfold fitK at h2
  rw [List.findIdx_eq_length] at h2
  have:=h2 c (List.mem_of_getElem? hc)
  simp at this
  omega
 obtain⟨i,hi⟩:∃i,i=fitK s.cls size:=⟨_,rfl⟩
 have hil:i<s.cls.length:=by have:=Zsn s.cls size;omega
 have hi8:i<s.free.length:=by rw [h.fl];have:=v.hn;omega
 obtain⟨c,hc⟩:∃c,s.cls[i]?=some c:=⟨s.cls[i],by simp [hil]⟩
 obtain⟨f,hf,hch⟩:=v.ch i c hc
 have hcb:=v.cb i c hc
 have hlv:=v.lv i c hc
 have hub:=Zcp c.slots
 have hfs:=Zso hi.symm hc
 rcases hL:L i with _ | ⟨k,r⟩
 ·rw [hL] at hch
  obtain rfl:f= -1:=hch
  by_cases hroom:(c.slots.length:Int)<c.count
  ·refine(Zmz B a s i C c size w h v.hn (by omega) hi.symm ⟨hC,hc,hf⟩ hroom hcb.2.1 (by omega) hB).mono ?_
   rintro e w' ⟨he,⟨SA,sc,h2⟩,k2⟩
   have hfs2:s.free.set i (-1)=s.free:=by
    refine List.ext_getElem? fun j=> ?_
    rw [List.getElem?_set]
    split
    ·next e=> subst e;rw [hf]
    ·rfl
   have hinv:=v.upd (M':=M+1) (c':= { c with SA:=SA,sc:=sc,slots:=c.slots++ [Slot.zero.taken],live:=c.live+1}) (f':= -1) (r:= []) (by omega) hc hi8 rfl List.nodup_nil (fun k x hx=> ?_) (fun k x hx=> ?_) (by simp [Zk3,Slot.taken,hlv]) ⟨by simp;omega,rfl,rfl⟩
   ·rw [hfs2] at hinv
    refine .ok i c.slots.length 1 _ _ he h2 hinv ⟨fun j q g d=> ?_,fun g d hl=> ?_,?_,?_,⟨c,hc,hfs,by omega⟩,rfl⟩ (by omega) k2 hi.symm
    ·by_cases e:j=i∧q=c.slots.length
     ·obtain⟨rfl,rfl⟩:=e
      constructor
      ·rintro⟨c1,x,h3,h4,h5,h6,h7⟩
       simp [hil] at h3
       subst h3
       simp at h4
       subst h4
       exact .inl ⟨rfl,rfl,h6.symm,h7.symm⟩
      ·rintro(⟨_,_,rfl,rfl⟩ | ⟨c1,x,h3,h4,_⟩)
       ·exact⟨_,Slot.zero.taken,by simp [hil];rfl,by simp,rfl,rfl,rfl⟩
       ·rw [hc] at h3;injection h3 with h3;subst h3
        have:=(List.getElem?_eq_some_iff.1 h4).1
        omega
     ·have:=LV.upd (fr:=s.free) (k:=c.slots.length) (c':= { c with SA:=SA,sc:=sc,slots:=c.slots++ [Slot.zero.taken],live:=c.live+1}) hc (fun q hq=> by
       dsimp only
       by_cases hlt:q<c.slots.length
       ·rw [List.getElem?_append_left hlt]
       ·rw [List.getElem?_eq_none (by simp;omega),List.getElem?_eq_none (by omega)]) j q g d e
      exact this.trans ⟨.inr,fun h=> h.elim (fun h=> absurd ⟨h.1,h.2.1⟩ e) id⟩
    ·obtain⟨c1,x,h3,h4,_⟩:=hl
     rw [hc] at h3;injection h3 with h3;subst h3
     have:=(List.getElem?_eq_some_iff.1 h4).1
     omega
    ·exact Zcs hc rfl rfl
    ·exact Zg8 hc rfl
   ·dsimp only at hx
    by_cases hlt:k<c.slots.length
    ·rw [List.getElem?_append_left hlt] at hx
     have:=v.us i c k x hc hx
     rw [hL] at this
     exact this
    ·have hkl:=(List.getElem?_eq_some_iff.1 hx).1
     simp at hkl
     obtain rfl:k=c.slots.length:=by omega
     simp at hx
     subst hx
     simp [Slot.taken]
   ·dsimp only at hx
    by_cases hlt:k<c.slots.length
    ·rw [List.getElem?_append_left hlt] at hx
     have:=v.ag i c k x hc hx
     omega
    ·have hkl:=(List.getElem?_eq_some_iff.1 hx).1
     simp at hkl
     obtain rfl:k=c.slots.length:=by omega
     simp at hx
     subst hx
     simp [Slot.taken,Slot.zero]
     omega
  ·refine(Zjv B a s i C c size w h v.hn (by omega) hi.symm ⟨hC,hc,hf⟩ (by omega) (by omega) (by omega)).mono fun e w' ⟨he,k⟩=> .full he (h.quiet k) k ⟨i,c,hc,hi.symm,?_⟩
   have:Zbp c.slots=c.slots.length:=Zeg _ (fun x hx=> by
    obtain⟨q,hq,hqe⟩:=List.getElem_of_mem hx
    have h3:=v.us i c q x hc (by rw [List.getElem?_eq_getElem hq,hqe])
    rw [hL] at h3
    rcases hu:x.used with _ | _
    ·rw [hu] at h3;simp at h3
    ·rfl)
   omega
 ·rw [hL] at hch
  obtain⟨rfl,x,hx,hch2⟩:=hch
  have hag:=v.ag i c k x hc hx
  have hkl:=(List.getElem?_eq_some_iff.1 hx).1
  have hnd:k ∉ r∧r.Nodup:=by have:=v.nd i;rw [hL] at this;exact List.nodup_cons.1 this
  have hxu:x.used=false:=(v.us i c k x hc hx).2 (by rw [hL];exact List.mem_cons_self ..)
  have hnb:=hch2.bd
  refine(Zjw B a s i C k c x size w h v.hn (by omega) hi.symm ⟨hC,hc,hf⟩ hx (by omega) (by omega) (by omega) (by omega)).mono ?_
  rintro e w' ⟨he,h2,k2⟩
  have hinv:=v.upd (M':=M+1) (c':= { c with slots:=c.slots.set k x.taken,live:=c.live+1}) (f':=x.next) (r:=r) (by omega) hc hi8 (hch2.same fun q hq=> by
    have hne:¬k=q:=fun e=> hnd.1 (by rw [e];exact hq)
    dsimp only
    rw [List.getElem?_set,if_neg hne]) hnd.2 (fun q y hy=> ?_) (fun q y hy=> ?_) (by dsimp only;rw [Zc3 _ _ _ _ hx,hxu,hlv];simp [Slot.taken]) ⟨by simp;omega,rfl,rfl⟩
  ·refine .ok i k (x.age+1) _ _ he h2 hinv ⟨fun j q g d=> ?_,fun g d hl=> ?_,?_,?_,⟨c,hc,hfs,?_⟩,rfl⟩ (by omega) k2 hi.symm
   ·by_cases e:j=i∧q=k
    ·obtain⟨rfl,rfl⟩:=e
     constructor
     ·rintro⟨c1,y,h3,h4,h5,h6,h7⟩
      simp [hil] at h3
      subst h3
      simp [hkl] at h4
      subst h4
      exact .inl ⟨rfl,rfl,h6.symm,h7.symm⟩
     ·rintro(⟨_,_,rfl,rfl⟩ | ⟨c1,y,h3,h4,h5,_⟩)
      ·exact⟨_,x.taken,by simp [hil];rfl,by simp [hkl],rfl,rfl,rfl⟩
      ·rw [hc] at h3;injection h3 with h3;subst h3
       rw [hx] at h4;injection h4 with h4;subst h4
       rw [hxu] at h5;cases h5
    ·have:=LV.upd (fr:=s.free.set i x.next) (k:=k) (c':= { c with slots:=c.slots.set k x.taken,live:=c.live+1}) hc (fun q hq=> by
      dsimp only
      rw [List.getElem?_set,if_neg (fun e=> hq e.symm)]) j q g d e
     exact this.trans ⟨.inr,fun h=> h.elim (fun h=> absurd ⟨h.1,h.2.1⟩ e) id⟩
   ·obtain⟨c1,y,h3,h4,h5,_⟩:=hl
    rw [hc] at h3;injection h3 with h3;subst h3
    rw [hx] at h4;injection h4 with h4;subst h4
    rw [hxu] at h5;cases h5
   ·exact Zcs hc rfl rfl
   ·exact Zg8 hc rfl
   ·have h3:=Zc3 c.slots k x { x with used:=true} hx
    have h4:=Zcp (c.slots.set k { x with used:=true})
    rw [hxu] at h3
    simp at h3 h4
    omega
  ·dsimp only at hy
   rw [List.getElem?_set] at hy
   split at hy
   ·next e=>
    subst e
    simp [hkl] at hy
    subst hy
    simp [Slot.taken,hnd.1]
   ·next e=>
    have:=v.us i c q y hc hy
    rw [hL] at this
    rw [this]
    simp [show q≠k from fun h=> e h.symm]
  ·dsimp only at hy
   rw [List.getElem?_set] at hy
   split at hy
   ·next e=>
    subst e
    simp [hkl] at hy
    subst hy
    simp [Slot.taken]
    omega
   ·have:=v.ag i c q y hc hy
    omega
open Go.RowKit Cfp
structure Gone (s s':Ar) (i k:Nat):Prop where
 lvs:∀j q g d,LV s' j q g d ↔ LV s j q g d∧¬(j=i∧q=k)
 shape:Zak s'=Zak s
 lives:Za6 s'=(Za6 s).set i ((Za6 s).getD i 0-1)
 hi:i<s.cls.length∧1≤(Za6 s).getD i 0
 faults:s'.faults=s.faults
theorem Zjj {s:Ar} {i:Nat} {c c':Cls} (hc:s.cls[i]?=some c) (h1:c'.live=c.live-1):(s.cls.set i c').map (fun c=> c.live)=(Za6 s).set i ((Za6 s).getD i 0-1):=by
 have:(Za6 s).getD i 0=c.live:=by simp [Za6,List.getD,hc]
 rw [this,List.map_set,h1]
 rfl
theorem LV.live {s:Ar} {i k:Nat} {age:Int} {d:List UInt8} (h:LV s i k age d):∃c x,Live s i k age c x∧x.data=d:=by
 obtain⟨c,x,h1,h2,h3,h4,h5⟩:=h
 exact⟨c,x,⟨h1,h2,h3,h4⟩,h5⟩
theorem LV.one {s:Ar} {i k:Nat} {age age':Int} {d d':List UInt8} (h:LV s i k age d) (h':LV s i k age' d'):age=age'∧d=d':=by
 obtain⟨c,x,h1,h2,h3,h4,h5⟩:=h
 obtain⟨c',x',g1,g2,g3,g4,g5⟩:=h'
 rw [h1] at g1;injection g1 with g1;subst g1
 rw [h2] at g2;injection g2 with g2;subst g2
 exact⟨h4.symm.trans g4,h5.symm.trans g5⟩
theorem Zdr (B a:Nat) (s:Ar) (L:Nat→List Nat) (M:Int) (i k:Nat) (age:Int) (d:List UInt8) (w:World) (h:IsAr w B a s) (v:Inv s L M) (hl:LV s i k age d):
  Calls Tryz.prog 122 #[.pointer (some ⟨a,0,none⟩),.agg #[.int .i64 i,.int .i64 k,.int .i64 age]] w fun e w'=> e= .returned (.int .i64 0)∧
   (∃s' L',IsAr w' B a s'∧Inv s' L' M∧Gone s s' i k)∧Keeps (ArS B w) w w':=by
 obtain⟨C,hC⟩:=h.hasC v.hp
 obtain⟨c,x,hv,hxd⟩:=hl.live
 have hc:=hv.hc
 have hx:=hv.hx
 have hil:i<s.cls.length:=(List.getElem?_eq_some_iff.1 hc).1
 have hkl:k<c.slots.length:=(List.getElem?_eq_some_iff.1 hx).1
 have hi8:i<s.free.length:=by rw [h.fl];have:=v.hn;omega
 obtain⟨f,hf,hch⟩:=v.ch i c hc
 obtain⟨S,hS⟩:=h.hasS hc (by omega)
 have hcb:=v.cb i c hc
 have hlv:=v.lv i c hc
 have hub:=Zcp c.slots
 have hu1:=Zfm c.slots k x hx hv.us
 have hag:=v.ag i c k x hc hx
 have hkn:k ∉ L i:=fun hk=> by
  have:=(v.us i c k x hc hx).2 hk
  rw [hv.us] at this;cases this
 refine(Zsf B a s i k C S age f c x w h v.hn (by omega) hv hC hS hf (by omega)).mono ?_
 rintro e w' ⟨he,h2,k2⟩
 have hne:∀q∈L i,¬k=q:=fun q hq e=> hkn (e ▸ hq)
 have hinv:=v.upd (M':=M) (c':= { c with slots:=c.slots.set k (x.freed f),live:=c.live-1}) (f':=(k:Int)) (r:=k :: L i) (Int.le_refl _) hc hi8 ⟨rfl,x.freed f,by simp [hkl],hch.same fun q hq=> by
   dsimp only
   rw [List.getElem?_set,if_neg (hne q hq)]⟩ (List.nodup_cons.2 ⟨hkn,v.nd i⟩) (fun q y hy=> ?_) (fun q y hy=> ?_) (by dsimp only;rw [Zc3 _ _ _ _ hx,hv.us,hlv];simp [Slot.freed]) ⟨by simp;omega,rfl,rfl⟩
 ·refine⟨he,⟨_,_,h2,hinv,⟨fun j q g d=> ?_,Zcs hc rfl rfl,Zjj hc rfl,⟨hil,?_⟩,rfl⟩⟩,k2⟩
  ·by_cases e:j=i∧q=k
   ·obtain⟨rfl,rfl⟩:=e
    constructor
    ·rintro⟨c1,y,h3,h4,h5,_⟩
     simp [hil] at h3
     subst h3
     simp [hkl] at h4
     subst h4
     cases h5
    ·exact fun h=> absurd ⟨rfl,rfl⟩ h.2
   ·have:=LV.upd (fr:=s.free.set i (k:Int)) (k:=k) (c':= { c with slots:=c.slots.set k (x.freed f),live:=c.live-1}) hc (fun q hq=> by
     dsimp only
     rw [List.getElem?_set,if_neg (fun e=> hq e.symm)]) j q g d e
    exact this.trans ⟨fun h=> ⟨h,e⟩,fun h=> h.1⟩
  ·have:(Za6 s).getD i 0=c.live:=by simp [Za6,List.getD,hc]
   omega
 ·dsimp only at hy
  rw [List.getElem?_set] at hy
  split at hy
  ·next e=>
   subst e
   simp [hkl] at hy
   subst hy
   simp [Slot.freed]
  ·next e=>
   have:=v.us i c q y hc hy
   rw [this]
   simp [show q≠k from fun h=> e h.symm]
 ·dsimp only at hy
  rw [List.getElem?_set] at hy
  split at hy
  ·next e=>
   subst e
   simp [hkl] at hy
   subst hy
   simp [Slot.freed]
   omega
  ·have:=v.ag i c q y hc hy
   omega
structure Wrote (s s':Ar) (i k:Nat) (age:Int) (bs:List UInt8):Prop where
 lvs:∀j q g d,LV s' j q g d ↔ (j=i∧q=k∧g=age∧d=bs)∨(LV s j q g d∧¬(j=i∧q=k))
 shape:Zak s'=Zak s
 lives:Za6 s'=Za6 s
 faults:s'.faults=s.faults
theorem Zk0 (B a:Nat) (s:Ar) (L:Nat→List Nat) (M:Int) (i k:Nat) (age:Int) (d:List UInt8) (c0:Cls) (D:Option Addr) (n m Bd:Nat) (bs:List UInt8) (w:World) (h:IsAr w B a s) (v:Inv s L M) (hl:LV s i k age d)
  (hc0:s.cls[i]?=some c0) (hn:(n:Int)≤c0.size) (hr:Rd w Bd D 1 n (bs.map by8)) (hBd:Bd≤w.heap.size) (hB:B≤w.heap.size):
  Calls Tryz.prog 174 #[.pointer (some ⟨a,0,none⟩),.agg #[.int .i64 i,.int .i64 k,.int .i64 age],.slice D n m] w fun e w'=> e= .returned (.int .i64 0)∧
   (∃s' L',IsAr w' B a s'∧Inv s' L' M∧Wrote s s' i k age bs)∧Keeps (ArS B w) w w':=by
 obtain⟨C,hC⟩:=h.hasC v.hp
 obtain⟨c,x,hv,hxd⟩:=hl.live
 have hc:=hv.hc
 have hx:=hv.hx
 have:c0=c:=by rw [hc0] at hc;injection hc
 subst this
 have hil:i<s.cls.length:=(List.getElem?_eq_some_iff.1 hc).1
 have hkl:k<c0.slots.length:=(List.getElem?_eq_some_iff.1 hx).1
 have hi8:i<s.free.length:=by rw [h.fl];have:=v.hn;omega
 obtain⟨f,hf,hch⟩:=v.ch i c0 hc
 obtain⟨S,hS⟩:=h.hasS hc (by omega)
 have hcb:=v.cb i c0 hc
 have hlv:=v.lv i c0 hc
 have hag:=v.ag i c0 k x hc hx
 have hbn:bs.length=n:=by have:=hr.1;simpa using this
 have hkn:k ∉ L i:=fun hk=> by
  have:=(v.us i c0 k x hc hx).2 hk
  rw [hv.us] at this;cases this
 have hne:∀q∈L i,¬k=q:=fun q hq e=> hkn (e ▸ hq)
 have hfs2:s.free.set i f=s.free:=by
  refine List.ext_getElem? fun j=> ?_
  rw [List.getElem?_set]
  split
  ·next e=> subst e;rw [hf]
  ·rfl
 refine(Znc B a s i k C S age c0 x D n m Bd bs w h v.hn (by omega) hv hC hS hn hcb.2.2.2 hr hBd hB).mono ?_
 rintro e w' ⟨he,⟨D',dc',h2⟩,k2⟩
 have hinv:=v.upd (M':=M) (c':= { c0 with slots:=c0.slots.set k { x with D:=D',dc:=dc',data:=bs}}) (f':=f) (r:=L i) (Int.le_refl _) hc hi8 (hch.same fun q hq=> by
   dsimp only
   rw [List.getElem?_set,if_neg (hne q hq)]) (v.nd i) (fun q y hy=> ?_) (fun q y hy=> ?_) (by dsimp only;rw [Zc3 _ _ _ _ hx,hv.us,hlv];simp) ⟨by simp;omega,rfl,rfl⟩
 ·rw [hfs2] at hinv
  refine⟨he,⟨_,_,h2,hinv,⟨fun j q g d=> ?_,Zcs hc rfl rfl,?_,rfl⟩⟩,k2⟩
  ·by_cases e:j=i∧q=k
   ·obtain⟨rfl,rfl⟩:=e
    constructor
    ·rintro⟨c1,y,h3,h4,h5,h6,h7⟩
     simp [hil] at h3
     subst h3
     simp [hkl] at h4
     subst h4
     exact .inl ⟨rfl,rfl,by rw [←h6];exact hv.ag,h7.symm⟩
    ·rintro(⟨_,_,rfl,rfl⟩ | h)
     ·exact⟨_,{ x with D:=D',dc:=dc',data:=d},by simp [hil];rfl,by simp [hkl],hv.us,hv.ag,rfl⟩
     ·exact absurd ⟨rfl,rfl⟩ h.2
   ·have:=LV.upd (fr:=s.free) (k:=k) (c':= { c0 with slots:=c0.slots.set k { x with D:=D',dc:=dc',data:=bs}}) hc (fun q hq=> by
     dsimp only
     rw [List.getElem?_set,if_neg (fun e=> hq e.symm)]) j q g d e
    exact this.trans ⟨fun h=> .inr ⟨h,e⟩,fun h=> h.elim (fun h=> absurd ⟨h.1,h.2.1⟩ e) (fun h=> h.1)⟩
  ·have hg:(Za6 s).getD i 0=c0.live:=by simp [Za6,List.getD,hc]
   show(s.cls.set i _).map (fun c=> c.live)=Za6 s
   rw [List.map_set]
   refine List.ext_getElem? fun j=> ?_
   rw [List.getElem?_set]
   split
   ·next e=> subst e;simp only [Za6,List.getElem?_map,hc,List.length_map,Option.map_some];first | rfl | rw [if_pos hil]
   ·rfl
 ·dsimp only at hy
  rw [List.getElem?_set] at hy
  split at hy
  ·next e=>
   subst e
   simp [hkl] at hy
   subst hy
   simp [hv.us,hkn]
  ·exact v.us i c0 q y hc hy
 ·dsimp only at hy
  rw [List.getElem?_set] at hy
  split at hy
  ·next e=>
   subst e
   simp [hkl] at hy
   subst hy
   dsimp only
   omega
  ·have:=v.ag i c0 q y hc hy
   omega
theorem read_any (B a:Nat) (s:Ar) (L:Nat→List Nat) (M:Int) (i k:Nat) (age:Int) (d:List UInt8) (w:World) (h:IsAr w B a s) (v:Inv s L M) (hl:LV s i k age d) (hB:B≤w.heap.size):
  Calls Tryz.prog 284 #[.pointer (some ⟨a,0,none⟩),.agg #[.int .i64 i,.int .i64 k,.int .i64 age]] w fun e w'=> (∃D m,e= .returned (.tuple #[.slice D d.length m,.int .i64 0])∧Own w' w.heap.size 5 1 D d.length m (d.map by8))∧Keeps NO w w':=by
 obtain⟨C,hC⟩:=h.hasC v.hp
 obtain⟨c,x,hv,rfl⟩:=hl.live
 have hkl:k<c.slots.length:=(List.getElem?_eq_some_iff.1 hv.hx).1
 obtain⟨S,hS⟩:=h.hasS hv.hc (by omega)
 have hcb:=v.cb i c hv.hc
 have hag:=v.ag i c k x hv.hc hv.hx
 exact Zrh B a s i k C S age c x w h v.hn (by omega) hv hC hS (by omega) hB
theorem Zs5 (l:List (Int × Int)) (hE:Za7 l=0) (CA:Option Addr) (cap n:Nat) (hn:l.length=n):Inv (Zap l n CA cap) (fun _=> []) 0:=by
 obtain⟨⟨n0,n1⟩,hlb⟩:=Ze9 l hE
 have hcl:(Zap l n CA cap).cls=l.map mkC:=by unfold Zap;rw [←hn,List.take_length]
 have hm:∀(i:Nat) (c:Cls),(Zap l n CA cap).cls[i]?=some c→∃x∈l,c=mkC x:=fun i c h=> by
  rw [hcl] at h
  have:=List.mem_of_getElem? h
  obtain⟨x,hx,rfl⟩:=List.mem_map.1 this
  exact⟨x,hx,rfl⟩
 refine⟨by rw [hcl,List.length_map];exact n1,by rw [hcl,List.length_map];exact n0,fun i c h=> ⟨-1,?_,rfl⟩,fun _=> List.nodup_nil,fun i c k x h hx=> ?_,fun i c k x h hx=> ?_,fun i c h=> ?_,fun i c h=> ?_,by show(0:Int)≤0∧(0:Int)≤0;omega⟩
 ·have hi:i<n:=by have:=(List.getElem?_eq_some_iff.1 h).1;rw [hcl,List.length_map,hn] at this;exact this
  show(List.replicate n (-1:Int)++List.replicate (8-n) 0)[i]?=some (-1)
  rw [List.getElem?_append_left (by simpa using hi)]
  simp [List.getElem?_replicate,hi]
 ·obtain⟨y,hy,rfl⟩:=hm i c h
  simp [mkC] at hx
 ·obtain⟨y,hy,rfl⟩:=hm i c h
  simp [mkC] at hx
 ·obtain⟨y,hy,rfl⟩:=hm i c h
  rfl
 ·obtain⟨y,hy,rfl⟩:=hm i c h
  have:=hlb y hy
  simp [mkC]
  omega
end Go.Proofs.YtjamiaamngalgaaGreat
