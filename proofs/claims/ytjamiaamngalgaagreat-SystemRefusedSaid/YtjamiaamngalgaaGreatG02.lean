/-
  Parts: arena.Alloc; arena.Alloc where the si; arena.Alloc out of the f; arena.find: a live handl; arena.Free, Write. No conditions beyond those of the statement.
-/
import Derived.Test.YtjamiaamngalgaaGreatG01
import Derived.Deep.CutRange
set_option linter.unusedVariables false
set_option linter.unusedSimpArgs false
set_option maxRecDepth 1000000
set_option maxHeartbeats 4000000
namespace Go.Proofs.YtjamiaamngalgaaGreat
open Go.RowKit
section
variable {w w':World} {B a:Nat} {s:Ar} {X:Nat→Prop} {S:Nat→Prop}
theorem IsArH.free_cell (h:IsArH w B a s X) {i:Nat} {f:Int} (hf:s.free[i]?=some f):w.cell? ⟨a,1+i,none⟩=some (.int .i64 f):=by
 rw [h.blk.cell,List.getElem?_toArray,Nat.add_comm]
 unfold arC
 have hi:=(List.getElem?_eq_some_iff.1 hf).1
 rw [List.getElem?_cons_succ,List.getElem?_append_left (by simpa using hi),List.getElem?_map,hf]
 rfl
theorem IsArH.classes_cell (h:IsArH w B a s X):w.cell? ⟨a,0,none⟩=some (.slice s.CA s.cls.length s.cap):=by
 rw [h.blk.cell];rfl
theorem Zpo (s:Ar) (i:Nat) (f:Int) (hi:i<s.free.length):arC { s with free:=s.free.set i f}=(arC s).set (1+i) (.int .i64 f):=by
 unfold arC
 rw [Nat.add_comm,List.set_cons_succ,List.set_append_left _ _ (by simpa using hi),List.map_set]
theorem IsArH.setFree (h:IsArH w B a s X) (i:Nat) (f:Int) (hi:i<8):IsArH (w.setCell ⟨a,1+i,none⟩ (.int .i64 f)) B a { s with free:=s.free.set i f} X:=
 h.arena _ _ _ rfl rfl rfl (by simp [h.fl]) (Zpo s i f (by rw [h.fl];exact hi))
theorem Own.slot {S n c k q:Nat} {l:List Slot} {x y:Slot} {v:Value} (h:Own w B 306 4 (some ⟨S,0,none⟩) n c (Zb7 l)) (hx:l[k]?=some x) (hq:q<4) (hy:Zfr y=(Zfr x).set q v):
  Own (w.setCell ⟨S,k*4+q,none⟩ v) B 306 4 (some ⟨S,0,none⟩) n c (Zb7 (l.set k y)):=by
 have:=h.store (k*4+q) v
 rw [Zj3 hx hq hy] at this
 exact this
def ArS (B:Nat) (w:World) (k:Nat):Prop:=B≤k∧∃cs t,Blk w k t cs∧(t=144∨t=147∨t=306)
theorem ArS.trans {w0:World} (h:Keeps (ArS B w0) w0 w) (k:Keeps (ArS B w) w w'):Keeps (ArS B w0) w0 w':=by
 refine h.step k (fun b hb hS=> ?_)
 by_cases hn:ArS B w0 b
 ·exact hn
 ·obtain⟨h1,cs,t,h2,h3⟩:=hS
  exact⟨h1,cs,t,(h.block b hb hn).symm.trans h2,h3⟩
theorem ArS.quiet {w0:World} (h:Keeps NO w0 w) (k:Keeps (ArS B w) w w'):Keeps (ArS B w0) w0 w':=ArS.trans (h.weak (fun _ _ h=> h.elim)) k
theorem ArS.ar (h:IsArH w B a s X):ArS B w a:=⟨h.le,_,_,h.blk,.inl rfl⟩
theorem ArS.cls {C:Nat} (h:IsArH w B a s X) (hC:s.CA=some ⟨C,0,none⟩):ArS B w C:=by
 have ho:=h.own
 rw [hC] at ho
 have hi:inB (some ⟨C,0,none⟩:Option Addr) C:=⟨_,rfl,rfl⟩
 obtain⟨cs,hb⟩:=ho.blk hi
 exact⟨(ho.inB hi).1,cs,_,hb,.inr (.inl rfl)⟩
theorem ArS.slot {S n c:Nat} {xs:List Value} (ho:Own w B 306 4 (some ⟨S,0,none⟩) n c xs):ArS B w S:=by
 have hi:inB (some ⟨S,0,none⟩:Option Addr) S:=⟨_,rfl,rfl⟩
 obtain⟨cs,hb⟩:=ho.blk hi
 exact⟨(ho.inB hi).1,cs,_,hb,.inr (.inr rfl)⟩
theorem ArS.not {t:TypeId} {b:Nat} {cs:Array Value} (h:Blk w b t cs) (h1:t≠144) (h2:t≠147) (h3:t≠306):¬ArS B w b:=by
 rintro⟨_,cs',t',hb,h4⟩
 have:=Za8 h hb
 rcases h4 with rfl | rfl | rfl
 ·exact h1 this
 ·exact h2 this
 ·exact h3 this
theorem Zaf (w:World) (S j:Nat) (v:Value):Keeps (· =S) w (w.setCell ⟨S,j,none⟩ v):=Keeps.setCell (S:=(· =S)) (p:=⟨S,j,none⟩) (Kz0 _ _) (.inl rfl) _
end
theorem Blk.set3 {w:World} {g:Nat} {t:TypeId} {x y z:Value} (h:Blk w g t #[x,y,z]) (x' y' z':Value):Blk (((w.setCell ⟨g,0,none⟩ x').setCell ⟨g,1,none⟩ y').setCell ⟨g,2,none⟩ z') g t #[x',y',z']:=((Blk.set h 0 x').set 1 y').set 2 z'
theorem Ze4 (w:World) (g:Nat) (x' y' z':Value):Keeps (· =g) w (((w.setCell ⟨g,0,none⟩ x').setCell ⟨g,1,none⟩ y').setCell ⟨g,2,none⟩ z'):=
 ((Zaf w g 0 x').trans (Zaf _ g 1 y')).trans (Zaf _ g 2 z')
theorem Zit (B a:Nat) (s:Ar) (size:Int) (w:World) (h:IsAr w B a s) (hn:s.cls.length≤8) (h1:size<1∨fitK s.cls size=s.cls.length):
  Calls Tryz.prog 120 #[.pointer (some ⟨a,0,none⟩),.int .i64 size] w fun e w'=> e= .returned (.tuple #[.agg #[.int .i64 0,.int .i64 0,.int .i64 0],.int .i64 1])∧Keeps NO w w':=by
 have k1:=(Kz0 NO w).alloc (.cells #[.int .i64 0,.int .i64 0,.int .i64 0] 236)
 have b1:=zz (Blk.new w 236 #[.int .i64 0,.int .i64 0,.int .i64 0])
 have HF:=zz (Zut B a s size _ (h.quiet k1) hn h1)
 have K1:=zz k1
 clear h hn h1 k1
 go_enter Tryz.func120,Tryz.ntmps120
 go_wp2_with fail
 refine HF.out.mono ?_
 rintro e w2 ⟨rfl,k2⟩
 have K2:=zz (K1.out.trans k2)
 have b2:=zz (b1.out.kept k2 (fun h=> h))
 obtain⟨⟨q0,q1,q2⟩,⟨f0,f1,f2⟩,hz⟩:=b2.out.three
 clear k2
 go_wp2_with fail
 have b3:=zz (b2.out.set3 (.int .i64 0) (.int .i64 0) (.int .i64 0))
 have K3:=zz (K2.out.step (Ze4 w2 w.heap.size (.int .i64 0) (.int .i64 0) (.int .i64 0)) (fun b hb e=> by omega))
 generalize ((w2.setCell _ _).setCell _ _).setCell _ _=w3 at*
 have r0:=b3.out.cell 0
 have r1:=b3.out.cell 1
 have r2:=b3.out.cell 2
 refine bodyPost_ret (v:= .tuple #[.agg #[(.int .i64 0),(.int .i64 0),(.int .i64 0)],.int .i64 1]) (by simp [results,Tryz.results120,go_sem,r0,r1,r2]) rfl ?_
 exact⟨rfl,K3.out⟩
open Go.RowKit
structure At (s:Ar) (i C:Nat) (c:Cls) (f:Int):Prop where
 hC:s.CA=some ⟨C,0,none⟩
 hc:s.cls[i]?=some c
 hf:s.free[i]?=some f
def Slot.taken (x:Slot):Slot:= { x with age:=x.age+1,used:=true,D:=none,dc:=0,data:= []}
theorem Zjv (B a:Nat) (s:Ar) (i C:Nat) (c:Cls) (size:Int) (w:World) (h:IsAr w B a s) (hn:s.cls.length≤8) (h1:1≤size) (hk:fitK s.cls size=i) (hat:At s i C c (-1)) (hfull:c.count≤c.slots.length) (hl:c.slots.length≤65536) (hcn:0≤c.count):
  Calls Tryz.prog 120 #[.pointer (some ⟨a,0,none⟩),.int .i64 size] w fun e w'=> e= .returned (.tuple #[.agg #[.int .i64 0,.int .i64 0,.int .i64 0],.int .i64 7])∧Keeps NO w w':=by
 have hi:i<s.cls.length:=(List.getElem?_eq_some_iff.1 hat.hc).1
 have k1:=(Kz0 NO w).alloc (.cells #[.int .i64 0,.int .i64 0,.int .i64 0] 236)
 have b1:=zz (Blk.new w 236 #[.int .i64 0,.int .i64 0,.int .i64 0])
 have HF:=zz (Zm4 B a s i size _ (h.quiet k1) hn h1 hk hi)
 have H1:=zz (h.quiet k1)
 have K1:=zz k1
 have HAt:=zz hat
 obtain⟨m,hm⟩:∃m,m=s.cls.length:=⟨_,rfl⟩
 rw [←hm] at hi hn
 have HM:=zz hm
 obtain⟨sn,hsn⟩:∃sn,sn=c.slots.length:=⟨_,rfl⟩
 rw [←hsn] at hfull hl
 have HSn:=zz hsn
 clear h hk k1 hat hm hsn
 go_enter Tryz.func120,Tryz.ntmps120
 go_wp2_with fail
 refine HF.out.mono ?_
 rintro e w2 ⟨rfl,k2⟩
 have K2:=zz (K1.out.trans k2)
 have b2:=zz (b1.out.kept k2 (fun h=> h))
 have H2:=zz (H1.out.quiet k2)
 obtain⟨⟨q0,q1,q2⟩,⟨f0,f1,f2⟩,hz⟩:=b2.out.three
 have c0:=IsArH.classes_cell H2.out
 have cf:=IsArH.free_cell H2.out HAt.out.hf
 have ow:=H2.out.own
 rw [HAt.out.hC,←HM.out] at c0
 rw [HAt.out.hC] at ow
 obtain⟨g0,g1,g2,g3⟩:=Zbd HAt.out.hc
 have d1:=ow.cell (i*4+1) (by rw [←HM.out];omega)
 have d2:=ow.cell (i*4+2) (by rw [←HM.out];omega)
 rw [g1] at d1
 rw [g2,←HSn.out] at d2
 have hiI:(i:Int)<(m:Int):=by omega
 have hi8:(i:Int)<8:=by omega
 have hi0:(0:Int)≤(i:Int):=by omega
 have e1:decide ((sn:Int)<c.count)=false:=by simp;omega
 clear k2 g0 g1 g2 g3 ow b1 H1 K1 HF
 go_upto_region 9 with fail
 go_wp2_with fail
 go_quiet (fail)
 go_wp2_with fail
 have K2':=zz (K2.out.drewN nq);have b2':=zz (b2.out.drewN nq)
 have b3:=zz (b2'.out.set3 (.int .i64 0) (.int .i64 0) (.int .i64 0))
 have K3:=zz (K2'.out.step (Ze4 (w2.drewN nq) w.heap.size (.int .i64 0) (.int .i64 0) (.int .i64 0)) (fun b hb e=> by omega))
 generalize (((w2.drewN nq).setCell _ _).setCell _ _).setCell _ _=w3 at*
 have r0:=b3.out.cell 0
 have r1:=b3.out.cell 1
 have r2:=b3.out.cell 2
 refine bodyPost_ret (v:= .tuple #[.agg #[(.int .i64 0),(.int .i64 0),(.int .i64 0)],.int .i64 7]) (by simp [results,Tryz.results120,go_sem,r0,r1,r2]) rfl ?_
 exact⟨rfl,K3.out⟩
theorem Zp7:ElemOf Tryz.prog 145 306 4 48:=ElemOf.mk' (z:= .agg #[.int .i64 0,.bool false,.int .i64 0,.slice none 0 0]) Tryz.underlying145 (by kernel_rfl) rfl (by omega)
structure Tl (w:World) (B a i C S n sc k q0:Nat) (bv:Array Value) (s:Ar) (c:Cls) (ls:List Slot) (x:Slot) (W:World):Prop where
 H:IsArH W B a s (· =i)
 O:Own W B 306 4 (some ⟨S,0,none⟩) n sc (Zb7 ls)
 hx:ls[k]?=some x
 da:∀(j:Nat) (y:Slot),j≠k→ls[j]?=some y→Own W B 5 1 y.D y.data.length y.dc (y.data.map by8)
 bx:Blk W q0 236 bv
 K:Keeps (ArS B w) w W
 dj:∀(j:Nat) (d:Cls),j≠i→s.cls[j]?=some d→¬inB d.SA S
 hS:∀b,b<w.heap.size→b=S→ArS B w b
 hCw:ArS B w C
 hC:s.CA=some ⟨C,0,none⟩
 hc:s.cls[i]?=some c
 hcs:c.SA=some ⟨S,0,none⟩∧c.slots.length=n∧c.sc=sc
section
variable {w W:World} {B a i C S n sc k q0:Nat} {bv:Array Value} {s:Ar} {c:Cls} {ls:List Slot} {x:Slot}
theorem Tl.blkS (h:Tl w B a i C S n sc k q0 bv s c ls x W):∃cs,Blk W S 306 cs:=h.O.blk ⟨_,rfl,rfl⟩
theorem Tl.blkC (h:Tl w B a i C S n sc k q0 bv s c ls x W):∃cs,Blk W C 147 cs:=by
 have:=h.H.own
 rw [h.hC] at this
 exact this.blk ⟨_,rfl,rfl⟩
theorem Tl.lt (h:Tl w B a i C S n sc k q0 bv s c ls x W):k<n∧i<s.cls.length:=by
 have h1:=h.O.len
 rw [Zd6] at h1
 have h2:=(List.getElem?_eq_some_iff.1 h.hx).1
 exact⟨by omega,(List.getElem?_eq_some_iff.1 h.hc).1⟩
theorem Tl.clsCell (h:Tl w B a i C S n sc k q0 bv s c ls x W):W.cell? ⟨C,i*4+2,none⟩=some (.slice (some ⟨S,0,none⟩) n sc)∧W.cell? ⟨C,i*4+3,none⟩=some (.int .i64 c.live):=by
 have ow:=h.H.own
 rw [h.hC] at ow
 obtain⟨g0,g1,g2,g3⟩:=Zbd h.hc
 have:=h.lt
 exact⟨by rw [ow.cell (i*4+2) (by omega),g2,h.hcs.1,h.hcs.2.1,h.hcs.2.2],by rw [ow.cell (i*4+3) (by omega),g3]⟩
theorem Tl.slotCell (h:Tl w B a i C S n sc k q0 bv s c ls x W):W.cell? ⟨S,k*4,none⟩=some (.int .i64 x.age)∧W.cell? ⟨S,k*4+1,none⟩=some (.bool x.used)∧W.cell? ⟨S,k*4+2,none⟩=some (.int .i64 x.next)∧W.cell? ⟨S,k*4+3,none⟩=some (.slice x.D x.data.length x.dc):=by
 obtain⟨g0,g1,g2,g3⟩:=Zdx h.hx
 have:=h.lt
 exact⟨by rw [h.O.cell (k*4) (by omega),g0],by rw [h.O.cell (k*4+1) (by omega),g1],by rw [h.O.cell (k*4+2) (by omega),g2],by rw [h.O.cell (k*4+3) (by omega),g3]⟩
theorem Tl.frozenC (h:Tl w B a i C S n sc k q0 bv s c ls x W) (j:Nat):W.frozen? ⟨C,j,none⟩=false:=by
 have ow:=h.H.own
 rw [h.hC] at ow
 exact ow.frozen j
theorem Tl.slot (h:Tl w B a i C S n sc k q0 bv s c ls x W) (q:Nat) (hq:q<4) (y:Slot) (v:Value) (hy:Zfr y=(Zfr x).set q v):
  Tl w B a i C S n sc k q0 bv s c (ls.set k y) y (W.setCell ⟨S,k*4+q,none⟩ v):=by
 obtain⟨csS,hb⟩:=h.blkS
 have hk:=(List.getElem?_eq_some_iff.1 h.hx).1
 refine⟨h.H.kept (Zaf W S _ v) (fun b e=> .inr ?_),Own.slot h.O h.hx hq hy,by simp [hk],fun j z hj hz=> ?_,h.bx.kept (Zaf W S _ v) (fun e=> absurd (Za8 h.bx (e ▸ hb)) (by decide)),h.K.step (Zaf W S _ v) h.hS,h.dj,h.hS,h.hCw,h.hC,h.hc,h.hcs⟩
 ·subst e
  exact⟨⟨_,hb⟩,fun j d hj hd=> h.dj j d hj hd⟩
 ·rw [List.getElem?_set,if_neg (fun e=> hj e.symm)] at hz
  have o:=h.da j z hj hz
  exact o.kept (Zaf W S _ v) (fun b hb' e=> by
   obtain⟨cs,h1⟩:=o.blk hb'
   exact absurd (Za8 h1 (e ▸ hb)) (by decide))
theorem Tl.drew (h:Tl w B a i C S n sc k q0 bv s c ls x W):Tl w B a i C S n sc k q0 bv s c ls x W.drew:=
 ⟨h.H.quiet (Keeps.drew (Kz0 _ _)),h.O,h.hx,h.da,h.bx,h.K.drew,h.dj,h.hS,h.hCw,h.hC,h.hc,h.hcs⟩
theorem Tl.done (h:Tl w B a i C S n sc k q0 bv s c ls x W) (lv:Int) (hl:ls.length=c.slots.length) (hD:Own W B 5 1 x.D x.data.length x.dc (x.data.map by8)):
  IsAr (W.setCell ⟨C,i*4+3,none⟩ (.int .i64 lv)) B a { s with cls:=s.cls.set i { c with slots:=ls,live:=lv}}∧Blk (W.setCell ⟨C,i*4+3,none⟩ (.int .i64 lv)) q0 236 bv∧
   Keeps (ArS B w) w (W.setCell ⟨C,i*4+3,none⟩ (.int .i64 lv))∧(W.setCell ⟨C,i*4+3,none⟩ (.int .i64 lv)).cell? ⟨S,k*4,none⟩=some (.int .i64 x.age):=by
 obtain⟨csC,hbC⟩:=h.blkC
 have kk:=Zaf W C (i*4+3) (.int .i64 lv)
 have hno:∀ {e sz n c:Nat} {A:Option Addr} {xs:List Value},Own W B e sz A n c xs→147≠e→∀b,inB A b→¬b=C:=fun o he b hb hS=> by
  obtain⟨cs,hb'⟩:=o.blk hb
  rw [hS] at hb'
  exact he (Za8 hbC hb')
 have h1:=h.H.cls_ (k:=3) (y:= { c with slots:=ls,live:=lv}) h.hC h.hc (by omega) (.int .i64 lv) (by simp [clsC,hl])
 have hi:=h.lt.2
 obtain⟨csS,hbS⟩:=h.blkS
 refine⟨h1.close (c:= { c with slots:=ls,live:=lv}) (by simp [hi]) ⟨?_,fun j y hy=> ?_,fun j d hj hd b hb=> ?_⟩,h.bx.kept kk (fun e=> absurd (Za8 h.bx (e ▸ hbC)) (by decide)),h.K.step kk (fun b hb e=> by subst e;exact h.hCw),?_⟩
 ·have:=h.O.kept kk (hno h.O (by decide))
  rw [h.hcs.1,h.hcs.2.2,show({ c with slots:=ls,live:=lv}:Cls).slots.length=n from by rw [hl,h.hcs.2.1]]
  exact this
 ·by_cases e:j=k
  ·subst e
   have:y=x:=by have:=h.hx;rw [hy] at this;injection this
   subst this
   exact hD.kept kk (hno hD (by decide))
  ·exact(h.da j y e hy).kept kk (hno (h.da j y e hy) (by decide))
 ·rw [List.getElem?_set,if_neg (fun e=> hj e.symm)] at hd
  have hb':inB (some ⟨S,0,none⟩:Option Addr) b:=by rw [←h.hcs.1];exact hb
  have:=(Za0 S 0 b).1 hb'
  subst this
  exact h.dj j d hj hd
 ·rw [kk.cell (p:=⟨S,k*4,none⟩) hbS.lt (fun e=> absurd (Za8 hbS (e ▸ hbC)) (by decide))]
  exact h.slotCell.1
theorem Tl.close (h:Tl w B a i C S n sc k q0 bv s c ls x W) (hl:ls.length=c.slots.length) (hD:Own W B 5 1 x.D x.data.length x.dc (x.data.map by8)):
  IsAr W B a { s with cls:=s.cls.set i { c with slots:=ls}}:=by
 have hi:=h.lt.2
 have hcs:Zbv (s.cls.set i { c with slots:=ls})=Zbv s.cls:=by
  refine List.ext_getElem? fun j=> ?_
  have:=Zgn (k:=0) (v:= .int .i64 c.size) (y:= { c with slots:=ls}) h.hc (by omega) (by simp [clsC,hl])
  rw [←this,List.getElem?_set]
  split
  ·next e=> subst e;rw [show i*4+0=i*4 from rfl,(Zbd h.hc).1];simp [Zmn];omega
  ·rfl
 have hset:∀j,j≠i→∀d:Cls,(s.cls.set i { c with slots:=ls})[j]?=some d→s.cls[j]?=some d:=fun j hj d hd=> by
  rw [List.getElem?_set,if_neg (fun e=> hj e.symm)] at hd;exact hd
 have h1:IsArH W B a { s with cls:=s.cls.set i { c with slots:=ls}} (· =i):=by
  refine⟨h.H.le,?_,?_,fun j d hj hd=> h.H.sl j d hj (hset j hj d hd),fun j d hj hd=> h.H.da j d hj (hset j hj d hd),fun j q d e hj hq hjq hd he=> h.H.dj j q d e hj hq hjq (hset j hj d hd) (hset q hq e he),h.H.fl⟩
  ·simpa [arC] using h.H.blk
  ·have:=h.H.own
   simp only [List.length_set,hcs]
   exact this
 refine h1.close (c:= { c with slots:=ls}) (by simp [hi]) ⟨?_,fun j y hy=> ?_,fun j d hj hd b hb=> ?_⟩
 ·have:=h.O
  rw [h.hcs.1,h.hcs.2.2,show({ c with slots:=ls}:Cls).slots.length=n from by rw [hl,h.hcs.2.1]]
  exact this
 ·by_cases e:j=k
  ·subst e
   have:y=x:=by have:=h.hx;rw [hy] at this;injection this
   subst this
   exact hD
  ·exact h.da j y e hy
 ·rw [List.getElem?_set,if_neg (fun e=> hj e.symm)] at hd
  have hb':inB (some ⟨S,0,none⟩:Option Addr) b:=by rw [←h.hcs.1];exact hb
  have:=(Za0 S 0 b).1 hb'
  subst this
  exact h.dj j d hj hd
end
open Go.RowKit
theorem Zjw (B a:Nat) (s:Ar) (i C k:Nat) (c:Cls) (x:Slot) (size:Int) (w:World) (h:IsAr w B a s) (hn:s.cls.length≤8) (h1:1≤size) (hk:fitK s.cls size=i) (hat:At s i C c k) (hx:c.slots[k]?=some x) (hl:c.slots.length≤65536)
  (hage:0≤x.age∧x.age<4611686018427387904) (hlive:0≤c.live∧c.live<4611686018427387904) (hnx: -9223372036854775808≤x.next∧x.next<9223372036854775808):
  Calls Tryz.prog 120 #[.pointer (some ⟨a,0,none⟩),.int .i64 size] w fun e w'=> e= .returned (.tuple #[.agg #[.int .i64 i,.int .i64 k,.int .i64 (x.age+1)],.int .i64 0])∧
   IsAr w' B a { s with free:=s.free.set i x.next,cls:=s.cls.set i { c with slots:=c.slots.set k x.taken,live:=c.live+1}}∧Keeps (ArS B w) w w':=by
 have hi:i<s.cls.length:=(List.getElem?_eq_some_iff.1 hat.hc).1
 have hkn:k<c.slots.length:=(List.getElem?_eq_some_iff.1 hx).1
 have k1:=(Kz0 NO w).alloc (.cells #[.int .i64 0,.int .i64 0,.int .i64 0] 236)
 have b1:=zz (Blk.new w 236 #[.int .i64 0,.int .i64 0,.int .i64 0])
 have HF:=zz (Zm4 B a s i size _ (h.quiet k1) hn h1 hk hi)
 have H0:=zz h
 have H1:=zz (h.quiet k1)
 have K1:=zz k1
 have HAt:=zz hat
 have HX:=zz hx
 obtain⟨m,hm⟩:∃m,m=s.cls.length:=⟨_,rfl⟩
 rw [←hm] at hi hn
 have HM:=zz hm
 obtain⟨sn,hsn⟩:∃sn,sn=c.slots.length:=⟨_,rfl⟩
 rw [←hsn] at hl hkn
 have HSn:=zz hsn
 clear h hk k1 hat hm hsn hx
 go_enter Tryz.func120,Tryz.ntmps120
 go_wp2_with fail
 refine HF.out.mono ?_
 rintro e w2 ⟨rfl,k2⟩
 have K2:=zz (K1.out.trans k2)
 have b2:=zz (b1.out.kept k2 (fun h=> h))
 have H2:=zz (H1.out.quiet k2)
 obtain⟨HO,HB⟩:=H2.out.open_ HAt.out.hc
 obtain⟨S,hSA,hSB,hSl⟩:=HB.sl.some_ (by rw [←HSn.out];omega)
 have HOw:=HB.sl
 rw [hSA] at HOw
 have HSA:=zz hSA
 have c0:=IsArH.classes_cell H2.out
 have cf:=IsArH.free_cell H2.out HAt.out.hf
 have fa:=H2.out.blk.frozen (1+i)
 have ow:=H2.out.own
 rw [HAt.out.hC,←HM.out] at c0
 rw [HAt.out.hC] at ow
 obtain⟨g0,g1,g2,g3⟩:=Zbd HAt.out.hc
 have d1:=ow.cell (i*4+1) (by rw [←HM.out];omega)
 have d2:=ow.cell (i*4+2) (by rw [←HM.out];omega)
 rw [g1] at d1
 rw [g2,←HSn.out,hSA] at d2
 obtain⟨g4,g5,g6,g7⟩:=Zdx HX.out
 have d6:=HOw.cell (k*4+2) (by rw [←HSn.out];omega)
 rw [g6] at d6
 have HOH:=zz HO
 have HBH:=zz HB
 have HOW:=zz HOw
 have hiI:(i:Int)<(m:Int):=by omega
 have hi8:(i:Int)<8:=by omega
 have hi0:(0:Int)≤(i:Int):=by omega
 have hkI:(k:Int)<(sn:Int):=by omega
 have hk0:(0:Int)≤(k:Int):=by omega
 have e0:((k:Int) != -1)=true:=by simp
 have hT:Hid (Tl w B a i C S sn c.sc k w.heap.size #[.int .i64 0,.int .i64 0,.int .i64 0] { s with free:=s.free.set i x.next} c c.slots x (w2.setCell ⟨a,1+i,none⟩ (.int .i64 x.next))):=by
  have hfr:=HOH.out.setFree i x.next (by omega)
  have kk:=Zaf w2 a (1+i) (.int .i64 x.next)
  have hno:∀ {e sz n c:Nat} {A:Option Addr} {xs:List Value},Own w2 B e sz A n c xs→144≠e→∀b,inB A b→¬b=a:=fun o he b hb hS=> by
   obtain⟨cs,hb'⟩:=o.blk hb
   rw [hS] at hb'
   exact he (Za8 H2.out.blk hb')
  have hSw:ArS B w2 S:=ArS.slot HOW.out
  refine⟨hfr,?_,HX.out,fun j y _ hy=> (HBH.out.da j y hy).kept kk (hno (HBH.out.da j y hy) (by decide)),b2.out.kept kk (fun e=> absurd (Za8 b2.out (e ▸ H2.out.blk)) (by decide)),?_,fun j d hj hd hb=> HBH.out.dj j d hj hd S (by rw [HSA.out];exact⟨_,rfl,rfl⟩) hb,?_,?_,HAt.out.hC,HAt.out.hc,⟨HSA.out,HSn.out.symm,rfl⟩⟩
  ·have:=HOW.out.kept kk (hno HOW.out (by decide))
   rw [←HSn.out] at this
   exact this
  ·exact((K2.out).weak (S':=ArS B w) (fun _ _ h=> h.elim)).step kk (fun b hb e=> by subst e;exact ArS.ar H0.out)
  ·intro b hb e
   subst e
   obtain⟨h1,cs,t,h2,h3⟩:=hSw
   exact⟨h1,cs,t,(K2.out.block b hb (fun h=> h)).symm.trans h2,h3⟩
  ·exact ArS.cls H0.out HAt.out.hC
 clear k2 g0 g1 g2 g3 g4 g5 g6 g7 ow b1 H1 K1 HF HO HB HOw hSA HOH HBH b2 H2
 go_upto_region 8 with fail
 go_region
 have T:=zz hT.out.drew
 clear hT c0 cf fa d1 d2 d6
 generalize (w2.setCell _ _).drew=wt at*
 have hCS:C≠S:=fun e=> by obtain⟨c1,h1⟩:=T.out.blkC;obtain⟨c2,h2⟩:=T.out.blkS;exact absurd (Za8 h1 (e ▸ h2)) (by decide)
 obtain⟨q2,q3⟩:=T.out.clsCell
 obtain⟨p0,p1,p2,p3⟩:=T.out.slotCell
 have fS:=fun j=> T.out.O.frozen j
 have fS0:=fS (k*4)
 have fS1:=fS (k*4+1)
 have fS3:=fS (k*4+3)
 have T1:=zz (T.out.slot 0 (by omega) { x with age:=x.age+1} (.int .i64 (x.age+1)) rfl)
 clear fS fS1 fS3
 have w1:IntKind.i64.wrap (x.age+1)=x.age+1:=IntWalk.i64_in _ (by omega)
 go_upto_region 14 with fail
 change Hid (Tl w B a i C S _ _ _ _ _ _ _ _ _ (wt.setCell ⟨S,k*4,none⟩ (.int .i64 (x.age+1)))) at T1
 clear T q2 q3 p0 p1 p2 p3 fS0
 generalize wt.setCell _ _=w5 at*
 obtain⟨q2,q3⟩:=T1.out.clsCell
 obtain⟨p0,p1,p2,p3⟩:=T1.out.slotCell
 have f1:=T1.out.O.frozen (k*4+1)
 have T2:=zz (T1.out.slot 1 (by omega) { x with age:=x.age+1,used:=true} (.bool true) rfl)
 go_upto_region 15 with fail
 clear T1 q2 q3 p0 p1 p2 p3 f1
 generalize w5.setCell _ _=w6 at*
 obtain⟨q2,q3⟩:=T2.out.clsCell
 obtain⟨p0,p1,p2,p3⟩:=T2.out.slotCell
 have f1:=T2.out.O.frozen (k*4+3)
 have T3:=zz (T2.out.slot 3 (by omega) x.taken (.slice none 0 0) rfl)
 go_upto_region 16 with fail
 clear T2 q2 q3 p0 p1 p2 p3 f1
 generalize w6.setCell _ _=w7 at*
 obtain⟨q2,q3⟩:=T3.out.clsCell
 have f1:=T3.out.frozenC (i*4+3)
 have hlw:IntKind.i64.wrap (c.live+1)=c.live+1:=IntWalk.i64_in _ (by omega)
 have HE:=zz (T3.out.done (c.live+1) (by simp) (Own.nil _ _ _ _))
 have hlv:∀v:Int,v=c.live+1→v=c.live+1:=fun _ h=> h
 go_upto_region 17 with fail
 clear T3 q2 q3 f1
 generalize w7.setCell _ _=w8 at*
 obtain⟨hA,hb8,hk8,p0⟩:=HE.out
 have HA:=zz hA
 have K8:=zz hk8
 have b8:=zz hb8
 obtain⟨⟨q0,q1,q2⟩,⟨f0,f1,f2⟩,hz⟩:=hb8.three
 clear hA hk8 HE hb8
 have p0':w8.cell? ⟨S,k*4,none⟩=some (.int .i64 (x.age+1)):=p0
 clear p0
 go_wp2_with fail
 have HA3:=zz (IsAr.kept HA.out (Ze4 w8 w.heap.size (.int .i64 i) (.int .i64 k) (.int .i64 (x.age+1))) (fun b e=> by subst e;exact .inr ⟨_,_,b8.out,by decide,by decide,by decide,by decide⟩))
 have b3:=zz (b8.out.set3 (.int .i64 i) (.int .i64 k) (.int .i64 (x.age+1)))
 have K3:=zz (K8.out.step (Ze4 w8 w.heap.size (.int .i64 i) (.int .i64 k) (.int .i64 (x.age+1))) (fun b hb e=> by omega))
 generalize ((w8.setCell _ _).setCell _ _).setCell _ _=w3 at*
 have r0:=b3.out.cell 0
 have r1:=b3.out.cell 1
 have r2:=b3.out.cell 2
 refine bodyPost_ret (v:= .tuple #[.agg #[(.int .i64 i),(.int .i64 k),(.int .i64 (x.age+1))],.int .i64 0]) (by simp [results,Tryz.results120,go_sem,r0,r1,r2]) rfl ?_
 refine⟨rfl,?_,K3.out⟩
 have:=HA3.out
 simpa [List.set_set] using this
def Slot.zero:Slot:=⟨0,false,0,none,0,[]⟩
theorem Tl.new {w w3 w4 w7:World} {B a i C S sn c7 q0:Nat} {s:Ar} {c:Cls} {x0:Slot} {f:Int} (H0:IsAr w B a s) (hat:At s i C c f) (hSn:sn=c.slots.length) (hX0:x0=Slot.zero) (K2:Keeps NO w w3) (b2:Blk w3 q0 236 #[.int .i64 0,.int .i64 0,.int .i64 0])
  (HO:IsArH w3 B a s (· =i)) (HB:Behind w3 B s i c) (k34:Keeps NO w3 w4) (hK7:Keeps (inB c.SA) w4 w7) (o7:Own w7 B 306 4 (some ⟨S,0,none⟩) (sn+1) c7 (Zb7 c.slots++ [.int .i64 0,.bool false,.int .i64 0,.slice none 0 0])) (hA7:∀k,inB (some ⟨S,0,none⟩) k→inB c.SA k∨w4.heap.size≤k):
  Tl w B a i C S (sn+1) c7 sn q0 #[.int .i64 0,.int .i64 0,.int .i64 0] { s with cls:=s.cls.set i { c with SA:=some ⟨S,0,none⟩,sc:=c7,slots:=c.slots++ [x0]}} { c with SA:=some ⟨S,0,none⟩,sc:=c7,slots:=c.slots++ [x0]} (c.slots++ [x0]) x0 (w7.setCell ⟨C,i*4+2,none⟩ (.slice (some ⟨S,0,none⟩) (sn+1) c7)):=by
 have ow4:=HB.sl.kept k34 (fun _ _ h=> h)
 have hsl:∀b,inB c.SA b→∃cs,Blk w4 b 306 cs:=fun b hb=> ow4.blk hb
 have h7:IsArH w7 B a s (· =i):=(HO.quiet k34).kept hK7 (fun b hb=> .inr ⟨hsl b hb,fun j d hj hd=> HB.dj j d hj hd b hb⟩)
 have h8:=h7.cls_ (k:=2) (y:= { c with SA:=some ⟨S,0,none⟩,sc:=c7,slots:=c.slots++ [x0]}) hat.hC hat.hc (by omega) (.slice (some ⟨S,0,none⟩) (sn+1) c7) (by simp [clsC,hSn])
 have hil:=(List.getElem?_eq_some_iff.1 hat.hc).1
 have kk:=Zaf w7 C (i*4+2) (.slice (some ⟨S,0,none⟩) (sn+1) c7)
 have hbC:∃cs,Blk w7 C 147 cs:=by
  have:=h7.own
  rw [hat.hC] at this
  exact this.blk ⟨_,rfl,rfl⟩
 obtain⟨csC,hbC⟩:=hbC
 have hno:∀ {e sz n c:Nat} {A:Option Addr} {xs:List Value},Own w7 B e sz A n c xs→147≠e→∀b,inB A b→¬b=C:=fun o he b hb hS=> by
  obtain⟨cs,hb'⟩:=o.blk hb
  rw [hS] at hb'
  exact he (Za8 hbC hb')
 have hSin:inB (some ⟨S,0,none⟩:Option Addr) S:=⟨_,rfl,rfl⟩
 have hKs:Keeps (ArS B w) w w4:=((K2).weak (S':=ArS B w) (fun _ _ h=> h.elim)).step0 k34
 have hSA:∀b,b<w.heap.size→inB c.SA b→ArS B w b:=fun b hb hin=> by
  obtain⟨cs,h1⟩:=HB.sl.blk hin
  exact⟨(HB.sl.inB hin).1,cs,_,(K2.block b hb (fun h=> h)).symm.trans h1,.inr (.inr rfl)⟩
 refine⟨h8,?_,by simp [hSn],fun j y hj hy=> ?_,?_,?_,fun j d hj hd hb=> ?_,fun b hb e=> ?_,ArS.cls H0 hat.hC,hat.hC,by simp [hil],⟨rfl,by simp [hSn],rfl⟩⟩
 ·have:=o7.kept kk (hno o7 (by decide))
  rw [Zj4,hX0]
  exact this
 ·have hjl:j<c.slots.length:=by
   have:=(List.getElem?_eq_some_iff.1 hy).1
   rw [List.length_append,←hSn] at this
   simp at this
   omega
  rw [List.getElem?_append_left hjl] at hy
  have o:=(HB.da j y hy).kept k34 (fun _ _ h=> h)
  have o2:=o.kept hK7 (fun b hb hS=> by
   obtain⟨cs1,h1⟩:=o.blk hb
   obtain⟨cs2,h2⟩:=hsl b hS
   exact absurd (Za8 h1 h2) (by decide))
  exact o2.kept kk (hno o2 (by decide))
 ·have o:=b2.kept k34 (fun h=> h)
  have o2:=o.kept hK7 (fun hS=> by
   obtain⟨cs2,h2⟩:=hsl _ hS
   exact absurd (Za8 o h2) (by decide))
  exact o2.kept kk (fun e=> absurd (Za8 o2 (e ▸ hbC)) (by decide))
 ·exact(hKs.step hK7 hSA).step kk (fun b hb e=> by subst e;exact ArS.cls H0 hat.hC)
 ·dsimp only at hd
  rw [List.getElem?_set,if_neg (fun e=> hj e.symm)] at hd
  rcases hA7 S hSin with h | h
  ·exact HB.dj j d hj hd S h hb
  ·have:=(HO.sl j d hj hd).inB hb
   have:=k34.size
   omega
 ·subst e
  rcases hA7 b hSin with h | h
  ·exact hSA b hb h
  ·have:=K2.size
   have:=k34.size
   omega
theorem Zmz (B a:Nat) (s:Ar) (i C:Nat) (c:Cls) (size:Int) (w:World) (h:IsAr w B a s) (hn:s.cls.length≤8) (h1:1≤size) (hk:fitK s.cls size=i) (hat:At s i C c (-1)) (hroom:c.slots.length<c.count) (hl:c.count≤65536)
  (hlive:0≤c.live∧c.live<4611686018427387904) (hB:B≤w.heap.size):
  Calls Tryz.prog 120 #[.pointer (some ⟨a,0,none⟩),.int .i64 size] w fun e w'=> e= .returned (.tuple #[.agg #[.int .i64 i,.int .i64 c.slots.length,.int .i64 1],.int .i64 0])∧
   (∃SA sc,IsAr w' B a { s with cls:=s.cls.set i { c with SA:=SA,sc:=sc,slots:=c.slots++ [Slot.zero.taken],live:=c.live+1}})∧Keeps (ArS B w) w w':=by
 have hi:i<s.cls.length:=(List.getElem?_eq_some_iff.1 hat.hc).1
 have k1:=(Kz0 NO w).alloc (.cells #[.int .i64 0,.int .i64 0,.int .i64 0] 236)
 have b1:=zz (Blk.new w 236 #[.int .i64 0,.int .i64 0,.int .i64 0])
 have HF:=zz (Zm4 B a s i size _ (h.quiet k1) hn h1 hk hi)
 have H0:=zz h
 have H1:=zz (h.quiet k1)
 have K1:=zz k1
 have HAt:=zz hat
 obtain⟨m,hm⟩:∃m,m=s.cls.length:=⟨_,rfl⟩
 rw [←hm] at hi hn
 have HM:=zz hm
 obtain⟨sn,hsn⟩:∃sn,sn=c.slots.length:=⟨_,rfl⟩
 rw [←hsn] at hroom ⊢
 have HSn:=zz hsn
 clear h hk k1 hat hm hsn
 go_enter Tryz.func120,Tryz.ntmps120
 go_wp2_with fail
 refine HF.out.mono ?_
 rintro e w2 ⟨rfl,k2⟩
 have K2:=zz (K1.out.trans k2)
 have b2:=zz (b1.out.kept k2 (fun h=> h))
 have H2:=zz (H1.out.quiet k2)
 have hB2:B≤w2.heap.size:=Nat.le_trans hB K2.out.size
 have c0:=IsArH.classes_cell H2.out
 have cf:=IsArH.free_cell H2.out HAt.out.hf
 have ow:=H2.out.own
 rw [HAt.out.hC,←HM.out] at c0
 rw [HAt.out.hC] at ow
 obtain⟨g0,g1,g2,g3⟩:=Zbd HAt.out.hc
 have d1:=ow.cell (i*4+1) (by rw [←HM.out];omega)
 have d2:=ow.cell (i*4+2) (by rw [←HM.out];omega)
 rw [g1] at d1
 rw [g2,←HSn.out] at d2
 have hiI:(i:Int)<(m:Int):=by omega
 have hi8:(i:Int)<8:=by omega
 have hi0:(0:Int)≤(i:Int):=by omega
 have e1:decide ((sn:Int)<c.count)=true:=by simp;omega
 clear k2 g0 g1 g2 g3 ow b1 H1 K1 HF
 go_upto_region 9 with fail
 go_wp2_with fail
 go_quiet (fail)
 have c0':(w2.drewN nq).cell? ⟨C,i*4+2,none⟩=some (.slice c.SA sn c.sc):=d2
 have b2':=zz (b2.out.drewN nq)
 have H2':=zz (H2.out.quiet ((Kz0 _ _).drewN nq))
 have K2':=zz (K2.out.drewN nq)
 have hB2':B≤(w2.drewN nq).heap.size:=hB2
 clear c0 cf d1 d2 H2 K2 b2 hB2
 generalize w2.drewN nq=w3 at*
 obtain⟨HO,HB⟩:=H2'.out.open_ HAt.out.hc
 have HOW:=HB.sl
 rw [←HSn.out] at HOW
 have HG2:=zz (Zbd HAt.out.hc).2.2.1
 have HL4:Hid ((Zb7 c.slots++ [.int .i64 0,.bool false,.int .i64 0,.slice none 0 0])[sn*4]?=some (.int .i64 0)):=by show _=_;rw [List.getElem?_append_right (by rw [Zd6,HSn.out];omega),Zd6,HSn.out,Nat.sub_self];rfl
 have HOH:=zz HO
 have HBH:=zz HB
 have HOw:=zz HOW
 have f2:=(by have:=HO.own;rw [HAt.out.hC] at this;exact this:Own w3 B 147 4 (some ⟨C,0,none⟩) s.cls.length s.cap (Zbv s.cls)).frozen (i*4+2)
 clear HO HB HOW
 go_upto_region 11 with fail
 go_upto_region 14 with (at_builtin;refine Za5 _ Zp7 rfl (.tmp 71) (.tmp 73) rfl B _ rfl (HOw.out.kept ((Kz0 NO w3).alloc _) (fun _ _ h=> h)) _ (m:=1) [.int .i64 0,.bool false,.int .i64 0,.slice none 0 0] rfl (by exact Blk.rd (xs:= [.int .i64 0,.bool false,.int .i64 0,.slice none 0 0]) (Blk.new_at _ _ _ _ (by simp)) rfl) (by simp [Value.oneCell']) (by simp only [maxLen];omega) (by omega) (by simp;omega) ?_;intro A7 c7 w7 o7 k7 hA7;have o8:=(by have:=(IsArH.kept (HOH.out.quiet ((Kz0 NO w3).alloc _)) k7 (fun b hb=> .inr ⟨(HOw.out.kept ((Kz0 NO w3).alloc _) (fun _ _ h=> h)).blk hb,fun j d hj hd=> HBH.out.dj j d hj hd b hb⟩)).own;rw [HAt.out.hC] at this;exact this:Own w7 B 147 4 (some ⟨C,0,none⟩) s.cls.length s.cap (Zbv s.cls));have f7:=o8.frozen (i*4+2);have d7:=o8.cell (i*4+2) (by rw [←HM.out];omega);rw [HG2.out,←HSn.out] at d7;obtain⟨S,rfl,hSB,hSl⟩:=o7.some_ (by omega);have hSC:S≠C:=(fun e=> by obtain⟨cs1,h1⟩:=o7.blk (b:=S) ⟨_,rfl,rfl⟩;obtain⟨cs2,h2⟩:=o8.blk (b:=C) ⟨_,rfl,rfl⟩;exact absurd (Za8 h1 (e ▸ h2)) (by decide));have hCS:C≠S:=fun e=> hSC e.symm;have p7:=o7.cell (sn*4) (by omega);have g7:=o7.frozen (sn*4);rw [HL4.out] at p7;have O7:=zz o7;have K7:=zz k7;have HA7:=zz hA7;clear o7 k7 hA7 o8)
 have T:=zz (Tl.new H0.out HAt.out HSn.out rfl K2'.out b2'.out HOH.out HBH.out ((Kz0 _ _).alloc _) K7.out O7.out HA7.out)
 have T1:Hid (Tl w B a i C S (sn+1) c7 sn w.heap.size #[.int .i64 0,.int .i64 0,.int .i64 0] { s with cls:=s.cls.set i { c with SA:=some ⟨S,0,none⟩,sc:=c7,slots:=c.slots++ [Slot.zero]}} { c with SA:=some ⟨S,0,none⟩,sc:=c7,slots:=c.slots++ [Slot.zero]} ((c.slots++ [Slot.zero]).set sn { Slot.zero with age:=1}) { Slot.zero with age:=1} ((w7.setCell ⟨C,i*4+2,none⟩ (.slice (some ⟨S,0,none⟩) (sn+1) c7)).setCell ⟨S,sn*4,none⟩ (.int .i64 1))):=zz (T.out.slot 0 (by omega) { Slot.zero with age:=1} (.int .i64 1) rfl)
 clear T O7 K7 HA7 HOH HBH HOw K2' b2' H2' c0' f2 f7 d7 p7 g7
 generalize (w7.setCell _ _).setCell _ _=w5 at*
 have hk0:(0:Int)≤(sn:Int):=by omega
 have hage:(0:Int)≤0∧(0:Int)<4611686018427387904:=by decide
 obtain⟨x0,hx0⟩:∃x0,x0=({ Slot.zero with age:=0}:Slot):=⟨_,rfl⟩
 have T1':Hid (Tl w B a i C S (sn+1) c7 sn w.heap.size #[.int .i64 0,.int .i64 0,.int .i64 0] { s with cls:=s.cls.set i { c with SA:=some ⟨S,0,none⟩,sc:=c7,slots:=c.slots++ [Slot.zero]}} { c with SA:=some ⟨S,0,none⟩,sc:=c7,slots:=c.slots++ [Slot.zero]} ((c.slots++ [Slot.zero]).set sn { x0 with age:=x0.age+1}) { x0 with age:=x0.age+1} w5):=by rw [hx0];exact T1
 have HX0:=zz hx0
 have hage:0≤x0.age∧x0.age<4611686018427387904:=by rw [hx0];decide
 clear T1 hx0
 have T1:=T1'
 clear T1'
 obtain⟨q2,q3⟩:=T1.out.clsCell
 obtain⟨p0,p1,p2,p3⟩:=T1.out.slotCell
 have f1:=T1.out.O.frozen (sn*4+1)
 have T2:=zz (T1.out.slot 1 (by omega) { x0 with age:=x0.age+1,used:=true} (.bool true) rfl)
 go_upto_region 15 with fail
 clear T1 q2 q3 p0 p1 p2 p3 f1
 generalize w5.setCell _ _=w6 at*
 obtain⟨q2,q3⟩:=T2.out.clsCell
 obtain⟨p0,p1,p2,p3⟩:=T2.out.slotCell
 have f1:=T2.out.O.frozen (sn*4+3)
 have T3:=zz (T2.out.slot 3 (by omega) x0.taken (.slice none 0 0) rfl)
 go_upto_region 16 with fail
 clear T2 q2 q3 p0 p1 p2 p3 f1
 generalize w6.setCell _ _=w7 at*
 obtain⟨q2,q3⟩:=T3.out.clsCell
 have f1:=T3.out.frozenC (i*4+3)
 have hlw:IntKind.i64.wrap (c.live+1)=c.live+1:=IntWalk.i64_in _ (by omega)
 have HE:=zz (T3.out.done (c.live+1) (by simp) (Own.nil _ _ _ _))
 have hlv:∀v:Int,v=c.live+1→v=c.live+1:=fun _ h=> h
 go_upto_region 17 with fail
 clear T3 q2 q3 f1
 generalize w7.setCell _ _=w8 at*
 obtain⟨hA,hb8,hk8,p0⟩:=HE.out
 have HA:=zz hA
 have K8:=zz hk8
 have b8:=zz hb8
 obtain⟨⟨q0,q1,q2⟩,⟨f0,f1,f2⟩,hz⟩:=hb8.three
 clear hA hk8 HE hb8
 have p0':w8.cell? ⟨S,sn*4,none⟩=some (.int .i64 (x0.age+1)):=p0
 clear p0
 go_wp2_with fail
 have HA3:=zz (IsAr.kept HA.out (Ze4 w8 w.heap.size (.int .i64 i) (.int .i64 sn) (.int .i64 (x0.age+1))) (fun b e=> by subst e;exact .inr ⟨_,_,b8.out,by decide,by decide,by decide,by decide⟩))
 have b3:=zz (b8.out.set3 (.int .i64 i) (.int .i64 sn) (.int .i64 (x0.age+1)))
 have K3:=zz (K8.out.step (Ze4 w8 w.heap.size (.int .i64 i) (.int .i64 sn) (.int .i64 (x0.age+1))) (fun b hb e=> by omega))
 generalize ((w8.setCell _ _).setCell _ _).setCell _ _=w3 at*
 have r0:=b3.out.cell 0
 have r1:=b3.out.cell 1
 have r2:=b3.out.cell 2
 refine bodyPost_ret (v:= .tuple #[.agg #[(.int .i64 i),(.int .i64 sn),(.int .i64 (x0.age+1))],.int .i64 0]) (by simp [results,Tryz.results120,go_sem,r0,r1,r2]) rfl ?_
 have hx1:x0.age+1=1:=by rw [HX0.out];rfl
 refine⟨by rw [hx1],⟨some ⟨S,0,none⟩,c7,?_⟩,K3.out⟩
 have h9:=HA3.out
 have h10:(c.slots++ [Slot.zero]).set sn x0.taken=c.slots++ [x0.taken]:=by
  rw [HSn.out,List.set_append_right _ _ (Nat.le_refl _)]
  simp
 simp only [List.set_set] at h9
 rw [h10,HX0.out] at h9
 exact h9
open Go.RowKit
structure Live (s:Ar) (i k:Nat) (age:Int) (c:Cls) (x:Slot):Prop where
 hc:s.cls[i]?=some c
 hx:c.slots[k]?=some x
 us:x.used=true
 ag:x.age=age
theorem Zhg (B a:Nat) (s:Ar) (i k C S:Nat) (ha:Int) (c:Cls) (x:Slot) (w:World) (h:IsAr w B a s) (hn:s.cls.length≤8) (hl:c.slots.length≤65536) (hv:Live s i k ha c x) (hC:s.CA=some ⟨C,0,none⟩) (hS:c.SA=some ⟨S,0,none⟩):
  Calls Tryz.prog 176 #[.pointer (some ⟨a,0,none⟩),.agg #[.int .i64 i,.int .i64 k,.int .i64 ha]] w fun e w'=> e= .returned (.tuple #[.pointer (some ⟨C,i*4,none⟩),.pointer (some ⟨S,k*4,none⟩),.int .i64 0])∧Keeps NO w w':=by
 obtain⟨hc,hhc⟩:∃hc:Int,hc=(i:Int):=⟨_,rfl⟩
 obtain⟨hk,hhk⟩:∃hk:Int,hk=(k:Int):=⟨_,rfl⟩
 have hi:i<s.cls.length:=(List.getElem?_eq_some_iff.1 hv.hc).1
 have hkn:k<c.slots.length:=(List.getElem?_eq_some_iff.1 hv.hx).1
 obtain⟨m,hm⟩:∃m,m=s.cls.length:=⟨_,rfl⟩
 obtain⟨sn,hsn⟩:∃sn,sn=c.slots.length:=⟨_,rfl⟩
 subst hhc hhk
 have k1:=(Kz0 NO w).alloc (.cells #[.int .i64 (i:Int),.int .i64 (k:Int),.int .i64 ha] 236)
 have b1:=Blk.new w 236 #[.int .i64 (i:Int),.int .i64 (k:Int),.int .i64 ha]
 have H1:=zz (h.quiet k1)
 have K1:=zz k1
 obtain⟨⟨q0,q1,q2⟩,⟨f0,f1,f2⟩,hz⟩:=b1.three
 have c0:=IsArH.classes_cell H1.out
 obtain⟨HO,HB⟩:=H1.out.open_ hv.hc
 have HOw:=HB.sl
 have ow:=H1.out.own
 rw [hS,←hsn] at HOw
 rw [hC,←hm] at c0
 rw [hC,←hm] at ow
 obtain⟨g0,g1,g2,g3⟩:=Zbd hv.hc
 have d2:=ow.cell (i*4+2) (by omega)
 rw [g2,hS,←hsn] at d2
 obtain⟨g4,g5,g6,g7⟩:=Zdx hv.hx
 have p0:=HOw.cell (k*4) (by omega)
 have p1:=HOw.cell (k*4+1) (by omega)
 rw [g4,hv.ag] at p0
 rw [g5,hv.us] at p1
 have hiI:(i:Int)<(m:Int):=by omega
 have hi0:(0:Int)≤(i:Int):=by omega
 have hkI:(k:Int)<(sn:Int):=by omega
 have hk0:(0:Int)≤(k:Int):=by omega
 have e1:decide ((0:Int)≤(i:Int))=true:=by simp
 have e2:decide ((0:Int)≤(k:Int))=true:=by simp
 have e3:decide ((i:Int)<(m:Int))=true:=by simpa using hiI
 have e4:decide ((k:Int)<(sn:Int))=true:=by simpa using hkI
 clear hv h HO HB HOw ow g0 g1 g2 g3 g4 g5 g6 g7 k1 b1 hm hsn hS hC hi hkn
 go_enter Tryz.func176,Tryz.ntmps176
 go_upto_region 3 with fail
 go_quiet (fail)
 go_upto_region 4 with fail
 go_quiet (fail)
 go_upto_region 5 with fail
 go_quiet (fail)
 go_upto_region 6 with fail
 go_quiet (fail)
 go_upto_region 7 with fail
 go_quiet (fail)
 go_wp2_with fail
 refine bodyPost_ret (v:= .tuple #[.pointer (some ⟨C,i*4,none⟩),.pointer (some ⟨S,k*4,none⟩),.int .i64 0]) (by simp [results,Tryz.results176,go_sem]) rfl ?_
 exact⟨rfl,K1.out.trans (by repeat (first | exact Kz0 _ _ | refine Keeps.drewN ?_ _))⟩
open Go.RowKit
section
variable {w W:World} {B a i C S n sc k q0:Nat} {bv:Array Value} {s:Ar} {c:Cls} {ls:List Slot} {x:Slot}
theorem Tl.start (h:IsAr w B a s) (kk:Keeps NO w W) (b:Blk W q0 236 bv) (hC:s.CA=some ⟨C,0,none⟩) (hc:s.cls[i]?=some c) (hS:c.SA=some ⟨S,0,none⟩) (hx:c.slots[k]?=some x):
  Tl w B a i C S c.slots.length c.sc k q0 bv s c c.slots x W:=by
 obtain⟨HO,HB⟩:=(h.quiet kk).open_ hc
 obtain⟨_,HB0⟩:=h.open_ hc
 have o:=HB.sl
 rw [hS] at o
 refine⟨HO,o,hx,fun j y _ hy=> HB.da j y hy,b,kk.weak (fun _ _ h=> h.elim),fun j d hj hd hb=> HB.dj j d hj hd S (by rw [hS];exact⟨_,rfl,rfl⟩) hb,fun b hb e=> ?_,ArS.cls h hC,hC,hc,⟨hS,rfl,rfl⟩⟩
 subst e
 have o0:=HB0.sl
 rw [hS] at o0
 exact ArS.slot o0
theorem Tl.free (h:Tl w B a i C S n sc k q0 bv s c ls x W) (j:Nat) (f:Int) (hj:j<8) (ha:ArS B w a):Tl w B a i C S n sc k q0 bv { s with free:=s.free.set j f} c ls x (W.setCell ⟨a,1+j,none⟩ (.int .i64 f)):=by
 have kk:=Zaf W a (1+j) (.int .i64 f)
 have hno:∀ {e sz n c:Nat} {A:Option Addr} {xs:List Value},Own W B e sz A n c xs→144≠e→∀b,inB A b→¬b=a:=fun o he b hb hS=> by
  obtain⟨cs,hb'⟩:=o.blk hb
  rw [hS] at hb'
  exact he (Za8 h.H.blk hb')
 exact⟨h.H.setFree j f hj,h.O.kept kk (hno h.O (by decide)),h.hx,fun q y hq hy=> (h.da q y hq hy).kept kk (hno (h.da q y hq hy) (by decide)),h.bx.kept kk (fun e=> absurd (Za8 h.bx (e ▸ h.H.blk)) (by decide)),h.K.step kk (fun b hb e=> by subst e;exact ha),h.dj,h.hS,h.hCw,h.hC,h.hc,h.hcs⟩
end
def Slot.freed (x:Slot) (f:Int):Slot:= { x with used:=false,next:=f,D:=none,dc:=0,data:= []}
theorem Zsf (B a:Nat) (s:Ar) (i k C S:Nat) (ha f:Int) (c:Cls) (x:Slot) (w:World) (h:IsAr w B a s) (hn:s.cls.length≤8) (hl:c.slots.length≤65536) (hv:Live s i k ha c x) (hC:s.CA=some ⟨C,0,none⟩) (hS:c.SA=some ⟨S,0,none⟩) (hf:s.free[i]?=some f)
  (hlive:1≤c.live∧c.live<4611686018427387904):
  Calls Tryz.prog 122 #[.pointer (some ⟨a,0,none⟩),.agg #[.int .i64 i,.int .i64 k,.int .i64 ha]] w fun e w'=> e= .returned (.int .i64 0)∧
   IsAr w' B a { s with free:=s.free.set i k,cls:=s.cls.set i { c with slots:=c.slots.set k (x.freed f),live:=c.live-1}}∧Keeps (ArS B w) w w':=by
 have hi8:i<8:=by have:=(List.getElem?_eq_some_iff.1 hv.hc).1;omega
 have k1:=(Kz0 NO w).alloc (.cells #[.int .i64 (i:Int),.int .i64 (k:Int),.int .i64 ha] 236)
 have b1:=Blk.new w 236 #[.int .i64 (i:Int),.int .i64 (k:Int),.int .i64 ha]
 have HF:=zz (Zhg B a s i k C S ha c x _ (h.quiet k1) hn hl hv hC hS)
 have H0:=zz h
 have K1:=zz k1
 have B1:=zz b1
 obtain⟨⟨q0,q1,q2⟩,⟨f0,f1,f2⟩,hz⟩:=b1.three
 have HV:=zz hv
 have HC:=zz hC
 have HS:=zz hS
 have HFr:=zz hf
 have HAr:=zz (ArS.ar h)
 obtain⟨sn,hsn⟩:∃sn,sn=c.slots.length:=⟨_,rfl⟩
 have hkn:=(List.getElem?_eq_some_iff.1 hv.hx).1
 have HSn:=zz hsn
 clear h k1 b1 hv hC hS hf hsn hkn
 go_enter Tryz.func122,Tryz.ntmps122
 go_wp2_with fail
 refine HF.out.mono ?_
 rintro e w2 ⟨rfl,k2⟩
 have T:=zz (Tl.start H0.out (K1.out.trans k2) (B1.out.kept k2 (fun h=> h)) HC.out HV.out.hc HS.out HV.out.hx)
 rw [←HSn.out] at T
 clear k2 HF K1 B1 q0 q1 q2 f0 f1 f2
 have hCS:C≠S:=fun e=> by obtain⟨c1,h1⟩:=T.out.blkC;obtain⟨c2,h2⟩:=T.out.blkS;exact absurd (Za8 h1 (e ▸ h2)) (by decide)
 obtain⟨⟨q0,q1,q2⟩,_,hz2⟩:=T.out.bx.three
 obtain⟨p0,p1,p2,p3⟩:=T.out.slotCell
 have cf:=T.out.H.free_cell HFr.out
 have fS1:=T.out.O.frozen (k*4+1)
 have fS2:=T.out.O.frozen (k*4+2)
 have fS3:=T.out.O.frozen (k*4+3)
 have hiI:(i:Int)<8:=by omega
 have hi0:(0:Int)≤(i:Int):=by omega
 go_upto_region 4 with fail
 go_region
 have T1:=zz (T.out.slot 1 (by omega) { x with used:=false} (.bool false) rfl)
 have T2:=zz (T1.out.slot 3 (by omega) { x with used:=false,D:=none,dc:=0,data:= []} (.slice none 0 0) rfl)
 have T3:=zz ((T2.out.slot 2 (by omega) (x.freed f) (.int .i64 f) rfl).drew)
 clear T1 T2 T p0 p1 p2 p3 cf fS1 fS2 fS3 q0 q1 q2 hz2
 generalize (((w2.setCell _ _).setCell _ _).setCell _ _).drew=w5 at*
 obtain⟨⟨q0,q1,q2⟩,_,hz2⟩:=T3.out.bx.three
 have fa:=T3.out.H.blk.frozen (1+i)
 have cf:=T3.out.H.free_cell HFr.out
 have T4:=zz ((T3.out.free i k (by omega) HAr.out).drew)
 go_upto_region 5 with fail
 go_region
 clear T3 q0 q1 q2 hz2 fa cf
 generalize (w5.setCell _ _).drew=w6 at*
 obtain⟨p2,p3⟩:=T4.out.clsCell
 have f3:=T4.out.frozenC (i*4+3)
 have hlw:IntKind.i64.wrap (c.live-1)=c.live-1:=IntWalk.i64_in _ (by omega)
 have HE:=zz (T4.out.done (c.live-1) (by simp) (Own.nil _ _ _ _))
 go_wp2_with fail
 go_ret
 obtain⟨h1,h2,h3,h4⟩:=HE.out
 refine⟨rfl,?_,h3⟩
 simpa [List.set_set] using h1
theorem Zrh (B a:Nat) (s:Ar) (i k C S:Nat) (ha:Int) (c:Cls) (x:Slot) (w:World) (h:IsAr w B a s) (hn:s.cls.length≤8) (hl:c.slots.length≤65536) (hv:Live s i k ha c x) (hC:s.CA=some ⟨C,0,none⟩) (hS:c.SA=some ⟨S,0,none⟩) (hd:x.data.length≤65536) (hB:B≤w.heap.size):
  Calls Tryz.prog 284 #[.pointer (some ⟨a,0,none⟩),.agg #[.int .i64 i,.int .i64 k,.int .i64 ha]] w fun e w'=> (∃D m,e= .returned (.tuple #[.slice D x.data.length m,.int .i64 0])∧Own w' w.heap.size 5 1 D x.data.length m (x.data.map by8))∧Keeps NO w w':=by
 have k1:=(Kz0 NO w).alloc (.cells #[.int .i64 (i:Int),.int .i64 (k:Int),.int .i64 ha] 236)
 have b1:=Blk.new w 236 #[.int .i64 (i:Int),.int .i64 (k:Int),.int .i64 ha]
 have HF:=zz (Zhg B a s i k C S ha c x _ (h.quiet k1) hn hl hv hC hS)
 have H0:=zz h
 have K1:=zz k1
 have B1:=zz b1
 obtain⟨⟨q0,q1,q2⟩,⟨f0,f1,f2⟩,hz⟩:=b1.three
 have HV:=zz hv
 have HC:=zz hC
 have HS:=zz hS
 obtain⟨sn,hsn⟩:∃sn,sn=c.slots.length:=⟨_,rfl⟩
 have HSn:=zz hsn
 clear h k1 b1 hv hC hS hsn
 obtain⟨dn,hdn⟩:∃dn,dn=x.data.length:=⟨_,rfl⟩
 have HDn:=zz hdn
 rw [←hdn] at hd ⊢
 clear hdn
 go_enter Tryz.func284,Tryz.ntmps284
 go_wp2_with fail
 refine HF.out.mono ?_
 rintro e w2 ⟨rfl,k2⟩
 have T:=zz (Tl.start H0.out (K1.out.trans k2) (B1.out.kept k2 (fun h=> h)) HC.out HV.out.hc HS.out HV.out.hx)
 have hDa:=(H0.out.quiet (K1.out.trans k2)).da i c (fun e=> e) HV.out.hc k x HV.out.hx
 have K2:=zz (K1.out.trans k2)
 rw [←HDn.out] at hDa
 have HDa:=zz hDa
 have hw2:w.heap.size≤w2.heap.size:=K2.out.size
 have hS2:S<w2.heap.size:=by obtain⟨c1,h1⟩:=T.out.blkS;exact h1.lt
 obtain⟨p0,p1,p2,p3⟩:=T.out.slotCell
 rw [←HDn.out] at p3
 clear k2 HF B1 q0 q1 q2 f0 f1 f2 hDa T p0 p1 p2 K1
 go_wp2_with (at_builtin;refine Za5 _ Zbu rfl (.tmp 19) (.tmp 23) rfl w.heap.size _ rfl (Own.new0 _ _ 5 1 _ (by simp) (by omega)) _ (m:=dn) _ rfl ((HDa.out.kept ((Kz0 NO w2).alloc _) (fun _ _ h=> h)).rd (by omega)) (Zb4 _) (by simp only [maxLen];omega) (by omega) (by simp;omega) ?_;intro A7 c7 w7 o7 k7 _;rw [Nat.zero_add,List.nil_append] at o7;have O7:=zz o7;have K7:=zz (K2.out.trans (((Kz0 NO w2).alloc (.cells #[] 5)).step k7 (fun k hk h=> by have:=(Za0 _ _ _).1 h;omega)));clear o7 k7)
 go_ret2
 exact⟨⟨_,_,rfl,O7.out⟩,K7.out⟩
theorem Znc (B a:Nat) (s:Ar) (i k C S:Nat) (ha:Int) (c:Cls) (x:Slot) (D:Option Addr) (n m Bd:Nat) (bs:List UInt8) (w:World) (h:IsAr w B a s) (hn:s.cls.length≤8) (hl:c.slots.length≤65536) (hv:Live s i k ha c x) (hC:s.CA=some ⟨C,0,none⟩) (hS:c.SA=some ⟨S,0,none⟩) (hlong:(n:Int)≤c.size) (hcs:c.size≤4096) (hr:Rd w Bd D 1 n (bs.map by8)) (hBd:Bd≤w.heap.size) (hB:B≤w.heap.size):
  Calls Tryz.prog 174 #[.pointer (some ⟨a,0,none⟩),.agg #[.int .i64 i,.int .i64 k,.int .i64 ha],.slice D n m] w fun e w'=> e= .returned (.int .i64 0)∧
   (∃D' dc',IsAr w' B a { s with cls:=s.cls.set i { c with slots:=c.slots.set k { x with D:=D',dc:=dc',data:=bs}}})∧Keeps (ArS B w) w w':=by
 have k1:=(Kz0 NO w).alloc (.cells #[.int .i64 (i:Int),.int .i64 (k:Int),.int .i64 ha] 236)
 have b1:=Blk.new w 236 #[.int .i64 (i:Int),.int .i64 (k:Int),.int .i64 ha]
 have HF:=zz (Zhg B a s i k C S ha c x _ (h.quiet k1) hn hl hv hC hS)
 have H0:=zz h
 have K1:=zz k1
 have B1:=zz b1
 obtain⟨⟨q0,q1,q2⟩,⟨f0,f1,f2⟩,hz⟩:=b1.three
 have HV:=zz hv
 have HC:=zz hC
 have HS:=zz hS
 obtain⟨sn,hsn⟩:∃sn,sn=c.slots.length:=⟨_,rfl⟩
 have HSn:=zz hsn
 clear h k1 b1 hv hC hS hsn
 have HR:=zz hr
 clear hr
 go_enter Tryz.func174,Tryz.ntmps174
 go_wp2_with fail
 refine HF.out.mono ?_
 rintro e w2 ⟨rfl,k2⟩
 have T:=zz (Tl.start H0.out (K1.out.trans k2) (B1.out.kept k2 (fun h=> h)) HC.out HV.out.hc HS.out HV.out.hx)
 have HK:=(H0.out.quiet (K1.out.trans k2)).own
 rw [HC.out] at HK
 have p0:=HK.cell (i*4) (by have:=(List.getElem?_eq_some_iff.1 HV.out.hc).1;omega)
 rw [(Zbd HV.out.hc).1] at p0
 have K2:=zz (K1.out.trans k2)
 have hw2:w.heap.size≤w2.heap.size:=K2.out.size
 have e1:decide (c.size<(n:Int))=false:=by simp;omega
 have HR2:=zz (HR.out.kept K2.out (fun _ _ h=> h))
 clear k2 HF B1 q0 q1 q2 f0 f1 f2 K1 HK HR
 go_wp2_with (at_builtin;refine Za5 _ Zbu rfl (.tmp 29) (.tmp 30) rfl w2.heap.size _ rfl (Own.new0 _ _ 5 1 _ (by simp) (by omega)) _ (m:=n) _ rfl (HR2.out.kept ((Kz0 NO w2).alloc _) (fun _ _ h=> h)) (Zb4 _) (by simp only [maxLen];omega) (by omega) (by simp) ?_;intro A7 c7 w7 o7 k7 _;rw [Nat.zero_add,List.nil_append] at o7;have O7:=zz (o7.base_le (show B≤w2.heap.size by omega));have K7:=zz (((Kz0 NO w2).alloc (.cells #[] 5)).step k7 (fun k hk h=> by have:=(Za0 _ _ _).1 h;omega));have T7:=zz (Tl.start H0.out (K2.out.trans K7.out) (T.out.bx.kept K7.out (fun h=> h)) HC.out HV.out.hc HS.out HV.out.hx);have fS:=T7.out.O.frozen (k*4+3);have p3:=T7.out.slotCell.2.2.2;clear o7 k7)
 have hbn:bs.length=n:=by have:=HR2.out.1;simpa using this
 have T8:=zz (T7.out.slot 3 (by omega) { x with D:=A7,dc:=c7,data:=bs} (.slice A7 n c7) (by simp [Zfr,hbn]))
 go_ret
 refine⟨rfl,⟨A7,c7,?_⟩,T8.out.K⟩
 refine T8.out.close (by simp) ?_
 have hne:¬inB A7 S:=fun hb=> by
  obtain⟨cs,h1⟩:=O7.out.blk hb
  obtain⟨cs2,h2⟩:=T7.out.blkS
  exact absurd (Za8 h1 h2) (by decide)
 have:=O7.out.kept (Zaf w7 S (k*4+3) (.slice A7 n c7)) (fun b hb e=> hne (e ▸ hb))
 dsimp only
 rw [hbn]
 exact this
end Go.Proofs.YtjamiaamngalgaaGreat
