/-
  Parts: Zhs of numbered nodes: t. No conditions beyond those of the statement.
-/
import Derived.Test.YtjamiaamngalgaaGreatG00
import Derived.Test.YtjamiaamngalgaaGreatG38
set_option linter.unusedVariables false
set_option linter.unusedSimpArgs false
set_option maxRecDepth 1000000
set_option maxHeartbeats 4000000
namespace Go.Proofs.YtjamiaamngalgaaGreat
open Go.RowKit Cfp
theorem Zvc (l:List (Int × Option Addr)):(l.flatMap bkC).length=l.length*2:=Zcf _ 2 (fun _=> rfl) l
theorem Zvb (l:List (Int × Option Addr)) (i:Nat) (v:Int × Option Addr) (hi:i<l.length):(l.set i v).flatMap bkC=((l.flatMap bkC).set (i*2) (.int .u64 v.1)).set (i*2+1) (.pointer v.2):=by
 obtain⟨x,hx⟩:∃x,l[i]?=some x:=⟨l[i],by simp [hi]⟩
 have h1:=Zb6 bkC 2 (fun _=> rfl) l i 0 x (v.1,x.2) (.int .u64 v.1) hx (by omega) rfl
 have h2:=Zb6 bkC 2 (fun _=> rfl) (l.set i (v.1,x.2)) i 1 (v.1,x.2) v (.pointer v.2) (by simp [hi]) (by omega) rfl
 rw [Nat.add_zero] at h1
 rw [h1,h2,List.set_set]
theorem Zuo (w:World) (B g:Nat) (s:LsS (Int × Option Addr)) (F:Nat→Prop) (h:Ls 487 466 2 bkC w B g s F) (hn:s.used.length≤8191) (hB:B≤w.heap.size) (hlen:s.len<s.n) (hl0:0≤s.len) (hl1:s.n≤8192) (v:Int × Option Addr) (hFl:∀b,F b→b<w.heap.size):
  Calls Tryz.prog 392 #[.pointer (some ⟨g,0,none⟩),.int .i64 (-1),.int .i64 (-1),.agg #[.int .u64 v.1,.pointer v.2]] w (Zeu 487 466 2 bkC w B g (s.put11 (0,none) v) F (.tuple #[.int .i64 (Zb0 s.used),.int .i64 0])):=by
 obtain⟨kk,hkk⟩:∃k,k=Zb0 s.used:=⟨_,rfl⟩
 have hfr:=fun W (kW:Keeps NO w W)=> Zsg W B g s F (h.quiet kW) (by omega) (by have:=kW.size;omega)
 rw [←hkk] at hfr
 have HFr:=zz hfr
 have HKK:=zz hkk
 clear hfr
 obtain⟨UA,NA,PA,VA,uc,nc,pc,vp,h0,_⟩:=id h
 have c0:=h0.blk.cell 0
 have c1:=h0.blk.cell 1
 have hne:(s.len==s.n)=false:=by simp;omega
 have HS:=zz h
 have HFl:=zz hFl
 have hgl:=h0.blk.lt
 clear h h0 hkk
 have kX:=(Kz0 NO w).alloc (.cells #[.int .u64 v.1,.pointer v.2] 466)
 have HX:=zz (Blk.new w 466 #[.int .u64 v.1,.pointer v.2])
 have c0:=(kX.cell (p:=⟨g,0,none⟩) hgl (fun h=> h)).trans c0
 have c1:=(kX.cell (p:=⟨g,1,none⟩) hgl (fun h=> h)).trans c1
 have KX:=zz kX
 clear kX
 go_enter Tryz.func392,Tryz.ntmps392
 go_upto_region 1 with fail
 obtain⟨X,hX⟩:∃X,X=w.heap.size:=⟨_,rfl⟩
 rw [←hX] at HX ⊢
 have HXe:=zz hX
 obtain⟨w0,hw0⟩:∃w0,w0=w.alloc (.cells #[.int .u64 v.1,.pointer v.2] 466):=⟨_,rfl⟩
 rw [←hw0] at HX KX c0 c1 ⊢
 have hs0:w0.heap.size=X+1:=by rw [hw0,hX];simp
 have HS0:=zz hs0
 clear hX hw0 hs0
 go_quiet (fail)
 go_wp2_with fail
 refine(HFr.out _ (KX.out.drewN nq)).mono ?_
 rintro e w1 ⟨rfl,⟨UA,NA,PA,VA,uc,nc,pc,vp,h1,hF1⟩,k1⟩
 have hk:=freed_lt s (0,none)
 obtain⟨t,ht⟩:∃t,t=s.freed (0,none):=⟨_,rfl⟩
 rw [←ht] at h1 hk
 rw [←HKK.out] at hk
 obtain⟨m,hm⟩:∃m,m=t.used.length:=⟨_,rfl⟩
 have h1l:=h1.us
 have h1n:=h1.ns
 have h1p:=h1.ps
 have h1v:=h1.vs
 have h1b:=h1.blk
 have hnp:=h1.np
 have hvn:=h1.vn
 unfold lsC at h1b
 rw [←hm] at h1l h1n h1p h1v hk
 simp only [←hm] at h1b
 obtain⟨GU,rfl,_,_⟩:=h1l.some_ (by omega)
 obtain⟨GN,rfl,_,_⟩:=h1n.some_ (by omega)
 obtain⟨GP,rfl,_,_⟩:=h1p.some_ (by omega)
 obtain⟨GV,rfl,_,_⟩:=h1v.some_ (by omega)
 have d1:GN≠GP:=fun e=> hnp GN ((Za0 _ _ _).2 rfl) ((Za0 _ _ _).2 e.symm)
 have d2:GV≠GN:=fun e=> (hvn GV ((Za0 _ _ _).2 rfl)).1 ((Za0 _ _ _).2 e.symm)
 have d3:GV≠GP:=fun e=> (hvn GV ((Za0 _ _ _).2 rfl)).2 ((Za0 _ _ _).2 e.symm)
 have d4:GU≠GN:=fun e=> h1l.ne h1n (by decide) ((Za0 _ _ _).2 rfl) ((Za0 _ _ _).2 e.symm)
 have d5:GU≠GP:=fun e=> h1l.ne h1p (by decide) ((Za0 _ _ _).2 rfl) ((Za0 _ _ _).2 e.symm)
 have d6:GU≠GV:=fun e=> h1l.ne h1v (by decide) ((Za0 _ _ _).2 rfl) ((Za0 _ _ _).2 e.symm)
 have d7:GU≠g:=h1l.ne_blk h1b (by decide) ((Za0 _ _ _).2 rfl)
 have d8:GN≠g:=h1n.ne_blk h1b (by decide) ((Za0 _ _ _).2 rfl)
 have d9:GP≠g:=h1p.ne_blk h1b (by decide) ((Za0 _ _ _).2 rfl)
 have d10:GV≠g:=h1v.ne_blk h1b (by decide) ((Za0 _ _ _).2 rfl)
 have b4:=h1b.cell 4
 have b5:=h1b.cell 5
 have b6:=h1b.cell 6
 have b7:=h1b.cell 7
 simp only [Zpg] at b4 b5 b6 b7
 obtain⟨xu,xu'⟩:∃v,w1.cell? ⟨GU,kk,none⟩=some v:=⟨_,(h1l.cell kk (by omega)).trans (List.getElem?_eq_getElem (by rw [h1l.len];omega))⟩
 obtain⟨xn,xn'⟩:∃v,w1.cell? ⟨GN,kk,none⟩=some v:=⟨_,(h1n.cell kk (by omega)).trans (List.getElem?_eq_getElem (by rw [h1n.len];omega))⟩
 obtain⟨xp,xp'⟩:∃v,w1.cell? ⟨GP,kk,none⟩=some v:=⟨_,(h1p.cell kk (by omega)).trans (List.getElem?_eq_getElem (by rw [h1p.len];omega))⟩
 obtain⟨xv,xv'⟩:∃v,w1.cell? ⟨GV,kk*2,none⟩=some v:=⟨_,(h1v.cell (kk*2) (by omega)).trans (List.getElem?_eq_getElem (by rw [h1v.len];omega))⟩
 obtain⟨xw,xw'⟩:∃v,w1.cell? ⟨GV,kk*2+1,none⟩=some v:=⟨_,(h1v.cell (kk*2+1) (by omega)).trans (List.getElem?_eq_getElem (by rw [h1v.len];omega))⟩
 have yu:=h1l.frozen kk
 have yn:=h1n.frozen kk
 have yp:=h1p.frozen kk
 have yv:=h1v.frozen (kk*2)
 have yw:=h1v.frozen (kk*2+1)
 have hXF:¬F X:=fun e=> by have:=HFl.out X e;have:=HXe.out;omega
 have HX1:=zz (HX.out.kept (S:=fun _=> False) ((Kz0 _ w0).drewN nq) (fun h=> h))
 have HX1:=zz (HX1.out.kept k1 hXF)
 have x0:=HX1.out.cell 0
 have x1:=HX1.out.cell 1
 have dX:∀b,LsF g (some ⟨GU,0,none⟩) (some ⟨GN,0,none⟩) (some ⟨GP,0,none⟩) (some ⟨GV,0,none⟩) b→b≠X:=fun b hb e=> by
  subst e
  rcases hF1 b hb with h | h
  ·exact hXF h
  ·have h2:(w0.drewN nq).heap.size=w0.heap.size:=rfl
   have:=HS0.out
   omega
 have dX1:GU≠X:=dX GU (.inr (.inl ((Za0 _ _ _).2 rfl)))
 have dX2:GN≠X:=dX GN (.inr (.inr (.inl ((Za0 _ _ _).2 rfl))))
 have dX3:GP≠X:=dX GP (.inr (.inr (.inr (.inl ((Za0 _ _ _).2 rfl)))))
 have dX4:GV≠X:=dX GV (.inr (.inr (.inr (.inr ((Za0 _ _ _).2 rfl)))))
 have HVL:=zz (show t.vals.length=m by have:=h1v.len;rw [Zvc] at this;omega)
 have HU:=zz h1l
 have HN:=zz h1n
 have HP:=zz h1p
 have HV:=zz h1v
 have HB:=zz h1b
 have H1:=zz h1
 have K1:=zz k1
 have HT:=zz ht
 have HM:=zz hm
 have HF1:=zz hF1
 have hkI:(kk:Int)<(m:Int):=by omega
 have hk0:(0:Int)≤(kk:Int):=by omega
 have hb1:g<w1.heap.size:=h1b.lt
 clear h1 h1l h1n h1p h1v h1b k1 ht hm hF1 hnp hvn HFr c0 c1
 go_upto_region 4 with fail
 go_region
 have kU:=Zad w1 GU kk (.bool true)
 have oU:=HU.out.store kk (.bool true)
 have oN:=HN.out.kept kU (fun b hb e=> d4 (by have:=(Za0 _ _ _).1 hb;omega))
 have oP:=HP.out.kept kU (fun b hb e=> d5 (by have:=(Za0 _ _ _).1 hb;omega))
 have oV:=HV.out.kept kU (fun b hb e=> d6 (by have:=(Za0 _ _ _).1 hb;omega))
 have oB:=HB.out.kept kU (fun e=> d7 e.symm)
 have kA:=K1.out.step kU (S':=(· =GU)) (fun b hb e=> by
  subst e
  rcases HF1.out b (.inr (.inl ((Za0 _ _ _).2 rfl))) with h | h
  ·exact h
  ·simp at h hb;omega)
 clear kU
 generalize w1.setCell _ _=wa at*
 have kP:=Zad wa GP kk (.int .i64 (-1))
 have oP:=oP.store kk (.int .i64 (-1))
 have oN:=oN.kept kP (fun b hb e=> d1 (by have:=(Za0 _ _ _).1 hb;omega))
 have oU:=oU.kept kP (fun b hb e=> d5 (by have:=(Za0 _ _ _).1 hb;omega))
 have oV:=oV.kept kP (fun b hb e=> d3 (by have:=(Za0 _ _ _).1 hb;omega))
 have oB:=oB.kept kP (fun e=> d9 e.symm)
 have kA:=kA.step kP (S':=(· =GP)) (fun b hb e=> by
  subst e
  rcases HF1.out b (.inr (.inr (.inr (.inl ((Za0 _ _ _).2 rfl))))) with h | h
  ·exact h
  ·simp at h hb;omega)
 clear kP
 generalize wa.setCell _ _=wb at*
 have kN:=Zad wb GN kk (.int .i64 (-1))
 have oN:=oN.store kk (.int .i64 (-1))
 have oP:=oP.kept kN (fun b hb e=> d1 (by have:=(Za0 _ _ _).1 hb;omega))
 have oU:=oU.kept kN (fun b hb e=> d4 (by have:=(Za0 _ _ _).1 hb;omega))
 have oV:=oV.kept kN (fun b hb e=> d2 (by have:=(Za0 _ _ _).1 hb;omega))
 have oB:=oB.kept kN (fun e=> d8 e.symm)
 have kA:=kA.step kN (S':=(· =GN)) (fun b hb e=> by
  subst e
  rcases HF1.out b (.inr (.inr (.inl ((Za0 _ _ _).2 rfl)))) with h | h
  ·exact h
  ·simp at h hb;omega)
 clear kN
 generalize wb.setCell _ _=wc at*
 have kV:=(Zad wc GV (kk*2) (.int .u64 v.1)).trans (Zad _ GV (kk*2+1) (.pointer v.2))
 have oV:=(oV.store (kk*2) (.int .u64 v.1)).store (kk*2+1) (.pointer v.2)
 have oN:=oN.kept kV (fun b hb e=> d2 (by have:=(Za0 _ _ _).1 hb;omega))
 have oU:=oU.kept kV (fun b hb e=> d6 (by have:=(Za0 _ _ _).1 hb;omega))
 have oP:=oP.kept kV (fun b hb e=> d3 (by have:=(Za0 _ _ _).1 hb;omega))
 have oB:=oB.kept kV (fun e=> d10 e.symm)
 have kA:=kA.step kV (S':=(· =GV)) (fun b hb e=> by
  subst e
  rcases HF1.out b (.inr (.inr (.inr (.inr ((Za0 _ _ _).2 rfl))))) with h | h
  ·exact h
  ·simp at h hb;omega)
 clear kV
 generalize (wc.setCell _ _).setCell _ _=wd at*
 have HU5:=zz (show Own wd.drew B _ _ _ _ _ _ from oU)
 have HN5:=zz (show Own wd.drew B _ _ _ _ _ _ from oN)
 have HP5:=zz (show Own wd.drew B _ _ _ _ _ _ from oP)
 have HV5:=zz (show Own wd.drew B _ _ _ _ _ _ from oV)
 have hB5:Blk wd.drew g _ _:=oB
 have hlt:t.len=s.len:=by rw [HT.out];unfold LsS.freed;split <;> rfl
 rw [hlt] at hB5
 have HLt:=zz hlt
 have HB5:=zz hB5
 have K5:=zz (kA.drew)
 clear oU oN oP oV oB hB5 hlt kA xu' xn' xp' xv' xw' yu yn yp yv yw x0 x1 dX b4 b5 b6 b7 HU HN HP HV HB
 generalize wd.drew=w5 at*
 have q1:=HB5.out.cell 1
 have q2:=HB5.out.cell 2
 have q3:=HB5.out.cell 3
 have f1:=HB5.out.frozen 1
 have f2:=HB5.out.frozen 2
 have f3:=HB5.out.frozen 3
 simp only [Zpg] at q1 q2 q3
 go_wp2_with fail
 go_ret2
 have b9:=((HB5.out.set 2 (.int .i64 (kk:Int))).set 3 (.int .i64 (kk:Int))).set 1 (.int .i64 (s.len+1))
 have k9:=((Zad w5 g 2 (.int .i64 (kk:Int))).trans (Zad _ g 3 (.int .i64 (kk:Int)))).trans (Zad _ g 1 (.int .i64 (s.len+1)))
 refine⟨by rw [←HKK.out];rfl,⟨some ⟨GU,0,none⟩,some ⟨GN,0,none⟩,some ⟨GP,0,none⟩,some ⟨GV,0,none⟩,uc,nc,pc,vp,⟨H1.out.le,?_,?_,?_,?_,?_,H1.out.np,H1.out.vn⟩,fun b hb=> (HF1.out b hb).imp id (fun h=> by have:=HS0.out;have:=HXe.out;simp at h;omega)⟩,?_⟩
 ·unfold LsS.put11 lsC
  rw [←HT.out,←HKK.out]
  dsimp only
  rw [List.length_set,←HM.out,HLt.out]
  exact b9
 ·unfold LsS.put11
  rw [←HT.out,←HKK.out]
  dsimp only
  rw [List.length_set,←HM.out,List.map_set]
  exact HU5.out.kept k9 (fun b hb e=> d7 (by have:=(Za0 _ _ _).1 hb;omega))
 ·unfold LsS.put11
  rw [←HT.out,←HKK.out]
  dsimp only
  rw [List.length_set,←HM.out,List.map_set]
  exact HN5.out.kept k9 (fun b hb e=> d8 (by have:=(Za0 _ _ _).1 hb;omega))
 ·unfold LsS.put11
  rw [←HT.out,←HKK.out]
  dsimp only
  rw [List.length_set,←HM.out,List.map_set]
  exact HP5.out.kept k9 (fun b hb e=> d9 (by have:=(Za0 _ _ _).1 hb;omega))
 ·unfold LsS.put11
  rw [←HT.out,←HKK.out]
  dsimp only
  rw [List.length_set,←HM.out]
  have:=HV5.out.kept k9 (fun b hb e=> d10 (by have:=(Za0 _ _ _).1 hb;omega))
  rw [Zvb t.vals kk v (by rw [HVL.out];exact hk)]
  exact this
 ·exact((KX.out.weak (S':=F) (fun _ _ h=> h.elim)).drewN nq).trans ((K5.out.weak (fun b _ h=> h)).step k9 (fun b hb e=> by
   subst e
   rcases HF1.out b (.inl rfl) with h | h
   ·exact h
   ·simp at h hb;omega))
end Go.Proofs.YtjamiaamngalgaaGreat
