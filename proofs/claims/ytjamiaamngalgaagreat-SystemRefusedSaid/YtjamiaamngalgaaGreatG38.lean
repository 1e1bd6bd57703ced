/-
  Parts: Zhs of numbered nodes: t; Zhs of numbered nodes: t. No conditions beyond those of the statement.
-/
import Derived.Test.YtjamiaamngalgaaGreatG36
import Derived.Test.YtjamiaamngalgaaGreatG37
import Derived.Deep.RegionLaw
import Derived.Test.YtjamiaamngalgaaGreatG00
set_option linter.unusedVariables false
set_option linter.unusedSimpArgs false
set_option maxRecDepth 1000000
set_option maxHeartbeats 4000000
namespace Go.Proofs.YtjamiaamngalgaaGreat
open Go.RowKit Cfp
structure LsS (α:Type) where
 n:Int
 len:Int
 first:Int
 last:Int
 used:List Bool
 next:List Int
 prev:List Int
 vals:List α
abbrev lsC {α:Type} (s:LsS α) (UA NA PA VA:Option Addr) (uc nc pc vp:Nat):Array Value:=
 #[.int .i64 s.n,.int .i64 s.len,.int .i64 s.first,.int .i64 s.last,.slice UA s.used.length uc,.slice NA s.used.length nc,.slice PA s.used.length pc,.slice VA s.used.length vp]
def LsF (g:Nat) (UA NA PA VA:Option Addr) (b:Nat):Prop:=b=g∨inB UA b∨inB NA b∨inB PA b∨inB VA b
structure IsLs {α:Type} (E V:TypeId) (sz:Nat) (vc:α→List Value) (w:World) (B g:Nat) (s:LsS α) (UA NA PA VA:Option Addr) (uc nc pc vp:Nat):Prop where
 le:B≤g
 blk:Blk w g E (lsC s UA NA PA VA uc nc pc vp)
 us:Own w B 4 1 UA s.used.length uc (s.used.map .bool)
 ns:Own w B 3 1 NA s.used.length nc (s.next.map (.int .i64))
 ps:Own w B 3 1 PA s.used.length pc (s.prev.map (.int .i64))
 vs:Own w B V sz VA s.used.length vp (s.vals.flatMap vc)
 np:∀b,inB NA b→¬inB PA b
 vn:∀b,inB VA b→¬inB NA b∧¬inB PA b
def Ls {α:Type} (E V:TypeId) (sz:Nat) (vc:α→List Value) (w:World) (B g:Nat) (s:LsS α) (F:Nat→Prop):Prop:=
 ∃UA NA PA VA uc nc pc vp,IsLs E V sz vc w B g s UA NA PA VA uc nc pc vp∧∀b,LsF g UA NA PA VA b→F b
section
variable {α:Type} {E V:TypeId} {sz:Nat} {vc:α→List Value} {w w':World} {B g:Nat} {s:LsS α} {UA NA PA VA:Option Addr} {uc nc pc vp:Nat} {F S:Nat→Prop}
theorem IsLs.kept (h:IsLs E V sz vc w B g s UA NA PA VA uc nc pc vp) (k:Keeps S w w') (hS:∀b,LsF g UA NA PA VA b→¬S b):IsLs E V sz vc w' B g s UA NA PA VA uc nc pc vp:=
 ⟨h.le,h.blk.kept k (hS _ (.inl rfl)),h.us.kept k (fun b hb=> hS b (.inr (.inl hb))),h.ns.kept k (fun b hb=> hS b (.inr (.inr (.inl hb)))),h.ps.kept k (fun b hb=> hS b (.inr (.inr (.inr (.inl hb))))),h.vs.kept k (fun b hb=> hS b (.inr (.inr (.inr (.inr hb))))),h.np,h.vn⟩
theorem IsLs.lt (h:IsLs E V sz vc w B g s UA NA PA VA uc nc pc vp) {b:Nat} (hb:LsF g UA NA PA VA b):b<w.heap.size∧B≤b:=by
 rcases hb with rfl | hb | hb | hb | hb
 ·exact⟨h.blk.lt,h.le⟩
 ·exact(h.us.inB hb).symm
 ·exact(h.ns.inB hb).symm
 ·exact(h.ps.inB hb).symm
 ·exact(h.vs.inB hb).symm
theorem Ls.kept (h:Ls E V sz vc w B g s F) (k:Keeps S w w') (hS:∀b,F b→¬S b):Ls E V sz vc w' B g s F:=by
 obtain⟨UA,NA,PA,VA,uc,nc,pc,vp,h1,h2⟩:=h
 exact⟨UA,NA,PA,VA,uc,nc,pc,vp,h1.kept k (fun b hb=> hS b (h2 b hb)),h2⟩
theorem Ls.quiet (h:Ls E V sz vc w B g s F) (k:Keeps NO w w'):Ls E V sz vc w' B g s F:=h.kept k (fun _ _ h=> h)
theorem Ls.more {G:Nat→Prop} (h:Ls E V sz vc w B g s F) (hG:∀b,F b→G b):Ls E V sz vc w B g s G:=by
 obtain⟨UA,NA,PA,VA,uc,nc,pc,vp,h1,h2⟩:=h
 exact⟨UA,NA,PA,VA,uc,nc,pc,vp,h1,fun b hb=> hG b (h2 b hb)⟩
end
def Zd8 (α:Type) (n:Int):LsS α:=⟨n,0, -1, -1,[],[],[],[]⟩
def Zb0 (l:List Bool):Nat:=l.findIdx (fun b=> !b)
theorem Zow (l:List Bool):Zb0 l≤l.length:=List.findIdx_le_length
theorem Zif {l:List Bool} {i:Nat} (hi:i<l.length) (h1:∀j,j<i→l[j]?=some true) (h2:l[i]?=some false):Zb0 l=i:=by
 unfold Zb0
 refine(List.findIdx_eq hi).2 ⟨?_,fun j hj=> ?_⟩
 ·have:=(List.getElem?_eq_some_iff.1 h2).2;simp [this]
 ·have h:=h1 j hj
  have:=(List.getElem?_eq_some_iff.1 h).2
  simp [this]
theorem Zie {l:List Bool} (h:∀j,j<l.length→l[j]?=some true):Zb0 l=l.length:=by
 unfold Zb0
 rw [List.findIdx_eq_length]
 intro x hx
 obtain⟨j,hj,rfl⟩:=List.getElem_of_mem hx
 have:=(List.getElem?_eq_some_iff.1 (h j hj)).2
 simp [this]
def LsS.freed {α:Type} (s:LsS α) (z:α):LsS α:=if Zb0 s.used<s.used.length then s else { s with used:=s.used++ [false],next:=s.next++ [-1],prev:=s.prev++ [-1],vals:=s.vals++ [z]}
theorem LsS.freed_lt {α:Type} {s:LsS α} {z:α} (h:Zb0 s.used<s.used.length):s.freed z=s:=if_pos h
theorem LsS.freed_ge {α:Type} {s:LsS α} {z:α} (h:¬Zb0 s.used<s.used.length):s.freed z= { s with used:=s.used++ [false],next:=s.next++ [-1],prev:=s.prev++ [-1],vals:=s.vals++ [z]}:=if_neg h
def Zeu {α:Type} (E V:TypeId) (sz:Nat) (vc:α→List Value) (w:World) (B g:Nat) (s':LsS α) (F:Nat→Prop) (v:Value) (e:Ending) (w':World):Prop:=
 e= .returned v∧Ls E V sz vc w' B g s' (fun b=> F b∨w.heap.size≤b)∧Keeps F w w'
abbrev bkC (x:Int × Option Addr):List Value:= [.int .u64 x.1,.pointer x.2]
abbrev inV (x:Int):List Value:= [.int .i64 x]
theorem Zv7:ElemOf Tryz.prog 485 466 2 16:=ElemOf.mk' (z:= .agg #[.int .u64 0,.pointer none]) Tryz.underlying485 (by kernel_rfl) rfl (by omega)
theorem Zov (w:World) (B g:Nat) (s:LsS Int) (F:Nat→Prop) (h:Ls 530 3 1 inV w B g s F) (hn:s.used.length≤8192) (hB:B≤w.heap.size):
  Calls Tryz.prog 395 #[.pointer (some ⟨g,0,none⟩)] w (Zeu 530 3 1 inV w B g (s.freed 0) F (.int .i64 (Zb0 s.used))):=by
 obtain⟨UA,NA,PA,VA,uc,nc,pc,vp,h,hF⟩:=h
 obtain⟨m,hm⟩:∃m,m=s.used.length:=⟨_,rfl⟩
 have HM:=zz hm
 have q4:=h.blk.cell 4
 have HB:=zz h.blk
 have HH:=zz h
 have HF:=zz hF
 unfold lsC at q4
 simp only [←hm] at q4
 have hU:=h.us
 rw [←hm] at hU
 have HU:=zz hU
 have hgl:=h.blk.lt
 rw [←hm] at hn
 clear h hF hU hm
 go_enter Tryz.func395,Tryz.ntmps395
 go_wp2_with fail
 go_loop [3,4,10] (fun _ _ iv=> ∃i:Nat,i≤m∧iv= .int .i64 i∧Hid (∀j,j<i→s.used[j]?=some true)) (fun _ _ iv=> m-(intOf iv).toNat)
 case atStart=> exact⟨0,by omega,rfl,zz (fun j hj=> by omega)⟩
 case round=>
  obtain⟨i,hi,rfl,HJ⟩:=hrel
  by_cases hlt:i<m
  ·have HLT:Hid (i+1≤m):=hlt
   obtain⟨b,hb⟩:∃b,s.used[i]?=some b:=⟨s.used[i]'(by have:=HM.out;omega),by simp⟩
   obtain⟨GU,rfl,_,_⟩:=HU.out.some_ (by omega)
   have f1:w.cell? ⟨GU,i,none⟩=some (.bool b):=(HU.out.cell i (by omega)).trans (by simp [hb])
   have HBb:=zz hb
   have hltI:(i:Int)<(m:Int):=by omega
   have hj0:(0:Int)≤(i:Int):=by omega
   clear hb
   cases b
   ·go_wp2_with fail
    go_ret
    have hk:Zb0 s.used=i:=Zif (by have:=HM.out;omega) HJ.out HBb.out
    have hlt2:Zb0 s.used<s.used.length:=by have:=HM.out;omega
    refine⟨by rw [hk];rfl,?_,Kz0 _ _⟩
    rw [LsS.freed_lt hlt2]
    exact⟨_,NA,PA,VA,uc,nc,pc,vp,HH.out,fun b hb=> .inl (HF.out b hb)⟩
   ·go_wp2_with fail
    go_round
    case rel=> exact⟨i+1,HLT.out,by go_num,zz (fun j hj=> by
     by_cases e:j=i
     ·rw [e];exact HBb.out
     ·exact HJ.out j (by omega))⟩
    case measure=> have:=HLT.out;simp [intOf];omega
  ·obtain rfl:i=m:=by omega
   go_upto_region 7 with fail
   have h:=HH.out
   have hU:=h.us
   have hN:=h.ns
   have hP:=h.ps
   have hbk:=h.blk
   have hml:=HM.out
   rw [←hml] at hU hN hP
   unfold lsC at hbk
   simp only [←hml] at hbk
   refine Code.wp_mono ?_ (chI.reg7 w B g i _ UA NA PA uc nc pc _ _ _ hbk ⟨rfl,rfl,rfl⟩ hU hN hP h.np (by omega) hB _ _ _ _ _ _ _ _ _ _ _ _ _ _ _ _ _ _ _ _ _ _ _ _ _ _ _ _ _ _ _ _ _ _ _ _ _ _ _ _ _ _ _ _ _ _ _ _ _ _ _ _ _ _ _ _ _ _ _ _ _ _ _)
   intro e a' w1 hex
   cases e <;> (first | exact hex.elim | skip)
   obtain⟨⟨v19,v20,v21,v22,v23,v24,v25,v26,v27,v28,v29,v30,v31,v32,v33,v34,v35,v36,v37,v38,v39,v40,v41,v42,v43,v44,v45,rfl⟩,AU,cU,AN,cN,AP,cP,b1,⟨oU,oN,oP⟩,⟨hAU,hAN,hAP,hnp⟩,k1⟩:=hex
   have hV:=h.vs
   rw [←hml] at hV
   have hVk:=hV.kept k1 (fun b hb e=> by
    rcases e with e | e | e | e
    ·exact hV.ne_blk hbk (by decide) hb e
    ·exact(show¬inB UA b from fun e2=> hV.ne hU (by decide) hb e2) e
    ·exact(h.vn b hb).1 e
    ·exact(h.vn b hb).2 e)
   have HL1:=zz (show(∀b,inB AN b→b<w1.heap.size)∧(∀b,inB AP b→b<w1.heap.size) from⟨fun b hb=> (oN.inB hb).2,fun b hb=> (oP.inB hb).2⟩)
   have HB1:=zz b1
   have OU:=zz oU
   have ON:=zz oN
   have OP:=zz oP
   have OV:=zz hVk
   have HA:=zz (show(∀q,inB AU q→inB UA q∨w.heap.size≤q)∧(∀q,inB AN q→inB NA q∨w.heap.size≤q)∧(∀q,inB AP q→inB PA q∨w.heap.size≤q)∧∀q,inB AN q→¬inB AP q from⟨hAU,hAN,hAP,hnp⟩)
   have K1:=zz (k1.weak (S':=LsF g UA NA PA VA) (fun b _ e=> by
    rcases e with e | e | e | e
    ·exact .inl e
    ·exact .inr (.inl e)
    ·exact .inr (.inr (.inl e))
    ·exact .inr (.inr (.inr (.inl e)))))
   have hs1:=k1.size
   have c7:=b1.cell 7
   have fz7:=b1.frozen 7
   have hg1:=b1.lt
   clear b1 oU oN oP hVk hAU hAN hAP hnp k1 hbk hU hN hP hV h hml q4
   dsimp only
   simp only [List.setIfInBounds_toArray,List.set_cons_zero,List.set_cons_succ] at HB1 c7
   go_upto_region 8 with fail
   go_region_law ((refine Zao _ Zcm (by rfl) (.tmp 50) (.tmp 54) (by rfl) B _ (by rfl) (by exact OV.out.kept (((Kz0 NO w1).drew.alloc _).alloc _) (fun _ _ h=> h)) _ (m:=1) (inV 0) (by rfl) (by exact Blk.rd (xs:=inV 0) (Blk.new_at _ _ _ _ (by simp)) rfl) (by simp [Value.oneCell']) (by simp only [maxLen];omega) (by omega) (by simp;omega) ?_;intro A7 c7' w7 o7 k7 hA7;have hkA:=(((Kz0 NO w1).drew).alloc (.cells #[.int .i64 0] 3)).alloc (.cells #[.int .i64 0] 3);have B7:=(HB1.out.kept hkA (fun h=> h)).kept k7 (fun h=> OV.out.ne_blk HB1.out (by decide) h rfl);have f7:=B7.frozen 7;have q7:=B7.cell 7;have HB7:=zz B7;have OU7:=zz ((OU.out.kept hkA (fun _ _ h=> h)).kept k7 (fun b hb e=> OV.out.ne OU.out (by decide) e hb));have ON7:=zz ((ON.out.kept hkA (fun _ _ h=> h)).kept k7 (fun b hb e=> (HA.out.2.1 b hb).elim (fun h=> (HH.out.vn b e).1 h) (fun h=> by have:=HH.out.vs.inB e;omega)));have OP7:=zz ((OP.out.kept hkA (fun _ _ h=> h)).kept k7 (fun b hb e=> (HA.out.2.2.1 b hb).elim (fun h=> (HH.out.vn b e).2 h) (fun h=> by have:=HH.out.vs.inB e;omega)));have OV7:=zz o7;have HA7:=zz (show∀q,inB A7 q→inB VA q∨(w.heap.size≤q∧w1.heap.size≤q) from fun q hq=> (hA7 q hq).imp id (fun h=> by simp at h;exact⟨by omega,by omega⟩));have K7:=zz ((K1.out.step0 hkA).step k7 (S':=inB VA) (fun b hb e=> by first | exact .inr (.inr (.inr (.inr e))) | exact e));clear o7 k7 hA7 B7 hkA))
   all_goals (
    have HB8:=zz (HB7.out.set 7 (.slice A7 (i+1) c7'))
    have kB:=Zad w7 g 7 (.slice A7 (i+1) c7')
    have OU8:=zz (OU7.out.kept kB (fun b hb e=> OU7.out.ne_blk HB7.out (by decide) hb e))
    have ON8:=zz (ON7.out.kept kB (fun b hb e=> ON7.out.ne_blk HB7.out (by decide) hb e))
    have OP8:=zz (OP7.out.kept kB (fun b hb e=> OP7.out.ne_blk HB7.out (by decide) hb e))
    have OV8:=zz (OV7.out.kept kB (fun b hb e=> OV7.out.ne_blk HB7.out (by decide) hb e))
    have K8:=zz (K7.out.step kB (fun b hb e=> .inl e))
    clear HB7 OU7 ON7 OP7 OV7 K7 kB q7 f7 c7 fz7 HB1 OU ON OP OV K1
    generalize w7.setCell _ _=w8 at*
    have c4:=HB8.out.cell 4
    simp only [List.setIfInBounds_toArray,List.set_cons_zero,List.set_cons_succ] at c4
    go_wp2_with fail
    go_ret
    have hk:Zb0 s.used=s.used.length:=Zie (fun j hj=> HJ.out j (by have:=HM.out;omega))
    refine⟨by rw [hk,←HM.out];rfl,?_,K8.out.weak (fun b _ hb=> HF.out b hb)⟩
    rw [LsS.freed_ge (by omega)]
    have h:=HH.out
    have hl:(s.used++ [false]).length=i+1:=by simp [HM.out]
    refine⟨AU,AN,AP,A7,cU,cN,cP,c7',⟨h.le,?_,?_,?_,?_,?_,HA.out.2.2.2,?_⟩,?_⟩
    ·unfold lsC
     dsimp only
     rw [hl]
     exact HB8.out
    ·dsimp only
     rw [hl,List.map_append]
     exact OU8.out
    ·dsimp only
     rw [hl,List.map_append]
     exact ON8.out
    ·dsimp only
     rw [hl,List.map_append]
     exact OP8.out
    ·dsimp only
     rw [hl,List.flatMap_append]
     exact OV8.out
    ·intro b hb
     rcases HA7.out b hb with h1 | ⟨h1,h2⟩
     ·refine⟨fun e=> ?_,fun e=> ?_⟩
      ·rcases HA.out.2.1 b e with h3 | h3
       ·exact(h.vn b h1).1 h3
       ·have:=h.vs.inB h1;omega
      ·rcases HA.out.2.2.1 b e with h3 | h3
       ·exact(h.vn b h1).2 h3
       ·have:=h.vs.inB h1;omega
     ·exact⟨fun e=> by have:=HL1.out.1 b e;omega,fun e=> by have:=HL1.out.2 b e;omega⟩
    ·intro b hb
     rcases hb with e | e | e | e | e
     ·exact .inl (HF.out b (.inl e))
     ·exact(HA.out.1 b e).imp (fun h=> HF.out b (.inr (.inl h))) id
     ·exact(HA.out.2.1 b e).imp (fun h=> HF.out b (.inr (.inr (.inl h)))) id
     ·exact(HA.out.2.2.1 b e).imp (fun h=> HF.out b (.inr (.inr (.inr (.inl h))))) id
     ·exact(HA7.out b e).imp (fun h=> HF.out b (.inr (.inr (.inr (.inr h))))) (fun h=> h.1))
theorem Zsg (w:World) (B g:Nat) (s:LsS (Int × Option Addr)) (F:Nat→Prop) (h:Ls 487 466 2 bkC w B g s F) (hn:s.used.length≤8192) (hB:B≤w.heap.size):
  Calls Tryz.prog 394 #[.pointer (some ⟨g,0,none⟩)] w (Zeu 487 466 2 bkC w B g (s.freed (0,none)) F (.int .i64 (Zb0 s.used))):=by
 obtain⟨UA,NA,PA,VA,uc,nc,pc,vp,h,hF⟩:=h
 obtain⟨m,hm⟩:∃m,m=s.used.length:=⟨_,rfl⟩
 have HM:=zz hm
 have q4:=h.blk.cell 4
 have HB:=zz h.blk
 have HH:=zz h
 have HF:=zz hF
 unfold lsC at q4
 simp only [←hm] at q4
 have hU:=h.us
 rw [←hm] at hU
 have HU:=zz hU
 have hgl:=h.blk.lt
 rw [←hm] at hn
 clear h hF hU hm
 go_enter Tryz.func394,Tryz.ntmps394
 go_wp2_with fail
 go_loop [3,4,10] (fun _ _ iv=> ∃i:Nat,i≤m∧iv= .int .i64 i∧Hid (∀j,j<i→s.used[j]?=some true)) (fun _ _ iv=> m-(intOf iv).toNat)
 case atStart=> exact⟨0,by omega,rfl,zz (fun j hj=> by omega)⟩
 case round=>
  obtain⟨i,hi,rfl,HJ⟩:=hrel
  by_cases hlt:i<m
  ·have HLT:Hid (i+1≤m):=hlt
   obtain⟨b,hb⟩:∃b,s.used[i]?=some b:=⟨s.used[i]'(by have:=HM.out;omega),by simp⟩
   obtain⟨GU,rfl,_,_⟩:=HU.out.some_ (by omega)
   have f1:w.cell? ⟨GU,i,none⟩=some (.bool b):=(HU.out.cell i (by omega)).trans (by simp [hb])
   have HBb:=zz hb
   have hltI:(i:Int)<(m:Int):=by omega
   have hj0:(0:Int)≤(i:Int):=by omega
   clear hb
   cases b
   ·go_wp2_with fail
    go_ret
    have hk:Zb0 s.used=i:=Zif (by have:=HM.out;omega) HJ.out HBb.out
    have hlt2:Zb0 s.used<s.used.length:=by have:=HM.out;omega
    refine⟨by rw [hk];rfl,?_,Kz0 _ _⟩
    rw [LsS.freed_lt hlt2]
    exact⟨_,NA,PA,VA,uc,nc,pc,vp,HH.out,fun b hb=> .inl (HF.out b hb)⟩
   ·go_wp2_with fail
    go_round
    case rel=> exact⟨i+1,HLT.out,by go_num,zz (fun j hj=> by
     by_cases e:j=i
     ·rw [e];exact HBb.out
     ·exact HJ.out j (by omega))⟩
    case measure=> have:=HLT.out;simp [intOf];omega
  ·obtain rfl:i=m:=by omega
   go_upto_region 7 with fail
   have h:=HH.out
   have hU:=h.us
   have hN:=h.ns
   have hP:=h.ps
   have hbk:=h.blk
   have hml:=HM.out
   rw [←hml] at hU hN hP
   unfold lsC at hbk
   simp only [←hml] at hbk
   refine Code.wp_mono ?_ (chB.reg7 w B g i _ UA NA PA uc nc pc _ _ _ hbk ⟨rfl,rfl,rfl⟩ hU hN hP h.np (by omega) hB _ _ _ _ _ _ _ _ _ _ _ _ _ _ _ _ _ _ _ _ _ _ _ _ _ _ _ _ _ _ _ _ _ _ _ _ _ _ _ _ _ _ _ _ _ _ _ _ _ _ _ _ _ _ _ _ _ _ _ _ _ _ _)
   intro e a' w1 hex
   cases e <;> (first | exact hex.elim | skip)
   obtain⟨⟨v19,v20,v21,v22,v23,v24,v25,v26,v27,v28,v29,v30,v31,v32,v33,v34,v35,v36,v37,v38,v39,v40,v41,v42,v43,v44,v45,rfl⟩,AU,cU,AN,cN,AP,cP,b1,⟨oU,oN,oP⟩,⟨hAU,hAN,hAP,hnp⟩,k1⟩:=hex
   have hV:=h.vs
   rw [←hml] at hV
   have hVk:=hV.kept k1 (fun b hb e=> by
    rcases e with e | e | e | e
    ·exact hV.ne_blk hbk (by decide) hb e
    ·exact(show¬inB UA b from fun e2=> hV.ne hU (by decide) hb e2) e
    ·exact(h.vn b hb).1 e
    ·exact(h.vn b hb).2 e)
   have HL1:=zz (show(∀b,inB AN b→b<w1.heap.size)∧(∀b,inB AP b→b<w1.heap.size) from⟨fun b hb=> (oN.inB hb).2,fun b hb=> (oP.inB hb).2⟩)
   have HB1:=zz b1
   have OU:=zz oU
   have ON:=zz oN
   have OP:=zz oP
   have OV:=zz hVk
   have HA:=zz (show(∀q,inB AU q→inB UA q∨w.heap.size≤q)∧(∀q,inB AN q→inB NA q∨w.heap.size≤q)∧(∀q,inB AP q→inB PA q∨w.heap.size≤q)∧∀q,inB AN q→¬inB AP q from⟨hAU,hAN,hAP,hnp⟩)
   have K1:=zz (k1.weak (S':=LsF g UA NA PA VA) (fun b _ e=> by
    rcases e with e | e | e | e
    ·exact .inl e
    ·exact .inr (.inl e)
    ·exact .inr (.inr (.inl e))
    ·exact .inr (.inr (.inr (.inl e)))))
   have hs1:=k1.size
   have c7:=b1.cell 7
   have fz7:=b1.frozen 7
   have hg1:=b1.lt
   clear b1 oU oN oP hVk hAU hAN hAP hnp k1 hbk hU hN hP hV h hml q4
   dsimp only
   simp only [List.setIfInBounds_toArray,List.set_cons_zero,List.set_cons_succ] at HB1 c7
   go_upto_region 8 with fail
   go_region_law ((refine Zao _ Zv7 (by rfl) (.tmp 50) (.tmp 54) (by rfl) B _ (by rfl) (by exact OV.out.kept (((Kz0 NO w1).drew.alloc _).alloc _) (fun _ _ h=> h)) _ (m:=1) (bkC (0,none)) (by rfl) (by exact Blk.rd (xs:=bkC (0,none)) (Blk.new_at _ _ _ _ (by simp)) rfl) (by simp [Value.oneCell']) (by simp only [maxLen];omega) (by omega) (by simp;omega) ?_;intro A7 c7' w7 o7 k7 hA7;have hkA:=(((Kz0 NO w1).drew).alloc (.cells #[.int .u64 0,.pointer none] 466)).alloc (.cells #[.int .u64 0,.pointer none] 466);have B7:=(HB1.out.kept hkA (fun h=> h)).kept k7 (fun h=> OV.out.ne_blk HB1.out (by decide) h rfl);have f7:=B7.frozen 7;have q7:=B7.cell 7;have HB7:=zz B7;have OU7:=zz ((OU.out.kept hkA (fun _ _ h=> h)).kept k7 (fun b hb e=> OV.out.ne OU.out (by decide) e hb));have ON7:=zz ((ON.out.kept hkA (fun _ _ h=> h)).kept k7 (fun b hb e=> (HA.out.2.1 b hb).elim (fun h=> (HH.out.vn b e).1 h) (fun h=> by have:=HH.out.vs.inB e;omega)));have OP7:=zz ((OP.out.kept hkA (fun _ _ h=> h)).kept k7 (fun b hb e=> (HA.out.2.2.1 b hb).elim (fun h=> (HH.out.vn b e).2 h) (fun h=> by have:=HH.out.vs.inB e;omega)));have OV7:=zz o7;have HA7:=zz (show∀q,inB A7 q→inB VA q∨(w.heap.size≤q∧w1.heap.size≤q) from fun q hq=> (hA7 q hq).imp id (fun h=> by simp at h;exact⟨by omega,by omega⟩));have K7:=zz ((K1.out.step0 hkA).step k7 (S':=inB VA) (fun b hb e=> by first | exact .inr (.inr (.inr (.inr e))) | exact e));clear o7 k7 hA7 B7 hkA))
   all_goals (
    have HB8:=zz (HB7.out.set 7 (.slice A7 (i+1) c7'))
    have kB:=Zad w7 g 7 (.slice A7 (i+1) c7')
    have OU8:=zz (OU7.out.kept kB (fun b hb e=> OU7.out.ne_blk HB7.out (by decide) hb e))
    have ON8:=zz (ON7.out.kept kB (fun b hb e=> ON7.out.ne_blk HB7.out (by decide) hb e))
    have OP8:=zz (OP7.out.kept kB (fun b hb e=> OP7.out.ne_blk HB7.out (by decide) hb e))
    have OV8:=zz (OV7.out.kept kB (fun b hb e=> OV7.out.ne_blk HB7.out (by decide) hb e))
    have K8:=zz (K7.out.step kB (fun b hb e=> .inl e))
    clear HB7 OU7 ON7 OP7 OV7 K7 kB q7 f7 c7 fz7 HB1 OU ON OP OV K1
    generalize w7.setCell _ _=w8 at*
    have c4:=HB8.out.cell 4
    simp only [List.setIfInBounds_toArray,List.set_cons_zero,List.set_cons_succ] at c4
    go_wp2_with fail
    go_ret
    have hk:Zb0 s.used=s.used.length:=Zie (fun j hj=> HJ.out j (by have:=HM.out;omega))
    refine⟨by rw [hk,←HM.out];rfl,?_,K8.out.weak (fun b _ hb=> HF.out b hb)⟩
    rw [LsS.freed_ge (by omega)]
    have h:=HH.out
    have hl:(s.used++ [false]).length=i+1:=by simp [HM.out]
    refine⟨AU,AN,AP,A7,cU,cN,cP,c7',⟨h.le,?_,?_,?_,?_,?_,HA.out.2.2.2,?_⟩,?_⟩
    ·unfold lsC
     dsimp only
     rw [hl]
     exact HB8.out
    ·dsimp only
     rw [hl,List.map_append]
     exact OU8.out
    ·dsimp only
     rw [hl,List.map_append]
     exact ON8.out
    ·dsimp only
     rw [hl,List.map_append]
     exact OP8.out
    ·dsimp only
     rw [hl,List.flatMap_append]
     exact OV8.out
    ·intro b hb
     rcases HA7.out b hb with h1 | ⟨h1,h2⟩
     ·refine⟨fun e=> ?_,fun e=> ?_⟩
      ·rcases HA.out.2.1 b e with h3 | h3
       ·exact(h.vn b h1).1 h3
       ·have:=h.vs.inB h1;omega
      ·rcases HA.out.2.2.1 b e with h3 | h3
       ·exact(h.vn b h1).2 h3
       ·have:=h.vs.inB h1;omega
     ·exact⟨fun e=> by have:=HL1.out.1 b e;omega,fun e=> by have:=HL1.out.2 b e;omega⟩
    ·intro b hb
     rcases hb with e | e | e | e | e
     ·exact .inl (HF.out b (.inl e))
     ·exact(HA.out.1 b e).imp (fun h=> HF.out b (.inr (.inl h))) id
     ·exact(HA.out.2.1 b e).imp (fun h=> HF.out b (.inr (.inr (.inl h)))) id
     ·exact(HA.out.2.2.1 b e).imp (fun h=> HF.out b (.inr (.inr (.inr (.inl h))))) id
     ·exact(HA7.out b e).imp (fun h=> HF.out b (.inr (.inr (.inr (.inr h))))) (fun h=> h.1))
open Go.RowKit Cfp
theorem freed_lt {α:Type} (s:LsS α) (z:α):Zb0 s.used<(s.freed z).used.length:=by
 unfold LsS.freed
 have:=Zow s.used
 split
 ·assumption
 ·simp;omega
def LsS.put11 {α:Type} (s:LsS α) (z v:α):LsS α:=
 { s.freed z with used:=(s.freed z).used.set (Zb0 s.used) true,next:=(s.freed z).next.set (Zb0 s.used) (-1),prev:=(s.freed z).prev.set (Zb0 s.used) (-1),vals:=(s.freed z).vals.set (Zb0 s.used) v,first:=Zb0 s.used,last:=Zb0 s.used,len:=(s.freed z).len+1}
theorem Zs6 (w:World) (B g:Nat) (s:LsS Int) (F:Nat→Prop) (h:Ls 530 3 1 inV w B g s F) (hn:s.used.length≤8191) (hB:B≤w.heap.size) (hlen:s.len<s.n) (hl0:0≤s.len) (hl1:s.n≤8192) (v:Int):
  Calls Tryz.prog 393 #[.pointer (some ⟨g,0,none⟩),.int .i64 (-1),.int .i64 (-1),.int .i64 v] w (Zeu 530 3 1 inV w B g (s.put11 0 v) F (.tuple #[.int .i64 (Zb0 s.used),.int .i64 0])):=by
 obtain⟨kk,hkk⟩:∃k,k=Zb0 s.used:=⟨_,rfl⟩
 have hfr:=fun W (kW:Keeps NO w W)=> Zov W B g s F (h.quiet kW) (by omega) (by have:=kW.size;omega)
 rw [←hkk] at hfr
 have HFr:=zz hfr
 have HKK:=zz hkk
 clear hfr
 obtain⟨UA,NA,PA,VA,uc,nc,pc,vp,h0,_⟩:=id h
 have c0:=h0.blk.cell 0
 have c1:=h0.blk.cell 1
 have hne:(s.len==s.n)=false:=by simp;omega
 have HS:=zz h
 clear h h0 hkk
 go_enter Tryz.func393,Tryz.ntmps393
 go_wp2_with fail
 go_quiet (fail)
 go_wp2_with fail
 refine(HFr.out _ ((Kz0 _ w).drewN nq)).mono ?_
 rintro e w1 ⟨rfl,⟨UA,NA,PA,VA,uc,nc,pc,vp,h1,hF1⟩,k1⟩
 have hk:=freed_lt s 0
 obtain⟨t,ht⟩:∃t,t=s.freed 0:=⟨_,rfl⟩
 rw [←ht] at h1 hk
 rw [←HKK.out] at hk
 obtain⟨m,hm⟩:∃m,m=t.used.length:=⟨_,rfl⟩
 have h1l:=h1.us
 have h1n:=h1.ns
 have h1p:=h1.ps
 have h1v:=h1.vs
 have h1b:=h1.blk
 have hnp:=h1.np
 have hvn:=h1.vn
 unfold lsC at h1b
 rw [←hm] at h1l h1n h1p h1v hk
 simp only [←hm] at h1b
 obtain⟨GU,rfl,_,_⟩:=h1l.some_ (by omega)
 obtain⟨GN,rfl,_,_⟩:=h1n.some_ (by omega)
 obtain⟨GP,rfl,_,_⟩:=h1p.some_ (by omega)
 obtain⟨GV,rfl,_,_⟩:=h1v.some_ (by omega)
 have d1:GN≠GP:=fun e=> hnp GN ((Za0 _ _ _).2 rfl) ((Za0 _ _ _).2 e.symm)
 have d2:GV≠GN:=fun e=> (hvn GV ((Za0 _ _ _).2 rfl)).1 ((Za0 _ _ _).2 e.symm)
 have d3:GV≠GP:=fun e=> (hvn GV ((Za0 _ _ _).2 rfl)).2 ((Za0 _ _ _).2 e.symm)
 have d4:GU≠GN:=fun e=> h1l.ne h1n (by decide) ((Za0 _ _ _).2 rfl) ((Za0 _ _ _).2 e.symm)
 have d5:GU≠GP:=fun e=> h1l.ne h1p (by decide) ((Za0 _ _ _).2 rfl) ((Za0 _ _ _).2 e.symm)
 have d6:GU≠GV:=fun e=> h1l.ne h1v (by decide) ((Za0 _ _ _).2 rfl) ((Za0 _ _ _).2 e.symm)
 have d7:GU≠g:=h1l.ne_blk h1b (by decide) ((Za0 _ _ _).2 rfl)
 have d8:GN≠g:=h1n.ne_blk h1b (by decide) ((Za0 _ _ _).2 rfl)
 have d9:GP≠g:=h1p.ne_blk h1b (by decide) ((Za0 _ _ _).2 rfl)
 have d10:GV≠g:=h1v.ne_blk h1b (by decide) ((Za0 _ _ _).2 rfl)
 have b4:=h1b.cell 4
 have b5:=h1b.cell 5
 have b6:=h1b.cell 6
 have b7:=h1b.cell 7
 simp only [Zpg] at b4 b5 b6 b7
 obtain⟨xu,xu'⟩:∃v,w1.cell? ⟨GU,kk,none⟩=some v:=⟨_,(h1l.cell kk (by omega)).trans (List.getElem?_eq_getElem (by rw [h1l.len];omega))⟩
 obtain⟨xn,xn'⟩:∃v,w1.cell? ⟨GN,kk,none⟩=some v:=⟨_,(h1n.cell kk (by omega)).trans (List.getElem?_eq_getElem (by rw [h1n.len];omega))⟩
 obtain⟨xp,xp'⟩:∃v,w1.cell? ⟨GP,kk,none⟩=some v:=⟨_,(h1p.cell kk (by omega)).trans (List.getElem?_eq_getElem (by rw [h1p.len];omega))⟩
 obtain⟨xv,xv'⟩:∃v,w1.cell? ⟨GV,kk,none⟩=some v:=⟨_,(h1v.cell kk (by omega)).trans (List.getElem?_eq_getElem (by rw [h1v.len];omega))⟩
 have yu:=h1l.frozen kk
 have yn:=h1n.frozen kk
 have yp:=h1p.frozen kk
 have yv:=h1v.frozen kk
 have HU:=zz h1l
 have HN:=zz h1n
 have HP:=zz h1p
 have HV:=zz h1v
 have HB:=zz h1b
 have H1:=zz h1
 have K1:=zz k1
 have HT:=zz ht
 have HM:=zz hm
 have HF1:=zz hF1
 have hkI:(kk:Int)<(m:Int):=by omega
 have hk0:(0:Int)≤(kk:Int):=by omega
 have hb1:g<w1.heap.size:=h1b.lt
 clear h1 h1l h1n h1p h1v h1b k1 ht hm hF1 hnp hvn HFr c0 c1
 go_upto_region 4 with fail
 go_region
 have kU:=Zad w1 GU kk (.bool true)
 have oU:=HU.out.store kk (.bool true)
 have oN:=HN.out.kept kU (fun b hb e=> d4 (by have:=(Za0 _ _ _).1 hb;omega))
 have oP:=HP.out.kept kU (fun b hb e=> d5 (by have:=(Za0 _ _ _).1 hb;omega))
 have oV:=HV.out.kept kU (fun b hb e=> d6 (by have:=(Za0 _ _ _).1 hb;omega))
 have oB:=HB.out.kept kU (fun e=> d7 e.symm)
 have kA:=K1.out.step kU (S':=(· =GU)) (fun b hb e=> by
  subst e
  rcases HF1.out b (.inr (.inl ((Za0 _ _ _).2 rfl))) with h | h
  ·exact h
  ·simp at h hb;omega)
 clear kU
 generalize w1.setCell _ _=wa at*
 have kP:=Zad wa GP kk (.int .i64 (-1))
 have oP:=oP.store kk (.int .i64 (-1))
 have oN:=oN.kept kP (fun b hb e=> d1 (by have:=(Za0 _ _ _).1 hb;omega))
 have oU:=oU.kept kP (fun b hb e=> d5 (by have:=(Za0 _ _ _).1 hb;omega))
 have oV:=oV.kept kP (fun b hb e=> d3 (by have:=(Za0 _ _ _).1 hb;omega))
 have oB:=oB.kept kP (fun e=> d9 e.symm)
 have kA:=kA.step kP (S':=(· =GP)) (fun b hb e=> by
  subst e
  rcases HF1.out b (.inr (.inr (.inr (.inl ((Za0 _ _ _).2 rfl))))) with h | h
  ·exact h
  ·simp at h hb;omega)
 clear kP
 generalize wa.setCell _ _=wb at*
 have kN:=Zad wb GN kk (.int .i64 (-1))
 have oN:=oN.store kk (.int .i64 (-1))
 have oP:=oP.kept kN (fun b hb e=> d1 (by have:=(Za0 _ _ _).1 hb;omega))
 have oU:=oU.kept kN (fun b hb e=> d4 (by have:=(Za0 _ _ _).1 hb;omega))
 have oV:=oV.kept kN (fun b hb e=> d2 (by have:=(Za0 _ _ _).1 hb;omega))
 have oB:=oB.kept kN (fun e=> d8 e.symm)
 have kA:=kA.step kN (S':=(· =GN)) (fun b hb e=> by
  subst e
  rcases HF1.out b (.inr (.inr (.inl ((Za0 _ _ _).2 rfl)))) with h | h
  ·exact h
  ·simp at h hb;omega)
 clear kN
 generalize wb.setCell _ _=wc at*
 have kV:=Zad wc GV kk (.int .i64 v)
 have oV:=oV.store kk (.int .i64 v)
 have oN:=oN.kept kV (fun b hb e=> d2 (by have:=(Za0 _ _ _).1 hb;omega))
 have oU:=oU.kept kV (fun b hb e=> d6 (by have:=(Za0 _ _ _).1 hb;omega))
 have oP:=oP.kept kV (fun b hb e=> d3 (by have:=(Za0 _ _ _).1 hb;omega))
 have oB:=oB.kept kV (fun e=> d10 e.symm)
 have kA:=kA.step kV (S':=(· =GV)) (fun b hb e=> by
  subst e
  rcases HF1.out b (.inr (.inr (.inr (.inr ((Za0 _ _ _).2 rfl))))) with h | h
  ·exact h
  ·simp at h hb;omega)
 clear kV
 generalize wc.setCell _ _=wd at*
 have HU5:=zz (show Own wd.drew B _ _ _ _ _ _ from oU)
 have HN5:=zz (show Own wd.drew B _ _ _ _ _ _ from oN)
 have HP5:=zz (show Own wd.drew B _ _ _ _ _ _ from oP)
 have HV5:=zz (show Own wd.drew B _ _ _ _ _ _ from oV)
 have hB5:Blk wd.drew g _ _:=oB
 have hlt:t.len=s.len:=by rw [HT.out];unfold LsS.freed;split <;> rfl
 rw [hlt] at hB5
 have HLt:=zz hlt
 have HB5:=zz hB5
 have K5:=zz (kA.drew)
 clear oU oN oP oV oB hB5 hlt kA xu' xn' xp' xv' yu yn yp yv b4 b5 b6 b7 HU HN HP HV HB
 generalize wd.drew=w5 at*
 have q1:=HB5.out.cell 1
 have q2:=HB5.out.cell 2
 have q3:=HB5.out.cell 3
 have f1:=HB5.out.frozen 1
 have f2:=HB5.out.frozen 2
 have f3:=HB5.out.frozen 3
 simp only [Zpg] at q1 q2 q3
 go_wp2_with fail
 go_ret2
 have b9:=((HB5.out.set 2 (.int .i64 (kk:Int))).set 3 (.int .i64 (kk:Int))).set 1 (.int .i64 (s.len+1))
 have k9:=((Zad w5 g 2 (.int .i64 (kk:Int))).trans (Zad _ g 3 (.int .i64 (kk:Int)))).trans (Zad _ g 1 (.int .i64 (s.len+1)))
 refine⟨by rw [←HKK.out];rfl,⟨some ⟨GU,0,none⟩,some ⟨GN,0,none⟩,some ⟨GP,0,none⟩,some ⟨GV,0,none⟩,uc,nc,pc,vp,⟨H1.out.le,?_,?_,?_,?_,?_,H1.out.np,H1.out.vn⟩,fun b hb=> (HF1.out b hb).imp id (fun h=> by simpa using h)⟩,?_⟩
 ·unfold LsS.put11 lsC
  rw [←HT.out,←HKK.out]
  dsimp only
  rw [List.length_set,←HM.out,HLt.out]
  exact b9
 ·unfold LsS.put11
  rw [←HT.out,←HKK.out]
  dsimp only
  rw [List.length_set,←HM.out,List.map_set]
  exact HU5.out.kept k9 (fun b hb e=> d7 (by have:=(Za0 _ _ _).1 hb;omega))
 ·unfold LsS.put11
  rw [←HT.out,←HKK.out]
  dsimp only
  rw [List.length_set,←HM.out,List.map_set]
  exact HN5.out.kept k9 (fun b hb e=> d8 (by have:=(Za0 _ _ _).1 hb;omega))
 ·unfold LsS.put11
  rw [←HT.out,←HKK.out]
  dsimp only
  rw [List.length_set,←HM.out,List.map_set]
  exact HP5.out.kept k9 (fun b hb e=> d9 (by have:=(Za0 _ _ _).1 hb;omega))
 ·unfold LsS.put11
  rw [←HT.out,←HKK.out]
  dsimp only
  rw [List.length_set,←HM.out]
  have:=HV5.out.kept k9 (fun b hb e=> d10 (by have:=(Za0 _ _ _).1 hb;omega))
  have e:(t.vals.set kk v).flatMap inV=(t.vals.flatMap inV).set kk (.int .i64 v):=by
   have e1:∀l:List Int,l.flatMap inV=l.map (.int .i64):=fun l=> by
    induction l with
    | nil=> rfl
    | cons x l ih=> rw [List.flatMap_cons,ih];rfl
   rw [e1,e1,List.map_set]
  rw [e]
  exact this
 ·exact((Kz0 F w).drewN nq).trans ((K5.out.weak (fun b _ h=> h)).step k9 (fun b hb e=> by
   subst e
   rcases HF1.out b (.inl rfl) with h | h
   ·exact h
   ·simp at h hb;omega))
end Go.Proofs.YtjamiaamngalgaaGreat
