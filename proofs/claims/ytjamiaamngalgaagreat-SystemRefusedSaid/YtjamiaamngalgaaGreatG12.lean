/-
  Parts: Handles in memory; which; A pool of keys: its entr; A pool in memory; the le; pool.New, Len, Find, Tex; pool.t. No conditions beyond those of the statement.
-/
import Derived.Test.YtjamiaamngalgaaGreatG10
import Derived.Test.YtjamiaamngalgaaGreatG11
import Derived.Maps.OwnSet
import Derived.Maps.OwnOps
import Derived.Test.YtjamiaamngalgaaGreatG01
import Derived.BigQuiet
set_option linter.unusedVariables false
set_option linter.unusedSimpArgs false
set_option maxRecDepth 1000000
set_option maxHeartbeats 4000000
namespace Go.Proofs.YtjamiaamngalgaaGreat
open Go.RowKit Cfp
abbrev Hd:=Nat × Nat × Int
structure HeldC (s:Ar) (H:List Hd):Prop where
 lv:∀x∈H,∃d,LV s x.1 x.2.1 x.2.2 d
 nd:(H.map (fun h=> (h.1,h.2.1))).Nodup
theorem HeldC.nil (s:Ar):HeldC s []:=⟨by simp,by simp⟩
open Go.RowKit Cfp
open Go.Maps (Tidy)
structure PE where
 h:Hd
 key:List UInt8
 users:Int
def PE.zero:PE:=⟨(0,0,0),[],0⟩
def peC (e:PE):List Value:= [.int .i64 e.h.1,.int .i64 e.h.2.1,.int .i64 e.h.2.2,.int .i64 e.users]
def peCs (l:List PE):List Value:=l.flatMap peC
theorem Zbq {l:List PE} {i:Nat} {x:PE} (h:l[i]?=some x):(peCs l)[i*4]?=some (.int .i64 x.h.1)∧(peCs l)[i*4+1]?=some (.int .i64 x.h.2.1)∧(peCs l)[i*4+2]?=some (.int .i64 x.h.2.2)∧(peCs l)[i*4+3]?=some (.int .i64 x.users):=
 ⟨Zag _ 4 (fun _=> rfl) l i 0 x h (by omega),Zag _ 4 (fun _=> rfl) l i 1 x h (by omega),Zag _ 4 (fun _=> rfl) l i 2 x h (by omega),Zag _ 4 (fun _=> rfl) l i 3 x h (by omega)⟩
theorem Zo2 (l m:List PE):peCs (l++m)=peCs l++peCs m:=List.flatMap_append
theorem Zjb {l:List PE} {i:Nat} {x:PE} (h:l[i]?=some x) (u:Int):(peCs l).set (i*4+3) (.int .i64 u)=peCs (l.set i { x with users:=u}):=Zb6 peC 4 (fun _=> rfl) l i 3 x { x with users:=u} (.int .i64 u) h (by omega) rfl
theorem Zo3 {l:List PE} {i:Nat} {x:PE} (h:l[i]?=some x) (y:PE):
  ((((peCs l).set (i*4) (.int .i64 y.h.1)).set (i*4+1) (.int .i64 y.h.2.1)).set (i*4+2) (.int .i64 y.h.2.2)).set (i*4+3) (.int .i64 y.users)=peCs (l.set i y):=by
 have hi:=(List.getElem?_eq_some_iff.1 h).1
 have key:∀u,(l.set i u)[i]?=some u:=fun u=> by simp [hi]
 have e1:(peCs l).set (i*4) (.int .i64 y.h.1)=peCs (l.set i { x with h:=(y.h.1,x.h.2.1,x.h.2.2)}):=Zb6 peC 4 (fun _=> rfl) l i 0 x { x with h:=(y.h.1,x.h.2.1,x.h.2.2)} (.int .i64 y.h.1) h (by omega) rfl
 have e2:∀a b c u v w:PE,(l.set i a).set i b=l.set i b:=fun a b _ _ _ _=> by simp
 rw [e1]
 have f2:=Zb6 peC 4 (fun _=> rfl) (l.set i { x with h:=(y.h.1,x.h.2.1,x.h.2.2)}) i 1 _ { x with h:=(y.h.1,y.h.2.1,x.h.2.2)} (.int .i64 y.h.2.1) (key _) (by omega) rfl
 have f3:=Zb6 peC 4 (fun _=> rfl) (l.set i { x with h:=(y.h.1,y.h.2.1,x.h.2.2)}) i 2 _ { x with h:=(y.h.1,y.h.2.1,y.h.2.2)} (.int .i64 y.h.2.2) (key _) (by omega) rfl
 have f4:=Zb6 peC 4 (fun _=> rfl) (l.set i { x with h:=(y.h.1,y.h.2.1,y.h.2.2)}) i 3 _ y (.int .i64 y.users) (key _) (by omega) rfl
 rw [List.set_set] at f2 f3 f4
 unfold peCs
 rw [f2,f3,f4]
theorem Zv4:ElemOf Tryz.prog 148 310 4 32:=ElemOf.mk' (z:= .agg #[.int .i64 0,.int .i64 0,.int .i64 0,.int .i64 0]) Tryz.underlying148 (by kernel_rfl) rfl (by omega)
def cntU:List PE→Nat
 | []=> 0
 | e :: l=> (if 0<e.users then 1 else 0)+cntU l
theorem Zmk:∀l:List PE,cntU l≤l.length
 | []=> Nat.le_refl _
 | e :: l=> by have:=Zmk l;simp only [cntU,List.length_cons];split <;> omega
theorem Zbo:∀(l:List PE) (k:Nat) (x y:PE),l[k]?=some x→cntU (l.set k y)+(if 0<x.users then 1 else 0)=cntU l+(if 0<y.users then 1 else 0)
 | [],_,_,_,h=> by simp at h
 | z :: l,0,x,y,h=> by
   simp at h
   subst h
   simp only [List.set_cons_zero,cntU]
   omega
 | z :: l,k+1,x,y,h=> by
   have:=Zbo l k x y (by simpa using h)
   simp only [List.set_cons_succ,cntU]
   omega
theorem Zin (l m:List PE):cntU (l++m)=cntU l+cntU m:=by
 induction l with
 | nil=> simp [cntU]
 | cons x l ih=> simp only [List.cons_append,cntU,ih];omega
abbrev KD:=DataW Unit
def Zui:KD:= .lit (.int .i64 0)
def kval (id:Nat):KD:= .lit (.int .i64 (id:Int))
structure Says (E:List PE) (D:KD):Prop where
 tidy:Tidy D
 yes:∀(id:Nat) (e:PE),E[id]?=some e→0<e.users→D.atKey (.string e.key) Zui=kval id∧Maps.has D (.string e.key)=true
 no:∀key,(∀(id:Nat) (e:PE),E[id]?=some e→0<e.users→e.key≠key)→Maps.has D (.string key)=false
 sz:Maps.size D=cntU E
structure PInv (E:List PE) (s:Ar) (D:KD) (M:Int):Prop where
 zero:∃e,E[0]?=some e∧e.users=0
 us:∀(id:Nat) (e:PE),E[id]?=some e→0≤e.users∧e.users≤M
 lv:∀(id:Nat) (e:PE),E[id]?=some e→0<e.users→LV s e.h.1 e.h.2.1 e.h.2.2 e.key∧1≤e.key.length∧e.key.length≤255
 un:∀(id id':Nat) (e e':PE),E[id]?=some e→E[id']?=some e'→0<e.users→0<e'.users→e.key=e'.key→id=id'
 says:Says E D
 len:(E.length:Int)≤M+1
theorem PInv.more {E:List PE} {s:Ar} {D:KD} {M M':Int} (h:PInv E s D M) (hm:M≤M'):PInv E s D M':=
 ⟨h.zero,fun id e he=> by have:=h.us id e he;omega,h.lv,h.un,h.says,by have:=h.len;omega⟩
theorem PInv.arena {E:List PE} {s s':Ar} {D:KD} {M:Int} (h:PInv E s D M) (hl:∀(id:Nat) (e:PE),E[id]?=some e→0<e.users→LV s' e.h.1 e.h.2.1 e.h.2.2 e.key):PInv E s' D M:=
 ⟨h.zero,h.us,fun id e he hu=> ⟨hl id e he hu,(h.lv id e he hu).2⟩,h.un,h.says,h.len⟩
theorem PInv.apart {E:List PE} {s:Ar} {D:KD} {M:Int} (h:PInv E s D M) {id id':Nat} {e e':PE} (he:E[id]?=some e) (he':E[id']?=some e') (hu:0<e.users) (hu':0<e'.users) (h1:e.h.1=e'.h.1) (h2:e.h.2.1=e'.h.2.1):id=id':=by
 have a:=(h.lv id e he hu).1
 have b:=(h.lv id' e' he' hu').1
 rw [←h1,←h2] at b
 exact h.un id id' e e' he he' hu hu' (a.one b).2
theorem Zbz {α:Type} {l:List α} {i j:Nat} {y z:α} (h:(l.set i y)[j]?=some z):(j=i∧z=y∧i<l.length)∨(j≠i∧l[j]?=some z):=by
 rw [List.getElem?_set] at h
 split at h
 ·next e=>
  subst e
  split at h
  ·next hl=> injection h with h;exact .inl ⟨rfl,h.symm,hl⟩
  ·simp at h
 ·next e=> exact .inr ⟨fun q=> e q.symm,h⟩
theorem PInv.users {E:List PE} {s:Ar} {D:KD} {M M':Int} (h:PInv E s D M) {id:Nat} {x:PE} (hx:E[id]?=some x) (hu:0<x.users) (u:Int) (h0:0<u) (h1:u≤M') (hm:M≤M'):PInv (E.set id { x with users:=u}) s D M':=by
 have hx0:id≠0:=fun e=> by subst e;obtain⟨e,h2,h3⟩:=h.zero;rw [hx] at h2;injection h2 with h2;subst h2;omega
 have back:∀ {j:Nat} {e:PE},(E.set id { x with users:=u})[j]?=some e→∃e',E[j]?=some e'∧e'.h=e.h∧e'.key=e.key∧(0<e.users ↔ 0<e'.users):=fun {j e} he=> by
  rcases Zbz he with ⟨rfl,rfl,_⟩ | ⟨_,h3⟩
  ·exact⟨x,hx,rfl,rfl,⟨fun _=> hu,fun _=> h0⟩⟩
  ·exact⟨e,h3,rfl,rfl,Iff.rfl⟩
 refine⟨?_,fun j e he=> ?_,fun j e he hu2=> ?_,fun j j' e e' he he' hu1 hu2 hk=> ?_,⟨h.says.tidy,fun j e he hu1=> ?_,fun key hno=> ?_,?_⟩,by have:=h.len;simp;omega⟩
 ·obtain⟨e,h2,h3⟩:=h.zero
  exact⟨e,by rw [List.getElem?_set,if_neg hx0];exact h2,h3⟩
 ·rcases Zbz he with ⟨rfl,rfl,_⟩ | ⟨_,h3⟩
  ·dsimp only;omega
  ·have:=h.us j e h3;omega
 ·obtain⟨e',h3,h4,h5,h6⟩:=back he
  have:=h.lv j e' h3 (h6.1 hu2)
  rw [h4,h5] at this
  exact this
 ·obtain⟨f,h3,h4,h5,h6⟩:=back he
  obtain⟨f',i3,i4,i5,i6⟩:=back he'
  exact h.un j j' f f' h3 i3 (h6.1 hu1) (i6.1 hu2) (by rw [h5,i5,hk])
 ·obtain⟨f,h3,h4,h5,h6⟩:=back he
  have:=h.says.yes j f h3 (h6.1 hu1)
  rw [h5] at this
  exact this
 ·refine h.says.no key (fun j e he hu1 hk=> ?_)
  by_cases e1:j=id
  ·subst e1
   rw [hx] at he;injection he with he;subst he
   exact hno j { x with users:=u} (by simp [(List.getElem?_eq_some_iff.1 hx).1]) h0 hk
  ·exact hno j e (by rw [List.getElem?_set,if_neg (fun q=> e1 q.symm)];exact he) hu1 hk
 ·have:=Zbo E id x { x with users:=u} hx
  rw [h.says.sz]
  simp only [hu,if_true,h0] at this
  omega
theorem PInv.out {E:List PE} {s s':Ar} {D:KD} {M:Int} (h:PInv E s D M) {id:Nat} {x:PE} (hx:E[id]?=some x) (hu:0<x.users) (g:Gone s s' x.h.1 x.h.2.1):PInv (E.set id { x with users:=0}) s' (D.del (.string x.key)) M:=by
 have hx0:id≠0:=fun e=> by subst e;obtain⟨e,h2,h3⟩:=h.zero;rw [hx] at h2;injection h2 with h2;subst h2;omega
 have back:∀ {j:Nat} {e:PE},(E.set id { x with users:=0})[j]?=some e→0<e.users→j≠id∧E[j]?=some e:=fun {j e} he hu=> by
  rcases Zbz he with ⟨rfl,rfl,_⟩ | h3
  ·exact absurd hu (by simp)
  ·exact h3
 refine⟨?_,fun j e he=> ?_,fun j e he hu2=> ?_,fun j j' e e' he he' hu1 hu2 hk=> ?_,⟨h.says.tidy.del _,fun j e he hu1=> ?_,fun key hno=> ?_,?_⟩,by have:=h.len;simp;omega⟩
 ·obtain⟨e,h2,h3⟩:=h.zero
  exact⟨e,by rw [List.getElem?_set,if_neg hx0];exact h2,h3⟩
 ·rcases Zbz he with ⟨rfl,rfl,_⟩ | ⟨_,h3⟩
  ·have:=h.us j x hx;dsimp only;omega
  ·exact h.us j e h3
 ·obtain⟨h3,h4⟩:=back he hu2
  refine⟨(g.lvs _ _ _ _).2 ⟨(h.lv j e h4 hu2).1,fun q=> h3 (h.apart h4 hx hu2 hu q.1 q.2)⟩,(h.lv j e h4 hu2).2⟩
 ·obtain⟨h3,h4⟩:=back he hu1
  obtain⟨i3,i4⟩:=back he' hu2
  exact h.un j j' e e' h4 i4 hu1 hu2 hk
 ·obtain⟨h3,h4⟩:=back he hu1
  have hne:Lit.string e.key≠Lit.string x.key:=fun q=> by
   injection q with q
   exact h3 (h.un j id e x h4 hx hu1 hu q)
  rw [Maps.atKey_del_other hne,Maps.has_del_other hne]
  exact h.says.yes j e h4 hu1
 ·by_cases hk:key=x.key
  ·subst hk
   exact Maps.has_del_same
  ·rw [Maps.has_del_other (fun q=> by injection q with q;exact hk q)]
   refine h.says.no key (fun j e he hu1 hk2=> ?_)
   by_cases e1:j=id
   ·subst e1
    rw [hx] at he;injection he with he;subst he
    exact hk hk2.symm
   ·exact hno j e (by rw [List.getElem?_set,if_neg (fun q=> e1 q.symm)];exact he) hu1 hk2
 ·have h1:=Zbo E id x { x with users:=0} hx
  have h2:=Maps.size_del h.says.tidy (k:= .string x.key)
  rw [(h.says.yes id x hx hu).2,h.says.sz] at h2
  simp only [hu,if_true] at h1 h2
  simp at h1
  omega
theorem PInv.grow {E:List PE} {s:Ar} {D:KD} {M:Int} (h:PInv E s D M):PInv (E++ [PE.zero]) s D (M+1):=by
 have back:∀ {j:Nat} {e:PE},(E++ [PE.zero])[j]?=some e→E[j]?=some e∨e=PE.zero:=fun {j e} he=> by
  rw [List.getElem?_append] at he
  split at he
  ·exact .inl he
  ·refine .inr ?_
   have:=List.mem_of_getElem? he
   simpa using this
 have back2:∀ {j:Nat} {e:PE},(E++ [PE.zero])[j]?=some e→0<e.users→E[j]?=some e:=fun {j e} he hu=> by
  rcases back he with h1 | rfl
  ·exact h1
  ·exact absurd hu (by simp [PE.zero])
 have forth:∀ {j:Nat} {e:PE},E[j]?=some e→(E++ [PE.zero])[j]?=some e:=fun {j e} he=> by
  rw [List.getElem?_append_left (List.getElem?_eq_some_iff.1 he).1];exact he
 refine⟨?_,fun j e he=> ?_,fun j e he hu=> h.lv j e (back2 he hu) hu,fun j j' e e' he he' hu1 hu2 hk=> h.un j j' e e' (back2 he hu1) (back2 he' hu2) hu1 hu2 hk,⟨h.says.tidy,fun j e he hu=> h.says.yes j e (back2 he hu) hu,fun key hno=> h.says.no key (fun j e he hu=> hno j e (forth he) hu),?_⟩,by have:=h.len;simp;omega⟩
 ·obtain⟨e,h2,h3⟩:=h.zero
  exact⟨e,forth h2,h3⟩
 ·rcases back he with h1 | rfl
  ·have:=h.us j e h1;omega
  ·obtain⟨e0,h2,_⟩:=h.zero
   have:=h.us 0 e0 h2
   simp only [PE.zero];omega
 ·rw [Zin,h.says.sz];rfl
theorem PInv.put {E:List PE} {s s1 s2:Ar} {D:KD} {M:Int} (h:PInv E s D M) (hM:1≤M) {id:Nat} {x:PE} (hx:E[id]?=some x) (hu:x.users=0) (h1:1≤id) {i k:Nat} {age size:Int} {key:List UInt8} (hk1:1≤key.length) (hk2:key.length≤255)
  (g:Got s s1 i k age size) (wr:Wrote s1 s2 i k age key) (hno:∀(j:Nat) (e:PE),E[j]?=some e→0<e.users→e.key≠key):PInv (E.set id ⟨(i,k,age),key,1⟩) s2 (D.put (.string key) (kval id)) M:=by
 have hil:=(List.getElem?_eq_some_iff.1 hx).1
 have hkl:WideAt.IsKeyLit (.string key):=trivial
 have hof:∀ {j:Nat} {e:PE},(E.set id ⟨(i,k,age),key,1⟩)[j]?=some e→(j=id∧e=⟨(i,k,age),key,1⟩)∨(j≠id∧E[j]?=some e):=fun {j e} he=> by
  rcases Zbz he with ⟨h3,h4,_⟩ | h3
  ·exact .inl ⟨h3,h4⟩
  ·exact .inr h3
 have hold:∀ {j:Nat} {e:PE},E[j]?=some e→0<e.users→LV s2 e.h.1 e.h.2.1 e.h.2.2 e.key:=fun {j e} he hu=> by
  have h3:=(h.lv j e he hu).1
  refine(wr.lvs _ _ _ _).2 (.inr ⟨(g.lvs _ _ _ _).2 (.inr h3),fun q=> ?_⟩)
  rw [q.1,q.2] at h3
  exact g.old _ _ h3
 refine⟨?_,fun j e he=> ?_,fun j e he hu2=> ?_,fun j j' e e' he he' hu1 hu2 hk=> ?_,⟨h.says.tidy.put hkl _,fun j e he hu1=> ?_,fun key' hno'=> ?_,?_⟩,by have:=h.len;simp;omega⟩
 ·obtain⟨e,h2,h3⟩:=h.zero
  exact⟨e,by rw [List.getElem?_set,if_neg (by omega)];exact h2,h3⟩
 ·rcases hof he with ⟨rfl,rfl⟩ | ⟨_,h3⟩
  ·dsimp only;omega
  ·exact h.us j e h3
 ·rcases hof he with ⟨rfl,rfl⟩ | ⟨_,h3⟩
  ·exact⟨(wr.lvs _ _ _ _).2 (.inl ⟨rfl,rfl,rfl,rfl⟩),hk1,hk2⟩
  ·exact⟨hold h3 hu2,(h.lv j e h3 hu2).2⟩
 ·rcases hof he with ⟨rfl,rfl⟩ | ⟨n3,h3⟩ <;> rcases hof he' with ⟨rfl,rfl⟩ | ⟨n4,h4⟩
  ·rfl
  ·exact absurd hk.symm (hno j' e' h4 hu2)
  ·exact absurd hk (hno j e h3 hu1)
  ·exact h.un j j' e e' h3 h4 hu1 hu2 hk
 ·rcases hof he with ⟨rfl,rfl⟩ | ⟨n3,h3⟩
  ·exact⟨Maps.atKey_put_same h.says.tidy.isMap hkl _ _,Maps.has_put_same h.says.tidy.isMap hkl _⟩
  ·have hne:Lit.string e.key≠Lit.string key:=fun q=> by injection q with q;exact hno j e h3 hu1 q
   rw [Maps.atKey_put_other hne,Maps.has_put_other hne]
   exact h.says.yes j e h3 hu1
 ·have hne:Lit.string key'≠Lit.string key:=fun q=> by
   injection q with q
   exact hno' id ⟨(i,k,age),key,1⟩ (by simp [hil]) (show(0:Int)<1 by omega) q.symm
  rw [Maps.has_put_other hne]
  refine h.says.no key' (fun j e he hu1=> ?_)
  by_cases e1:j=id
  ·subst e1
   rw [hx] at he;injection he with he;subst he
   omega
  ·exact hno' j e (by rw [List.getElem?_set,if_neg (fun q=> e1 q.symm)];exact he) hu1
 ·have h3:=Zbo E id x ⟨(i,k,age),key,1⟩ hx
  rw [Maps.size_put h.says.tidy,h.says.no key hno,h.says.sz]
  simp [hu] at h3
  simp
  omega
open Go.RowKit Cfp
def MapIs (w:World) (b:Nat) (D:KD):Prop:=w.ownsMap Tryz.prog 9 (plainElem Tryz.prog 3) b (Maps.size D) D
theorem Zg3 {w:World} {P:Program} {k:TypeId} {R:Value→Option (KD × List MemPlace)} {b n:Nat} {D:KD} (h:w.ownsMap P k R b n D):w.ownsMap P k R b (Maps.size D) D:=by
 obtain⟨es,clock,hb,F,hs,rfl⟩:=h
 exact⟨es,clock,hb,F,by simp [Maps.size,length_sorted],rfl⟩
theorem MapIs.block {w:World} {b:Nat} {D:KD} (h:MapIs w b D):∃es c,w.heap[b]?=some (.map es c):=by
 obtain⟨es,clock,hb,_⟩:=h
 exact⟨es,clock,hb⟩
theorem MapIs.lt {w:World} {b:Nat} {D:KD} (h:MapIs w b D):b<w.heap.size:=World.ownsMap.lt h
theorem MapIs.not {w:World} {b:Nat} {D:KD} (h:MapIs w b D) {t:TypeId} {cs:Array Value} (hb:Blk w b t cs):False:=by
 obtain⟨es,c,h1⟩:=h.block
 have:=hb.symm.trans h1
 injection this with this
 cases this
theorem MapIs.kept {w w':World} {b:Nat} {D:KD} {S:Nat→Prop} (h:MapIs w b D) (k:Keeps S w w') (hs:¬S b):MapIs w' b D:=by
 have hlt:=h.lt
 obtain⟨es,clock,hb,r⟩:=h
 exact⟨es,clock,(k.block b hlt hs).trans hb,r⟩
theorem MapIs.new (w:World):MapIs (w.alloc (.map #[] 0)) w.heap.size (.map []):=World.ownsMap_made w _ _ _
structure IsPo (w:World) (B p a:Nat) (n:Int) (E:List PE) (EA:Option Addr) (cap mb:Nat) (D:KD):Prop where
 le:B≤p
 blk:Blk w p 151 #[.pointer (some ⟨a,0,none⟩),.int .i64 n,.slice EA E.length cap,.map (some mb)]
 own:Own w B 310 4 EA E.length cap (peCs E)
 lem:B≤mb
 map:MapIs w mb D
def OthP (w:World) (B b:Nat):Prop:=b<B∨∃cs t,Blk w b t cs∧t≠151∧t≠310
section
variable {w w':World} {B p a:Nat} {n:Int} {E:List PE} {EA:Option Addr} {cap mb:Nat} {D:KD} {S:Nat→Prop}
theorem IsPo.kept (h:IsPo w B p a n E EA cap mb D) (k:Keeps S w w') (hs:∀b,S b→OthP w B b):IsPo w' B p a n E EA cap mb D:=by
 refine⟨h.le,h.blk.kept k (fun hS=> ?_),h.own.kept k (fun b hb hS=> ?_),h.lem,h.map.kept k (fun hS=> ?_)⟩
 ·rcases hs p hS with h1 | ⟨cs,t,h1,h2,_⟩
  ·have:=h.le;omega
  ·exact h2 (Za8 h1 h.blk)
 ·rcases hs b hS with h1 | ⟨cs,t,h1,_,h3⟩
  ·have:=h.own.inB hb;omega
  ·obtain⟨cs',h4⟩:=h.own.blk hb
   exact h3 (Za8 h1 h4)
 ·rcases hs mb hS with h1 | ⟨cs,t,h1,_,_⟩
  ·have:=h.lem;omega
  ·exact h.map.not h1
theorem IsPo.quiet (h:IsPo w B p a n E EA cap mb D) (k:Keeps NO w w'):IsPo w' B p a n E EA cap mb D:=h.kept k (fun _ h=> h.elim)
theorem OthP.ar {B':Nat} {b:Nat} (h:ArS B' w b):OthP w B b:=by
 obtain⟨_,cs,t,h1,h2⟩:=h
 refine .inr ⟨cs,t,h1,?_,?_⟩ <;> rcases h2 with rfl | rfl | rfl <;> decide
theorem IsPo.ar {B':Nat} (h:IsPo w B p a n E EA cap mb D) (k:Keeps (ArS B' w) w w'):IsPo w' B p a n E EA cap mb D:=h.kept k (fun b hb=> OthP.ar hb)
theorem IsArH.map {s:Ar} {X:Nat→Prop} (h:IsArH w B a s X) {es:Array MapEntry} {c:Nat} (hm:w.heap[mb]?=some (.map es c)) (k:Keeps (· =mb) w w'):IsArH w' B a s X:=by
 have hno:∀ {b:Nat} {t:TypeId} {cs:Array Value},Blk w b t cs→¬b=mb:=fun {b t cs} hb e=> by
  subst e
  have:=hb.symm.trans hm
  injection this with this
  cases this
 refine⟨h.le,h.blk.kept k (hno h.blk),h.own.kept k (fun b hb=> ?_),fun j d hj hd=> (h.sl j d hj hd).kept k (fun b hb=> ?_),fun j d hj hd q x hx=> (h.da j d hj hd q x hx).kept k (fun b hb=> ?_),h.dj,h.fl⟩
 ·obtain⟨cs,h1⟩:=h.own.blk hb
  exact hno h1
 ·obtain⟨cs,h1⟩:=(h.sl j d hj hd).blk hb
  exact hno h1
 ·obtain⟨cs,h1⟩:=(h.da j d hj hd q x hx).blk hb
  exact hno h1
def PoO (B:Nat) (w:World) (k:Nat):Prop:=B≤k∧∃cs t,Blk w k t cs∧(t=151∨t=310)
theorem PoO.quiet {w0:World} (h:Keeps NO w0 w) (k:Keeps (PoO B w) w w'):Keeps (PoO B w0) w0 w':=
 (h.weak (S':=PoO B w0) (fun _ _ h=> h.elim)).step k (fun b hb ⟨h1,cs,t,h2,h3⟩=> ⟨h1,cs,t,(h.block b hb (fun h=> h)).symm.trans h2,h3⟩)
theorem PoO.other {b:Nat} (h:PoO B w b):Other w B b:=by
 obtain⟨_,cs,t,h1,h2⟩:=h
 refine .inr ⟨cs,t,h1,?_⟩
 rcases h2 with rfl | rfl <;> exact⟨by decide,by decide,by decide,by decide⟩
theorem PoO.not {t:TypeId} {b:Nat} {cs:Array Value} (h:Blk w b t cs) (h4:t≠151) (h5:t≠310):¬PoO B w b:=by
 rintro⟨_,cs',t',h7,h8⟩
 have:=Za8 h h7
 rcases h8 with rfl | rfl
 ·exact h4 this
 ·exact h5 this
def PoS (B mb:Nat) (w:World) (k:Nat):Prop:=ArS B w k∨(B≤k∧((∃cs t,Blk w k t cs∧(t=151∨t=310))∨(k=mb∧∃es c,w.heap[k]?=some (.map es c))))
theorem PoS.same {w0:World} {b:Nat} (he:w.heap[b]?=w0.heap[b]?) (h:PoS B mb w b):PoS B mb w0 b:=by
 rcases h with ⟨h1,cs,t,h2,h3⟩ | ⟨h1,⟨cs,t,h2,h3⟩ | ⟨he2,es,c,h2⟩⟩
 ·exact .inl ⟨h1,cs,t,he.symm.trans h2,h3⟩
 ·exact .inr ⟨h1,.inl ⟨cs,t,he.symm.trans h2,h3⟩⟩
 ·exact .inr ⟨h1,.inr ⟨he2,es,c,he.symm.trans h2⟩⟩
theorem PoS.trans {w0:World} (h:Keeps (PoS B mb w0) w0 w) (k:Keeps (PoS B mb w) w w'):Keeps (PoS B mb w0) w0 w':=by
 refine h.step k (fun b hb hS=> ?_)
 by_cases hn:PoS B mb w0 b
 ·exact hn
 ·exact hS.same (h.block b hb hn)
theorem PoS.quiet {w0:World} (h:Keeps NO w0 w) (k:Keeps (PoS B mb w) w w'):Keeps (PoS B mb w0) w0 w':=PoS.trans (h.weak (fun _ _ h=> h.elim)) k
theorem PoS.ar (h:Keeps (ArS B w) w w'):Keeps (PoS B mb w) w w':=h.weak (fun _ _ h=> .inl h)
theorem PoS.po (h:Keeps (PoO B w) w w'):Keeps (PoS B mb w) w w':=h.weak (fun _ _ h=> .inr ⟨h.1,.inl h.2⟩)
theorem IsPo.inSO (h:IsPo w B p a n E EA cap mb D):PoO B w p:=⟨h.le,_,_,h.blk,.inl rfl⟩
theorem IsPo.inEO (h:IsPo w B p a n E EA cap mb D) {b:Nat} (hb:inB EA b):PoO B w b:=by
 obtain⟨cs,h1⟩:=h.own.blk hb
 exact⟨(h.own.inB hb).1,_,_,h1,.inr rfl⟩
theorem PoS.not {t:TypeId} {b:Nat} {cs:Array Value} (h:Blk w b t cs) (h1:t≠144) (h2:t≠147) (h3:t≠306) (h4:t≠151) (h5:t≠310):¬PoS B mb w b:=by
 rintro(h6 | ⟨_,⟨cs',t',h7,h8⟩ | ⟨_,es,c,h7⟩⟩)
 ·exact ArS.not h h1 h2 h3 h6
 ·have:=Za8 h h7
  rcases h8 with rfl | rfl
  ·exact h4 this
  ·exact h5 this
 ·have:=h.symm.trans h7
  injection this with this
  cases this
theorem IsPo.inM (h:IsPo w B p a n E EA cap mb D):PoS B mb w mb:= .inr ⟨h.lem,.inr ⟨rfl,h.map.block⟩⟩
theorem IsPo.inE (h:IsPo w B p a n E EA cap mb D) {b:Nat} (hb:inB EA b):PoS B mb w b:=by
 obtain⟨cs,h1⟩:=h.own.blk hb
 exact .inr ⟨(h.own.inB hb).1,.inl ⟨_,_,h1,.inr rfl⟩⟩
theorem IsPo.other (h:IsPo w B p a n E EA cap mb D) {b:Nat} (hb:inB EA b):Other w B b:=by
 obtain⟨cs,h1⟩:=h.own.blk hb
 exact .inr ⟨cs,_,h1,by decide,by decide,by decide,by decide⟩
theorem IsPo.cells (h:IsPo w B p a n E EA cap mb D):(w.cell? ⟨p,0,none⟩=some (.pointer (some ⟨a,0,none⟩))∧w.cell? ⟨p,1,none⟩=some (.int .i64 n)∧w.cell? ⟨p,2,none⟩=some (.slice EA E.length cap)∧w.cell? ⟨p,3,none⟩=some (.map (some mb)))∧p<w.heap.size:=
 ⟨⟨h.blk.cell 0,h.blk.cell 1,h.blk.cell 2,h.blk.cell 3⟩,h.blk.lt⟩
theorem IsPo.slice (h1:B≤p) (hb:Blk w p 151 #[.pointer (some ⟨a,0,none⟩),.int .i64 n,.slice EA E.length cap,.map (some mb)]) {E':List PE} {EA':Option Addr} {cap' m:Nat} (hm:E'.length=m) (ho:Own w B 310 4 EA' m cap' (peCs E')) (h2:B≤mb) (h3:MapIs w mb D):
  IsPo (w.setCell ⟨p,2,none⟩ (.slice EA' m cap')) B p a n E' EA' cap' mb D:=by
 subst hm
 have kS:=Zaf w p 2 (.slice EA' E'.length cap')
 exact⟨h1,hb.set 2 _,ho.kept kS (fun b hb' e=> by subst e;obtain⟨cs,h4⟩:=ho.blk hb';exact absurd (Za8 h4 hb) (by decide)),h2,h3.kept kS (fun e=> by subst e;exact h3.not hb)⟩
theorem IsPo.users {g:Nat} (h:IsPo w B p a n E (some ⟨g,0,none⟩) cap mb D) {id:Nat} {x:PE} (hx:E[id]?=some x) (u:Int):
  IsPo (w.setCell ⟨g,id*4+3,none⟩ (.int .i64 u)) B p a n (E.set id { x with users:=u}) (some ⟨g,0,none⟩) cap mb D:=by
 have kS:=Zaf w g (id*4+3) (.int .i64 u)
 have hi:inB (some ⟨g,0,none⟩:Option Addr) g:=⟨_,rfl,rfl⟩
 obtain⟨cs,hg⟩:=h.own.blk hi
 refine⟨h.le,?_,?_,h.lem,h.map.kept kS (fun e=> by subst e;exact h.map.not hg)⟩
 ·have:=h.blk.kept kS (fun e=> by subst e;exact absurd (Za8 h.blk hg) (by decide))
  rw [List.length_set]
  exact this
 ·have:=h.own.store (id*4+3) (.int .i64 u)
  rw [Zjb hx] at this
  rw [List.length_set]
  exact this
theorem IsPo.entry {g:Nat} (h:IsPo w B p a n E (some ⟨g,0,none⟩) cap mb D) {id:Nat} {x:PE} (hx:E[id]?=some x) (y:PE):
  IsPo ((((w.setCell ⟨g,id*4,none⟩ (.int .i64 y.h.1)).setCell ⟨g,id*4+1,none⟩ (.int .i64 y.h.2.1)).setCell ⟨g,id*4+2,none⟩ (.int .i64 y.h.2.2)).setCell ⟨g,id*4+3,none⟩ (.int .i64 y.users)) B p a n (E.set id y) (some ⟨g,0,none⟩) cap mb D∧
  Keeps (· =g) w ((((w.setCell ⟨g,id*4,none⟩ (.int .i64 y.h.1)).setCell ⟨g,id*4+1,none⟩ (.int .i64 y.h.2.1)).setCell ⟨g,id*4+2,none⟩ (.int .i64 y.h.2.2)).setCell ⟨g,id*4+3,none⟩ (.int .i64 y.users)):=by
 have kS:=(((Zaf w g (id*4) (.int .i64 y.h.1)).setCell (p:=⟨g,id*4+1,none⟩) (.inl rfl) (.int .i64 y.h.2.1)).setCell (p:=⟨g,id*4+2,none⟩) (.inl rfl) (.int .i64 y.h.2.2)).setCell (p:=⟨g,id*4+3,none⟩) (.inl rfl) (.int .i64 y.users)
 have hi:inB (some ⟨g,0,none⟩:Option Addr) g:=⟨_,rfl,rfl⟩
 obtain⟨cs,hg⟩:=h.own.blk hi
 refine⟨⟨h.le,?_,?_,h.lem,h.map.kept kS (fun e=> by subst e;exact h.map.not hg)⟩,kS⟩
 ·have:=h.blk.kept kS (fun e=> by subst e;exact absurd (Za8 h.blk hg) (by decide))
  rw [List.length_set]
  exact this
 ·have:=(((h.own.store (id*4) (.int .i64 y.h.1)).store (id*4+1) (.int .i64 y.h.2.1)).store (id*4+2) (.int .i64 y.h.2.2)).store (id*4+3) (.int .i64 y.users)
  rw [Zo3 hx] at this
  rw [List.length_set]
  exact this
end
def Zw7 (w:World) (B p a:Nat) (n:Int) (E:List PE) (mb:Nat) (D:KD) (e:Ending) (w':World):Prop:=
 ∃(E':List PE) (EA':Option Addr) (cap' id:Nat) (x:PE),e= .returned (.int .i64 id)∧IsPo w' B p a n E' EA' cap' mb D∧(E'=E∨E'=E++ [PE.zero])∧E'[id]?=some x∧x.users=0∧1≤id∧(∀(j:Nat) (y:PE),1≤j→j<id→E[j]?=some y→y.users≠0)∧Keeps (PoO B w) w w'
theorem Zo1 (w:World) (B p a:Nat) (n:Int) (E:List PE) (EA:Option Addr) (cap mb:Nat) (D:KD) (h:IsPo w B p a n E EA cap mb D) (hne:0<E.length) (hlen:E.length≤1000000) (hB:B≤w.heap.size):
  Calls Tryz.prog 175 #[.pointer (some ⟨p,0,none⟩)] w (Zw7 w B p a n E mb D):=by
 obtain⟨g,rfl,hg1,hg2⟩:=h.own.some_ hne
 obtain⟨⟨p0,p1,p2,p3⟩,hpw⟩:=h.cells
 have H:=zz h
 obtain⟨N,hN⟩:∃N,N=E.length:=⟨_,rfl⟩
 rw [←hN] at p2 hne hlen
 have HN:=zz hN
 clear h hN
 go_enter Tryz.func175,Tryz.ntmps175
 go_wp2_with fail
 go_loopw [3] (fun iv wr=> ∃(k nq:Nat),1≤k∧k≤N∧iv= .int .i64 k∧wr=w.drewN nq∧Hid (∀(j:Nat) (y:PE),1≤j→j<k→E[j]?=some y→y.users≠0)) (fun iv _=> N-(intOf iv).toNat)
 case atStart=> exact⟨1,0,by omega,by omega,rfl,rfl,zz (fun j y h1 h2=> by omega)⟩
 case round=>
  obtain⟨k,nq,hk1,hkN,rfl,rfl,HU⟩:=hrel
  by_cases hlt:k<N
  ·obtain⟨x,hx⟩:∃x,E[k]?=some x:=⟨E[k]'(by rw [←HN.out];exact hlt),by simp⟩
   obtain⟨_,_,_,g3⟩:=Zbq hx
   have q3:=H.out.own.cell (k*4+3) (by have:=HN.out;omega)
   rw [g3] at q3
   have hkI:(k:Int)<(N:Int):=by omega
   have hk0:(0:Int)≤(k:Int):=by omega
   have HX:=zz hx
   by_cases hu:x.users=0
   ·have hub:(x.users==0)=true:=by simp [hu]
    clear hx g3 hu
    go_wp2_with fail
    go_ret
    have hu:x.users=0:=by simpa using hub
    exact⟨E,_,cap,k,x,rfl,H.out.quiet ((Kz0 NO w).drewN _),.inl rfl,HX.out,hu,hk1,HU.out,(Kz0 _ w).drewN _⟩
   ·have hub:(x.users==0)=false:=by simpa using hu
    have HN2:Hid (k+1≤N):=hlt
    clear hx g3 hu
    go_wp2_with fail
    go_roundw
    case rel=>
     refine⟨k+1,_,by omega,HN2.out,by go_num,rfl,zz (fun j y h1 h2 hy=> ?_)⟩
     by_cases e:j=k
     ·subst e
      rw [HX.out] at hy;injection hy with hy;subst hy
      simpa using hub
     ·exact HU.out j y h1 (by omega) hy
    case measure=> have:=HN2.out;simp [intOf];omega
  ·obtain rfl:k=N:=by omega
   have hkI:¬((k:Int)<(k:Int)):=by omega
   have HO:=zz (show Own w B 310 4 (some ⟨g,0,none⟩) k cap (peCs E) from by rw [HN.out];exact H.out.own)
   go_upto_region 6 with fail
   generalize hw1:w.drewN nq=w1 at*
   have K1:Hid (Keeps NO w w1):=zz (by rw [←hw1];exact(Kz0 _ _).drewN _)
   clear hw1 p0 p1 p2 p3
   have H1:=zz (H.out.quiet K1.out)
   have HO1:=zz (HO.out.kept K1.out (fun _ _ h=> h))
   obtain⟨⟨p0,p1,p2,p3⟩,hpw1⟩:=H1.out.cells
   rw [←HN.out] at p2
   have hB1:B≤w1.heap.size:=Nat.le_trans hB K1.out.size
   go_upto_region 7 with (at_builtin;refine Za5 _ Zv4 rfl (.tmp 27) (.tmp 29) rfl B _ rfl (HO1.out.kept ((Kz0 NO w1).alloc _) (fun _ _ h=> h)) _ (m:=1) [.int .i64 0,.int .i64 0,.int .i64 0,.int .i64 0] rfl (by exact Blk.rd (xs:= [.int .i64 0,.int .i64 0,.int .i64 0,.int .i64 0]) (Blk.new_at _ _ _ _ (by simp)) rfl) (by simp [Value.oneCell']) (by simp only [maxLen];omega) (by omega) (by simp;omega) ?_;intro A7 c7 w7 o7 k7 hA7;have hkA:=(Kz0 NO w1).alloc (.cells #[.int .i64 0,.int .i64 0,.int .i64 0,.int .i64 0] 310);have hb7:=(H1.out.blk.kept hkA (fun h=> h)).kept k7 (fun h=> by obtain⟨cs,h4⟩:=(HO1.out.kept hkA (fun _ _ h=> h)).blk h;exact absurd (Za8 h4 (H1.out.blk.kept hkA (fun h=> h))) (by decide));have HB7:=zz hb7;have HM7:=zz ((H1.out.map.kept hkA (fun h=> h)).kept k7 (fun h=> by obtain⟨cs,h4⟩:=(HO1.out.kept hkA (fun _ _ h=> h)).blk h;exact(H1.out.map.kept hkA (fun h=> h)).not h4));have O7:=zz o7;have K7:=zz (Keeps.trans (Keeps.weak hkA (fun _ _ h=> h.elim)) (k7.weak (S':=fun b=> b=g) (fun b _ hb=> ((Za0 _ _ _).1 hb).symm)));have f7:=hb7.frozen 2;have c7a:=hb7.cell 2;have hp7:=hb7.lt;clear o7 k7 hA7 hkA hb7)
   have hfin:=zz (IsPo.slice (E:=E) (E':=E++ [PE.zero]) (m:=k+1) H.out.le HB7.out (by simp [HN.out]) (by have:=O7.out;rw [Zo2];exact this) H.out.lem HM7.out)
   have kfin:=zz (Keeps.trans (K7.out.weak (S':=PoO B w1) (fun b hb e=> by subst e;exact H1.out.inEO ⟨_,rfl,rfl⟩)) ((Zaf w7 p 2 (.slice A7 (k+1) c7)).weak (S':=PoO B w1) (fun b hb e=> by subst e;exact H1.out.inSO)))
   go_wp2_with fail
   go_ret
   exact⟨E++ [PE.zero],A7,c7,k,PE.zero,rfl,hfin.out,.inr rfl,by have:=HN.out;simp [this],rfl,hk1,HU.out,PoO.quiet K1.out kfin.out⟩
open Go.RowKit Cfp
open Go.Maps (string_keyed)
open Go.WideMaps
theorem PInv.new (s:Ar):PInv [PE.zero] s (.map []) 0:=by
 have h0:∀ {id:Nat} {e:PE},[PE.zero][id]?=some e→e.users=0:=fun {id e} h=> by
  have:=List.mem_of_getElem? h
  simp at this
  subst this
  rfl
 refine⟨⟨PE.zero,rfl,rfl⟩,fun id e he=> by have:=h0 he;omega,fun id e he hu=> by have:=h0 he;omega,fun id id' e e' he _ hu=> by have:=h0 he;omega,⟨Maps.tidy_empty,fun id e he hu=> by have:=h0 he;omega,fun key _=> rfl,rfl⟩,by simp⟩
def Zec (E:List PE) (key:List UInt8):Prop:=∀(j:Nat) (e:PE),E[j]?=some e→0<e.users→e.key≠key
theorem Zuk (E:List PE) (key:List UInt8):Zec E key∨∃(id:Nat) (x:PE),E[id]?=some x∧0<x.users∧x.key=key:=by
 by_cases h:∃(id:Nat) (x:PE),E[id]?=some x∧0<x.users∧x.key=key
 ·exact .inr h
 ·exact .inl fun j e he hu hk=> h ⟨j,e,he,hu,hk⟩
theorem Zlg {a b:Int} (h:(DataW.lit (.int .i64 a):KD)= .lit (.int .i64 b)):a=b:=by cases h;rfl
theorem Zna (w:World):(zeroValue 3).run Tryz.prog w= .ok (.int .i64 0) w:=by kernel_rfl
section
variable {w:World} {B p a mb cap:Nat} {n:Int} {E:List PE} {EA:Option Addr} {D:KD}
theorem Zll {s:ByteArray} (hs:s.size≤maxLen):keyOf Tryz.prog 9 (.string s)=some (.string s.data.toList):=keyOf_string_mk Tryz.underlying9 hs
theorem look_ok (h:MapIs w mb D) (hs:Says E D) (s:ByteArray) (hz:s.size≤maxLen):
  (∀(id:Nat) (x:PE),E[id]?=some x→0<x.users→x.key=s.data.toList→(Instr.lookup 149 (.map (some mb)) (.string s) true).run Tryz.prog w= .ok (.tuple #[.int .i64 id,.bool true]) w)∧
  (Zec E s.data.toList→(Instr.lookup 149 (.map (some mb)) (.string s) true).run Tryz.prog w= .ok (.tuple #[.int .i64 0,.bool false]) w):=by
 obtain⟨v,ps,hrun,hv⟩:=World.ownsMap.look_ok h (string_keyed Tryz.underlying9) Tryz.underlying149 (Zna w) (zd:=Zui) (zp:= []) (plainElem_int Tryz.underlying3 (by decide)) (Zll hz)
 obtain⟨c,rfl,hc,_⟩:=plainElem_int_inv Tryz.underlying3 hv
 simp only [Prod.mk.injEq] at hc
 refine⟨fun id x hx hu hk=> ?_,fun hno=> ?_⟩
 ·obtain⟨h1,h2⟩:=hs.yes id x hx hu
  rw [hk] at h1 h2
  rw [h1] at hc
  have hc1:=Zlg hc.1
  subst hc1
  rewrite [h2] at hrun
  exact hrun
 ·have h2:=hs.no _ hno
  rw [Maps.atKey_of_not_has h2] at hc
  have hc1:=Zlg hc.1
  subst hc1
  rewrite [h2] at hrun
  exact hrun
end
def Zw5 (w:World) (a:Nat) (n:Int) (e:Ending) (w':World):Prop:=
 ∃p g mb,e= .returned (.tuple #[.pointer (some ⟨p,0,none⟩),.int .i64 0])∧IsPo w' w.heap.size p a n [PE.zero] (some ⟨g,0,none⟩) 1 mb (.map [])∧Keeps NO w w'
theorem Zrm (w:World) (a:Nat) (n:Int) (h1:1≤n) (h2:n≤8192):
  Calls Tryz.prog 13 #[.pointer (some ⟨a,0,none⟩),.int .i64 n] w (Zw5 w a n):=by
 have hmk:∀w,(Instr.makeSlice 148 (.int .i64 1) (.int .i64 1)).run Tryz.prog w= .ok (.slice (some ⟨w.heap.size,0,none⟩) 1 1) (w.alloc (.cells #[.int .i64 0,.int .i64 0,.int .i64 0,.int .i64 0] 310)):=fun _=> by kernel_rfl
 have hmm:∀w,(Instr.makeMap 149 none).run Tryz.prog w= .ok (.map (some w.heap.size)) (w.alloc (.map #[] 0)):=fun w=> run_makeMap _ w
 have t1:decide (n<1)=false:=by simp;omega
 have t2:decide ((8192:Int)<n)=false:=by simp;omega
 go_enter Tryz.func13,Tryz.ntmps13
 go_wp2_with fail
 go_ret2
 have k1:=(Kz0 NO w).alloc (.cells #[.int .i64 0,.int .i64 0,.int .i64 0,.int .i64 0] 310)
 have o1:=Own.new w w.heap.size 310 #[.int .i64 0,.int .i64 0,.int .i64 0,.int .i64 0] 1 4 (Nat.le_refl _) (by decide) rfl
 have m2:=MapIs.new (w.alloc (.cells #[.int .i64 0,.int .i64 0,.int .i64 0,.int .i64 0] 310))
 have k2:=(Kz0 NO (w.alloc (.cells #[.int .i64 0,.int .i64 0,.int .i64 0,.int .i64 0] 310))).alloc (.map #[] 0)
 have k3:=(Kz0 NO ((w.alloc (.cells #[.int .i64 0,.int .i64 0,.int .i64 0,.int .i64 0] 310)).alloc (.map #[] 0))).alloc (.cells #[.pointer (some ⟨a,0,none⟩),.int .i64 n,.slice (some ⟨w.heap.size,0,none⟩) 1 1,.map (some (w.heap.size+1))] 151)
 refine⟨w.heap.size+1+1,w.heap.size,w.heap.size+1,rfl,⟨by omega,?_,(o1.kept k2 (fun _ _ h=> h)).kept k3 (fun _ _ h=> h),?_,?_⟩,(k1.trans k2).trans k3⟩
 ·exact Blk.new_at _ _ _ _ (by simp)
 ·exact Nat.le_succ _
 ·have:=m2.kept k3 (fun h=> h)
  simpa using this
section
variable (w:World) (B p a mb cap:Nat) (n:Int) (E:List PE) (EA:Option Addr) (D:KD) (s:Ar) (M:Int)
end
open Go.RowKit Cfp
open Go.Maps (string_keyed)
open Go.WideMaps Go.ChangeShapes Go.WideShapes
theorem Zpa (w:World) (C m:Nat) (d:List UInt8) (h:∀j (hj:j<d.length),w.cell? ⟨C,j,none⟩=some (.int .u8 (d[j].toNat:Int))):
  (convert 57 9 (.slice (some ⟨C,0,none⟩) d.length m)).run Tryz.prog w= .ok (.string ⟨d.toArray⟩) w:=by
 refine run_convert_bytes_back (P:=Tryz.prog) w 57 9 5 ⟨C,0,none⟩ m d Tryz.underlying57 Tryz.underlying5 Tryz.underlying9 ?_
 intro j hj
 rw [add_plain]
 show w.cell? ⟨C,0+j,none⟩=_
 rw [Nat.zero_add]
 exact h j hj
theorem Own.key {w:World} {base C m:Nat} {d:List UInt8} (o:Own w base 5 1 (some ⟨C,0,none⟩) d.length m (d.map by8)) (j:Nat) (hj:j<d.length):w.cell? ⟨C,j,none⟩=some (.int .u8 (d[j].toNat:Int)):=by
 rw [o.cell j (by omega),List.getElem?_map,List.getElem?_eq_getElem hj]
 rfl
section
variable (w:World) (B p a mb cap:Nat) (n:Int) (E:List PE) (EA:Option Addr) (D:KD) (s:Ar) (M M2:Int) (L:Nat→List Nat)
theorem Zi3 (h:IsPo w B p a n E EA cap mb D) (hA:IsAr w B a s) (hV:Inv s L M2) (v:PInv E s D M) (id:Nat) (x:PE) (hx:E[id]?=some x) (hu:0<x.users) (hE:E.length≤1000000) (hB:B≤w.heap.size):
  Calls Tryz.prog 222 #[.pointer (some ⟨p,0,none⟩),.int .i64 id] w fun e w'=> e= .returned (.tuple #[.string ⟨x.key.toArray⟩,.bool true])∧Keeps NO w w':=by
 obtain⟨⟨p0,p1,p2,p3⟩,hpw⟩:=h.cells
 have hid:id<E.length:=(List.getElem?_eq_some_iff.1 hx).1
 have hi0:id≠0:=fun e=> by subst e;obtain⟨y,h2,h3⟩:=v.zero;rw [hx] at h2;injection h2 with h2;subst h2;omega
 obtain⟨g,rfl,_⟩:=h.own.some_ (by omega)
 obtain⟨g0,g1,g2,g3⟩:=Zbq hx
 have q0:=h.own.cell (id*4) (by omega)
 have q1:=h.own.cell (id*4+1) (by omega)
 have q2:=h.own.cell (id*4+2) (by omega)
 have q3:=h.own.cell (id*4+3) (by omega)
 rw [g0] at q0
 rw [g1] at q1
 rw [g2] at q2
 rw [g3] at q3
 obtain⟨N,hN⟩:∃N,N=E.length:=⟨_,rfl⟩
 rw [←hN] at p2 hid hE
 have hiI:(id:Int)<(N:Int):=by omega
 have hi00:(0:Int)≤(id:Int):=by omega
 have t1:decide ((id:Int)<1)=false:=by simp;omega
 have t2:decide ((N:Int)≤(id:Int))=false:=by simp;omega
 have t3:(x.users==0)=false:=by simp;omega
 obtain⟨hlv,hk1,hk2⟩:=v.lv id x hx hu
 have HR:Hid (∀w1,Keeps NO w w1→Calls Tryz.prog 284 #[.pointer (some ⟨a,0,none⟩),.agg #[.int .i64 x.h.1,.int .i64 x.h.2.1,.int .i64 x.h.2.2]] w1 fun e w'=> (∃C m,e= .returned (.tuple #[.slice (some ⟨C,0,none⟩) x.key.length m,.int .i64 0])∧(convert 57 9 (.slice (some ⟨C,0,none⟩) x.key.length m)).run Tryz.prog w'= .ok (.string ⟨x.key.toArray⟩) w')∧Keeps NO w w'):=zz (fun w1 k1=> by
  refine(read_any B a s L M2 x.h.1 x.h.2.1 x.h.2.2 x.key w1 (hA.quiet k1) hV hlv (Nat.le_trans hB k1.size)).mono ?_
  rintro e w' ⟨⟨D8,m8,rfl,o8⟩,k8⟩
  obtain⟨C,rfl,_⟩:=o8.some_ (by omega)
  exact⟨⟨C,m8,rfl,Zpa w' C m8 x.key (fun j hj=> o8.key j hj)⟩,k1.trans k8⟩)
 clear h hA hV v hx hN hi0 g0 g1 g2 g3 hlv
 go_enter Tryz.func222,Tryz.ntmps222
 go_upto_region 3 with fail
 go_region_with ((go_at_call 284;refine(HR.out _ (by first | exact Kz0 _ _ | exact(Kz0 _ _).drew | exact(Kz0 _ _).drewN _)).mono ?_;rintro e w5 ⟨⟨C,m,rfl,hcv⟩,k5⟩))
 all_goals
  go_wp2_with fail
  go_ret2
  exact⟨rfl,by assumption⟩
theorem Zo4 (h:IsPo w B p a n E EA cap mb D) (hA:IsAr w B a s) (hV:Inv s L M2) (v:PInv E s D M) (id:Nat) (x:PE) (hx:E[id]?=some x) (hu:0<x.users) (hE:E.length≤1000000) (hB:B≤w.heap.size):
  Calls Tryz.prog 180 #[.pointer (some ⟨p,0,none⟩),.int .i64 id] w fun e w'=> e= .returned (.tuple #[.string ⟨x.key.toArray⟩,.int .i64 0])∧Keeps NO w w':=by
 have HT:=zz (Zi3 w B p a mb cap n E EA D s M M2 L h hA hV v id x hx hu hE hB)
 clear h hA hV v hx hu
 go_enter Tryz.func180,Tryz.ntmps180
 go_wp2_with fail
 refine HT.out.mono ?_
 rintro e w1 ⟨rfl,k1⟩
 have K1:=zz k1
 clear k1
 go_wp2_with fail
 go_ret2
 exact⟨rfl,K1.out⟩
end
open Go.RowKit Cfp
open Go.Maps (string_keyed)
open Go.WideMaps
section
variable {w w':World} {B p a mb cap:Nat} {n:Int} {E:List PE} {EA:Option Addr} {D D':KD}
theorem IsPo.mapped (h:IsPo w B p a n E EA cap mb D) (k:Keeps (· =mb) w w') (m:MapIs w' mb D'):IsPo w' B p a n E EA cap mb D':=by
 refine⟨h.le,h.blk.kept k (fun e=> by subst e;exact h.map.not h.blk),h.own.kept k (fun b hb e=> ?_),h.lem,m⟩
 subst e
 obtain⟨cs,h1⟩:=h.own.blk hb
 exact h.map.not h1
theorem Zia {b:Nat} (h:w.grownBy w' (some b)):Keeps (· =b) w w':=(Kz0 _ w).grown h (fun k e _=> by injection e with e;exact e.symm)
theorem IsAr.mapped {s:Ar} (h:IsAr w B a s) (hp:IsPo w B p a n E EA cap mb D) (k:Keeps (· =mb) w w'):IsAr w' B a s:=by
 obtain⟨es,c,hm⟩:=hp.map.block
 exact IsArH.map h hm k
end
def PRel (w:World) (B p a mb cap:Nat) (n:Int) (E:List PE) (EA:Option Addr) (D:KD) (s:Ar) (M M2:Int) (id:Nat) (x:PE) (e:Ending) (w':World):Prop:=
 e= .returned (.int .i64 0)∧∃(E':List PE) (D':KD) (s':Ar) (L':Nat→List Nat),IsPo w' B p a n E' EA cap mb D'∧IsAr w' B a s'∧Inv s' L' M2∧PInv E' s' D' M∧
  ((1<x.users∧E'=E.set id { x with users:=x.users-1}∧s'=s∧D'=D)∨(x.users=1∧E'=E.set id { x with users:=0}∧Gone s s' x.h.1 x.h.2.1∧D'=D.del (.string x.key)))∧Keeps (PoS B mb w) w w'
theorem Ze1 (w:World) (B p a mb cap:Nat) (n:Int) (E:List PE) (EA:Option Addr) (D:KD) (s:Ar) (M M2:Int) (L:Nat→List Nat)
  (h:IsPo w B p a n E EA cap mb D) (hA:IsAr w B a s) (hV:Inv s L M2) (v:PInv E s D M) (hM:M<4611686018427387904) (id:Nat) (x:PE) (hx:E[id]?=some x) (hu:0<x.users) (hE:E.length≤1000000) (hB:B≤w.heap.size):
  Calls Tryz.prog 181 #[.pointer (some ⟨p,0,none⟩),.int .i64 id] w (PRel w B p a mb cap n E EA D s M M2 id x):=by
 have HT:=zz (Zi3 w B p a mb cap n E EA D s M M2 L h hA hV v id x hx hu hE hB)
 have hid:id<E.length:=(List.getElem?_eq_some_iff.1 hx).1
 obtain⟨g,rfl,_⟩:=h.own.some_ (by omega)
 obtain⟨hlv,hk1,hk2⟩:=v.lv id x hx hu
 have hus:=(v.us id x hx).2
 have H:=zz h
 have HA:=zz hA
 have HV:=zz hV
 have HP:=zz v
 have HX:=zz hx
 have HL:=zz hlv
 obtain⟨N,hN⟩:∃N,N=E.length:=⟨_,rfl⟩
 rw [←hN] at hid
 have HN:=zz hN
 clear h hA hV v hx hN hlv hE
 go_enter Tryz.func181,Tryz.ntmps181
 go_wp2_with fail
 refine HT.out.mono ?_
 rintro e w1 ⟨rfl,k1⟩
 have K1:=zz k1
 have H1:=zz (H.out.quiet k1)
 have HA1:=zz (HA.out.quiet k1)
 have hB1:B≤w1.heap.size:=Nat.le_trans hB k1.size
 clear k1 HT H HA
 obtain⟨⟨p0,p1,p2,p3⟩,hpw⟩:=H1.out.cells
 rw [←HN.out] at p2
 obtain⟨g0,g1,g2,g3⟩:=Zbq HX.out
 have q3:=H1.out.own.cell (id*4+3) (by have:=HN.out;omega)
 have f3:=H1.out.own.frozen (id*4+3)
 rw [g3] at q3
 have hiI:(id:Int)<(N:Int):=by omega
 have hi00:(0:Int)≤(id:Int):=by omega
 have ws:IntKind.i64.wrap (x.users-1)=x.users-1:=IntWalk.i64_in _ (by omega)
 have kS:=Zaf w1 g (id*4+3) (.int .i64 (x.users-1))
 have H2:=zz (H1.out.users HX.out (x.users-1))
 have HA2:=zz (HA1.out.kept kS (fun b hb=> by subst hb;exact H1.out.other ⟨_,rfl,rfl⟩))
 have K2:=zz (PoS.quiet K1.out (kS.weak (S':=PoS B mb w1) (fun b _ hb=> by subst hb;exact H1.out.inE ⟨_,rfl,rfl⟩)))
 have hgw:g<w1.heap.size:=by
  have hi:inB (some ⟨g,0,none⟩:Option Addr) g:=⟨_,rfl,rfl⟩
  exact(H1.out.own.inB hi).2
 clear g3 kS HA1
 go_upto_region 6 with fail
 generalize w1.setCell _ _=w2 at*
 clear p0 p1 p2 p3 q3 f3
 have hxe:Hid ((E.set id { x with users:=x.users-1})[id]?=some { x with users:=x.users-1}):=zz (by have:=HN.out;simp [show id<E.length by omega])
 obtain⟨h0,h1,h2,h3⟩:=Zbq hxe.out
 have q0:=H2.out.own.cell (id*4) (by have:=HN.out;simp;omega)
 have q1:=H2.out.own.cell (id*4+1) (by have:=HN.out;simp;omega)
 have q2:=H2.out.own.cell (id*4+2) (by have:=HN.out;simp;omega)
 have q3:=H2.out.own.cell (id*4+3) (by have:=HN.out;simp;omega)
 rw [h0] at q0
 rw [h1] at q1
 rw [h2] at q2
 rw [h3] at q3
 dsimp only at q0 q1 q2 q3
 have hB2:B≤w2.heap.size:=Nat.le_trans hB K2.out.size
 clear h0 h1 h2 h3 g0 g1 g2 hB1 hgw hpw H1 K1
 by_cases h1:x.users=1
 ·have hd:decide ((0:Int)<x.users-1)=false:=by simp;omega
  have HH1:=zz h1
  obtain⟨⟨p0,p1,p2,p3⟩,hpw⟩:=H2.out.cells
  have hkey:keyOf Tryz.prog 9 (.string ⟨x.key.toArray⟩)=some (.string x.key):=by
   have:=Zll (s:=⟨x.key.toArray⟩) (by show x.key.toArray.size≤maxLen;simp only [maxLen,List.size_toArray];omega)
   simpa using this
  have e0:x.users-1=0:=by omega
  clear h1
  rw [e0] at hd q3 H2 hxe
  rw [e0]
  clear e0
  go_upto_region 9 with (at_delete;refine wpList_delete_own _ rfl _ _ 149 9 rfl 3 (string_keyed Tryz.underlying9) Tryz.underlying149 _ mb _ D rfl H2.out.map _ _ rfl hkey ?_;intro w3 hown3 hturn3;have k3:=Zia hturn3.grown;have H3:=zz (H2.out.mapped k3 (Zg3 hown3));have HA3:=zz (HA2.out.mapped H2.out k3);have K3:=zz (PoS.trans K2.out (k3.weak (S':=PoS B mb w2) (fun b _ hb=> by subst hb;exact H2.out.inM)));clear hown3 hturn3 k3)
  clear p0 p1 p2 p3 q0 q1 q2 q3 HA2 hpw hkey
  obtain⟨⟨p0,p1,p2,p3⟩,hpw⟩:=H3.out.cells
  obtain⟨h0,h1,h2,h3⟩:=Zbq hxe.out
  have q0:=H3.out.own.cell (id*4) (by have:=HN.out;simp;omega)
  have q1:=H3.out.own.cell (id*4+1) (by have:=HN.out;simp;omega)
  have q2:=H3.out.own.cell (id*4+2) (by have:=HN.out;simp;omega)
  rw [h0] at q0
  rw [h1] at q1
  rw [h2] at q2
  dsimp only at q0 q1 q2
  have HF:Hid (∀wa,Keeps NO w3 wa→Calls Tryz.prog 122 #[.pointer (some ⟨a,0,none⟩),.agg #[.int .i64 x.h.1,.int .i64 x.h.2.1,.int .i64 x.h.2.2]] wa fun e w'=> e= .returned (.int .i64 0)∧Hid (PRel w B p a mb cap n E (some ⟨g,0,none⟩) D s M M2 id x (.returned (.int .i64 0)) w')):=zz (fun wa ka=> by
   refine(Zdr B a s L M2 x.h.1 x.h.2.1 x.h.2.2 x.key wa (HA3.out.quiet ka) HV.out HL.out).mono ?_
   rintro e w' ⟨rfl,⟨s6,L6,h6,v6,g6⟩,k6⟩
   exact⟨rfl,rfl,_,_,s6,L6,(H3.out.quiet ka).ar k6,h6,v6,HP.out.out HX.out hu g6,.inr ⟨HH1.out,rfl,g6,rfl⟩,PoS.trans K3.out (PoS.quiet ka (PoS.ar (mb:=mb) k6))⟩)
  clear h0 h1 h2 h3 HA3 K3 H2 K2 hxe H3
  go_region_with ((go_at_call 122;refine(HF.out _ (by first | exact Kz0 _ _ | exact(Kz0 _ _).drew | exact(Kz0 _ _).drewN _)).mono ?_;rintro e w5 ⟨rfl,HR⟩))
  all_goals
   go_wp2_with fail
   go_ret
   exact HR.out
 ·have hd:decide ((1:Int)<x.users)=true:=by simp;omega
  have HH1:Hid (1<x.users):=zz (by omega)
  clear h1 q0 q1 q2
  go_wp2_with fail
  go_ret
  exact⟨rfl,_,_,s,L,H2.out,HA2.out,HV.out,HP.out.users HX.out hu (x.users-1) (by have:=HH1.out;omega) (by omega) (Int.le_refl _),.inl ⟨HH1.out,rfl,rfl,rfl⟩,K2.out⟩
open Go.RowKit Cfp
def usAt (E:List PE) (j:Nat):Int:=(E.getD j PE.zero).users
theorem Zbx {E:List PE} {j:Nat} {x:PE} (h:E[j]?=some x):usAt E j=x.users:=by simp [usAt,List.getD,h]
theorem Zdo {E:List PE} {id j:Nat} {x:PE} (h:E[id]?=some x) (y:PE):usAt (E.set id y) j=if j=id then y.users else usAt E j:=by
 have hi:=(List.getElem?_eq_some_iff.1 h).1
 by_cases e:j=id
 ·subst e
  simp [usAt,List.getD,hi]
 ·simp [usAt,List.getD,List.getElem?_set,show¬id=j from fun q=> e q.symm]
  simp [e]
theorem Znf (E:List PE) (j:Nat):usAt (E++ [PE.zero]) j=usAt E j:=by
 unfold usAt
 congr 1
 rw [List.getD,List.getD,List.getElem?_append]
 split
 ·rfl
 ·next h=>
  rw [List.getElem?_eq_none (by omega:E.length≤j)]
  rcases hq:j-E.length with _ | q <;> simp
def sumU:List PE→Int
 | []=> 0
 | e :: l=> e.users+sumU l
theorem Zcq:∀(l:List PE) (k:Nat) (x y:PE),l[k]?=some x→sumU (l.set k y)=sumU l-x.users+y.users
 | [],_,_,_,h=> by simp at h
 | z :: l,0,x,y,h=> by
   simp at h
   subst h
   simp only [List.set_cons_zero,sumU]
   omega
 | z :: l,k+1,x,y,h=> by
   simp only [List.set_cons_succ,sumU]
   rw [Zcq l k x y (by simpa using h)]
   omega
theorem Znl (E:List PE):sumU (E++ [PE.zero])=sumU E:=by
 induction E with
 | nil=> rfl
 | cons x l ih=> simp only [List.cons_append,sumU,ih]
theorem Zim:∀(l:List PE),(∀e∈l,0≤e.users)→(cntU l:Int)≤sumU l
 | [],_=> by simp [cntU,sumU]
 | e :: l,h=> by
   have h0:=h e (List.mem_cons_self ..)
   have h1:=Zim l (fun x hx=> h x (List.mem_cons_of_mem _ hx))
   simp only [cntU,sumU]
   split <;> (push_cast;omega)
def fitS (sh:List (Int × Int)) (size:Int):Nat:=sh.findIdx (fun c=> decide (size≤c.1))
theorem Ze5 (s:Ar) (size:Int):fitK s.cls size=fitS (Zak s) size:=by
 unfold fitK fitS Zak
 rw [List.findIdx_map]
 rfl
def cntF (sh:List (Int × Int)) (i:Nat):List PE→Nat
 | []=> 0
 | e :: l=> (if 0<e.users∧fitS sh e.key.length=i then 1 else 0)+cntF sh i l
theorem Zcy (sh:List (Int × Int)) (i:Nat):∀(l:List PE) (k:Nat) (x y:PE),l[k]?=some x→
  cntF sh i (l.set k y)+(if 0<x.users∧fitS sh x.key.length=i then 1 else 0)=cntF sh i l+(if 0<y.users∧fitS sh y.key.length=i then 1 else 0)
 | [],_,_,_,h=> by simp at h
 | z :: l,0,x,y,h=> by
   simp at h
   subst h
   simp only [List.set_cons_zero,cntF]
   omega
 | z :: l,k+1,x,y,h=> by
   have:=Zcy sh i l k x y (by simpa using h)
   simp only [List.set_cons_succ,cntF]
   omega
theorem Zpd (sh:List (Int × Int)) (i:Nat) (E:List PE):cntF sh i (E++ [PE.zero])=cntF sh i E:=by
 induction E with
 | nil=> simp [cntF,PE.zero]
 | cons x l ih=> simp only [List.cons_append,cntF,ih]
theorem Zml (sh:List (Int × Int)) (i:Nat):∀E:List PE,cntF sh i E≤cntU E
 | []=> Nat.le_refl _
 | e :: l=> by
   have:=Zml sh i l
   simp only [cntF,cntU]
   by_cases h:0<e.users
   ·rw [if_pos h];split <;> omega
   ·rw [if_neg (fun q=> h q.1),if_neg h];omega
theorem Zi7 {l l':List Int} {i:Nat} {d:Int} (h:l'=l.set i (l.getD i 0+d)) (hi:i<l.length) (j:Nat):l'.getD j 0=l.getD j 0+if j=i then d else 0:=by
 subst h
 by_cases e:j=i
 ·subst e
  simp [List.getD,hi]
 ·simp [List.getD,List.getElem?_set,show¬i=j from fun q=> e q.symm,e]
end Go.Proofs.YtjamiaamngalgaaGreat
