/-
  Parts: An arena and a pool over; A tier in use with one p; tier.take where there is. No conditions beyond those of the statement.
-/
import Derived.Test.YtjamiaamngalgaaGreatG44
import Derived.Test.YtjamiaamngalgaaGreatG42
import Derived.Test.YtjamiaamngalgaaGreatG15
set_option linter.unusedVariables false
set_option linter.unusedSimpArgs false
set_option maxRecDepth 1000000
set_option maxHeartbeats 4000000
namespace Go.Proofs.YtjamiaamngalgaaGreat
open Go.RowKit Cfp
structure MB where
 base:Nat
 blk:Nat
instance:Coe MB Nat:=⟨MB.blk⟩
structure Mm (w:World) (B a p:Nat) (mb:MB) (nk:Int) (sh:List (Int × Int)) (E:List PE) (s:Ar) (m:Int):Prop where
 ex:∃EA cap D L,IsPo w B p a nk E EA cap mb D∧Inv s L m∧PInv E s D m
 ar:IsAr w B a s
 hsh:Zak s=sh
 hB:B≤w.heap.size
 hm:0≤m
 bs:mb.base≤B
abbrev MmS (mb:MB) (w:World) (b:Nat):Prop:=PoS mb.base mb.blk w b
def Fo (w:World) (b:Nat):Prop:=∃cs t,Blk w b t cs∧t≠144∧t≠147∧t≠306∧t≠5∧t≠151∧t≠310
section
variable {w w' w0:World} {B a p:Nat} {mb:MB} {nk:Int} {sh:List (Int × Int)} {E:List PE} {s:Ar} {m m':Int} {S:Nat→Prop}
theorem PoS.base {B':Nat} {b:Nat} (h:PoS B mb w b) (hb:B'≤B):PoS B' mb w b:=by
 rcases h with ⟨h1,h2⟩ | ⟨h1,h2⟩
 ·exact .inl ⟨by omega,h2⟩
 ·exact .inr ⟨by omega,h2⟩
theorem Mm.kept (h:Mm w B a p mb nk sh E s m) (k:Keeps S w w') (hs:∀b,S b→Fo w b):Mm w' B a p mb nk sh E s m:=by
 obtain⟨EA,cap,D,L,h1,h2,h3⟩:=h.ex
 refine⟨⟨EA,cap,D,L,h1.kept k (fun b hb=> ?_),h2,h3⟩,h.ar.kept k (fun b hb=> ?_),h.hsh,Nat.le_trans h.hB k.size,h.hm,h.bs⟩
 ·obtain⟨cs,t,q,_,_,_,_,q5,q6⟩:=hs b hb
  exact .inr ⟨cs,t,q,q5,q6⟩
 ·obtain⟨cs,t,q,q1,q2,q3,q4,_,_⟩:=hs b hb
  exact .inr ⟨cs,t,q,q1,q2,q3,q4⟩
theorem Mm.quiet (h:Mm w B a p mb nk sh E s m) (k:Keeps NO w w'):Mm w' B a p mb nk sh E s m:=h.kept k (fun _ h=> h.elim)
theorem Mm.one {b:Nat} {t:TypeId} {cs:Array Value} (h:Mm w B a p mb nk sh E s m) (hb:Blk w b t cs) (k:Keeps (· =b) w w') (h1:t≠144) (h2:t≠147) (h3:t≠306) (h4:t≠5) (h5:t≠151) (h6:t≠310):Mm w' B a p mb nk sh E s m:=
 h.kept k (fun b' e=> by rw [e];exact⟨cs,t,hb,h1,h2,h3,h4,h5,h6⟩)
theorem Mm.map {M:Nat} {es:Array MapEntry} {c:Nat} (h:Mm w B a p mb nk sh E s m) (hm:w.heap[M]?=some (.map es c)) (hne:M≠mb) (k:Keeps (· =M) w w'):Mm w' B a p mb nk sh E s m:=by
 obtain⟨EA,cap,D,L,h1,h2,h3⟩:=h.ex
 have hno:∀ {b:Nat} {t:TypeId} {cs:Array Value},Blk w b t cs→¬b=M:=fun {b t cs} hb e=> by
  subst e
  have:=hb.symm.trans hm
  injection this with this
  cases this
 refine⟨⟨EA,cap,D,L,⟨h1.le,h1.blk.kept k (hno h1.blk),h1.own.kept k (fun b hb=> ?_),h1.lem,h1.map.kept k (fun e=> hne e.symm)⟩,h2,h3⟩,IsArH.map h.ar hm k,h.hsh,Nat.le_trans h.hB k.size,h.hm,h.bs⟩
 obtain⟨cs,h4⟩:=h1.own.blk hb
 exact hno h4
theorem Mm.more (h:Mm w B a p mb nk sh E s m) (hm:m≤m'):Mm w B a p mb nk sh E s m':=by
 obtain⟨EA,cap,D,L,h1,h2,h3⟩:=h.ex
 exact⟨⟨EA,cap,D,L,h1,h2.more hm,h3.more hm⟩,h.ar,h.hsh,h.hB,by have:=h.hm;omega,h.bs⟩
theorem Mm.lenL (h:Mm w B a p mb nk sh E s m):(Za6 s).length=sh.length:=by rw [←h.hsh];simp [Za6,Zak]
theorem MmS.trans (h:Keeps (MmS mb w0) w0 w) (k:Keeps (MmS mb w) w w'):Keeps (MmS mb w0) w0 w':=PoS.trans h k
theorem MmS.quiet (h:Keeps NO w0 w) (k:Keeps (MmS mb w) w w'):Keeps (MmS mb w0) w0 w':=PoS.quiet h k
theorem MmS.zero (h:Keeps NO w w'):Keeps (MmS mb w) w w':=h.weak (fun _ _ h=> h.elim)
theorem MmS.ofAr (h:Keeps (ArS B w) w w') (hb:mb.base≤B):Keeps (MmS mb w) w w':=h.weak (fun _ _ h=> .inl ⟨Nat.le_trans hb h.1,h.2⟩)
theorem MmS.ofPo (h:Keeps (PoS B mb w) w w') (hb:mb.base≤B):Keeps (MmS mb w) w w':=h.weak (fun _ _ h=> h.base hb)
theorem Zi6 {i k i' k':Nat} {g g':Int} {d d':List UInt8} (h:LV s i k g d) (h':LV s i' k' g' d') (hd:d≠d'):¬(i'=i∧k'=k):=by
 rintro⟨rfl,rfl⟩
 exact hd (h.one h').2
def Zvl (w:World) (B a p:Nat) (mb:MB) (nk:Int) (sh:List (Int × Int)) (E:List PE) (s:Ar) (m:Int) (i:Nat) (e:Ending) (w':World):Prop:=
 ∃(k:Nat) (g:Int) (s':Ar),e= .returned (.tuple #[.agg #[.int .i64 i,.int .i64 k,.int .i64 g],.int .i64 0])∧Mm w' B a p mb nk sh E s' (m+1)∧
  (∀j q g' d,LV s' j q g' d ↔ (j=i∧q=k∧g'=g∧d= [])∨LV s j q g' d)∧(∀g d,¬LV s i k g d)∧Za6 s'=(Za6 s).set i ((Za6 s).getD i 0+1)∧Keeps (MmS mb w) w w'
theorem Zo9 (h:Mm w B a p mb nk sh E s m) (size:Int) (h1:1≤size) (i:Nat) (sz ct:Int) (hc:sh[i]?=some (sz,ct)) (hfit:fitS sh size=i) (hsz:size≤sz) (hroom:(Za6 s).getD i 0<ct) (hm9:m<1000000000):
  Calls Tryz.prog 120 #[.pointer (some ⟨a,0,none⟩),.int .i64 size] w (Zvl w B a p mb nk sh E s m i):=by
 obtain⟨EA,cap,D,L,hp,hv,hpv⟩:=h.ex
 obtain⟨c,hcc,hce⟩:∃c,s.cls[i]?=some c∧(c.size,c.count)=(sz,ct):=by
  have:=hc
  rw [←h.hsh,Zak,List.getElem?_map] at this
  cases hx:s.cls[i]? with
  | none=> rw [hx] at this;cases this
  | some c=> rw [hx] at this;exact⟨c,rfl,by injection this⟩
 injection hce with e1 e2
 have hlv:(Za6 s).getD i 0=c.live:=by simp [Za6,List.getD,hcc]
 have hfk:fitK s.cls size=i:=by rw [Ze5,h.hsh,hfit]
 refine(Zd2 B a s L m size w h.ar hv ⟨h.hm,hm9⟩ h.hB).mono ?_
 intro e w' hw
 cases hw with
 | range he hA k hr=>
   rcases hr with hr | hr
   ·omega
   ·have:=hr i c hcc;omega
 | full he hA k hf=>
   obtain⟨i',c',hc',hf',hl'⟩:=hf
   rw [hfk] at hf'
   subst hf'
   rw [hcc] at hc'
   injection hc' with hc'
   subst hc'
   omega
 | ok i' j age s' L' he hA v g ha k hfit'=>
   rw [hfk] at hfit'
   subst hfit'
   exact⟨j,age,s',he,⟨⟨EA,cap,D,L',hp.ar k,v,(hpv.more (by omega)).arena (fun id e he hu=> (g.lvs _ _ _ _).2 (.inr (hpv.lv id e he hu).1))⟩,hA,by rw [g.shape,h.hsh],Nat.le_trans h.hB k.size,by have:=h.hm;omega,h.bs⟩,g.lvs,g.old,g.lives,MmS.ofAr k h.bs⟩
def Zw6 (w:World) (B a p:Nat) (mb:MB) (nk:Int) (sh:List (Int × Int)) (E:List PE) (s:Ar) (m:Int) (i k:Nat) (e:Ending) (w':World):Prop:=
 e= .returned (.int .i64 0)∧∃s',Mm w' B a p mb nk sh E s' m∧(∀j q g d,LV s' j q g d ↔ LV s j q g d∧¬(j=i∧q=k))∧Za6 s'=(Za6 s).set i ((Za6 s).getD i 0-1)∧Keeps (MmS mb w) w w'
theorem Zlb (h:Mm w B a p mb nk sh E s m) (i k:Nat) (g:Int) (hl:LV s i k g []):
  Calls Tryz.prog 122 #[.pointer (some ⟨a,0,none⟩),.agg #[.int .i64 i,.int .i64 k,.int .i64 g]] w (Zw6 w B a p mb nk sh E s m i k):=by
 obtain⟨EA,cap,D,L,hp,hv,hpv⟩:=h.ex
 refine(Zdr B a s L m i k g [] w h.ar hv hl).mono ?_
 rintro e w' ⟨rfl,⟨s',L',hA,v,gn⟩,kk⟩
 refine⟨rfl,s',⟨⟨EA,cap,D,L',hp.ar kk,v,hpv.arena (fun id e he hu=> (gn.lvs _ _ _ _).2 ⟨(hpv.lv id e he hu).1,?_⟩)⟩,hA,by rw [gn.shape,h.hsh],Nat.le_trans h.hB kk.size,h.hm,h.bs⟩,gn.lvs,gn.lives,MmS.ofAr kk h.bs⟩
 have h5:=hpv.lv id e he hu
 refine Zi6 hl h5.1 (fun e0=> ?_)
 rw [←e0] at h5
 have:=h5.2.1
 simp at this
def Ztg (w:World) (B a p:Nat) (mb:MB) (nk:Int) (sh:List (Int × Int)) (E:List PE) (s:Ar) (m:Int) (key:List UInt8) (i:Nat) (e:Ending) (w':World):Prop:=
 ∃(id:Nat) (E':List PE) (x:PE) (s':Ar),e= .returned (.tuple #[.int .i64 id,.int .i64 0])∧Mm w' B a p mb nk sh E' s' (m+1)∧E'[id]?=some x∧x.users=1∧x.key=key∧(∀(j:Nat) (y:PE),j≠id→E'[j]?=some y→0<y.users→E[j]?=some y)∧
  (∀j q g d,LV s j q g d→LV s' j q g d)∧Za6 s'=(Za6 s).set i ((Za6 s).getD i 0+1)∧Keeps (MmS mb w) w w'
theorem Zla (h:Mm w B a p mb nk sh E s m) (t:ByteArray) (h1:1≤t.size) (h2:t.size≤255) (hno:Zec E t.data.toList) (hn:(cntU E:Int)≠nk) (i:Nat) (sz ct:Int) (hc:sh[i]?=some (sz,ct)) (hfit:fitS sh t.size=i) (hsz:(t.size:Int)≤sz)
  (hroom:(Za6 s).getD i 0<ct) (hm9:m<900000):
  Calls Tryz.prog 121 #[.pointer (some ⟨p,0,none⟩),.string t] w (Ztg w B a p mb nk sh E s m t.data.toList i):=by
 have hlen:t.data.toList.length=t.size:=by rw [Array.length_toList];rfl
 obtain⟨EA,cap,D,L,hp,hv,hpv⟩:=h.ex
 obtain⟨c,hcc,hce⟩:∃c,s.cls[i]?=some c∧(c.size,c.count)=(sz,ct):=by
  have:=hc
  rw [←h.hsh,Zak,List.getElem?_map] at this
  cases hx:s.cls[i]? with
  | none=> rw [hx] at this;cases this
  | some c=> rw [hx] at this;exact⟨c,rfl,by injection this⟩
 injection hce with e1 e2
 have hlv:(Za6 s).getD i 0=c.live:=by simp [Za6,List.getD,hcc]
 have hfk:fitK s.cls t.size=i:=by rw [Ze5,h.hsh,hfit]
 have hm0:=h.hm
 refine(Zel w B p a mb cap nk E EA D s L m m t hp h.ar hv hpv (by omega) ⟨h.hm,by omega⟩ (by omega) h.hB).mono ?_
 intro e w' hw
 cases hw with
 | no c0 he hc0 hp' hA k=>
   exfalso
   rcases hc0 with ⟨e0,_⟩ | ⟨e0,_⟩ | ⟨_,_,_,e0,_⟩ | ⟨_,_,_,_,e0⟩
   ·rw [e0] at hlen;simp at hlen;omega
   ·omega
   ·exact hn e0
   ·rcases e0 with ⟨_,e0 | e0⟩ | ⟨_,i',c',hc',hf',hl'⟩
    ·omega
    ·have:=e0 i c hcc;omega
    ·rw [hlen,hfk] at hf'
     subst hf'
     rw [hcc] at hc'
     injection hc' with hc'
     subst hc'
     omega
 | old id x he hx hu hk hp' hA v k=> exact absurd hk (hno id x hx hu)
 | new id x E1 EA1 cap1 i' k age s1 s2 L2 he hk1 hk2 hno' hn' hE1 hx hu h1' hleast hp' hA hV g wr hage hfit' v kk=>
   rw [hlen,hfk] at hfit'
   subst hfit'
   have hid:id<E1.length:=(List.getElem?_eq_some_iff.1 hx).1
   refine⟨id,_,⟨(i,k,age),t.data.toList,1⟩,s2,he,⟨⟨EA1,cap1,_,L2,hp',hV,v⟩,hA,by rw [wr.shape,g.shape,h.hsh],Nat.le_trans h.hB kk.size,by omega,h.bs⟩,by simp [hid],rfl,rfl,?_,?_,?_,MmS.ofPo kk h.bs⟩
   ·intro j y hj hy hy0
    rw [List.getElem?_set_ne (fun e=> hj e.symm)] at hy
    rcases hE1 with rfl | rfl
    ·exact hy
    ·rcases Nat.lt_or_ge j E.length with hlt | hge
     ·rwa [List.getElem?_append_left hlt] at hy
     ·rw [List.getElem?_append_right hge] at hy
      have:j-E.length=0:=by
       have:=(List.getElem?_eq_some_iff.1 hy).1
       simpa using this
      rw [this] at hy
      simp at hy
      rw [←hy] at hy0
      exact absurd hy0 (by decide)
   ·intro j q g' d hjl
    refine(wr.lvs j q g' d).2 (.inr ⟨(g.lvs _ _ _ _).2 (.inr hjl),?_⟩)
    rintro⟨rfl,rfl⟩
    exact g.old _ _ hjl
   ·rw [wr.lives,g.lives]
def MRel (w:World) (B a p:Nat) (mb:MB) (nk:Int) (sh:List (Int × Int)) (E:List PE) (s:Ar) (m:Int) (id:Nat) (x:PE) (e:Ending) (w':World):Prop:=
 e= .returned (.int .i64 0)∧∃E' s',Mm w' B a p mb nk sh E' s' m∧(∀j q g,LV s j q g []→LV s' j q g [])∧Keeps (MmS mb w) w w'
theorem Zji (h:Mm w B a p mb nk sh E s m) (id:Nat) (x:PE) (hx:E[id]?=some x) (hu:0<x.users) (hm9:m<900000):
  Calls Tryz.prog 181 #[.pointer (some ⟨p,0,none⟩),.int .i64 id] w (MRel w B a p mb nk sh E s m id x):=by
 obtain⟨EA,cap,D,L,hp,hv,hpv⟩:=h.ex
 refine(Ze1 w B p a mb cap nk E EA D s m m L hp h.ar hv hpv (by omega) id x hx hu (by have:=hpv.len;omega) h.hB).mono ?_
 rintro e w' ⟨rfl,E',D',s',L',h1,h2,h3,h4,h5,k⟩
 have h6:Zak s'=Zak s∧∀j q g,LV s j q g []→LV s' j q g []:=by
  rcases h5 with ⟨_,_,rfl,_⟩ | ⟨_,_,gn,_⟩
  ·exact⟨rfl,fun _ _ _ h=> h⟩
  ·refine⟨gn.shape,fun j q g hl=> (gn.lvs _ _ _ _).2 ⟨hl,?_⟩⟩
   have h7:=hpv.lv id x hx hu
   refine Zi6 h7.1 hl (fun e0=> ?_)
   rw [e0] at h7
   have:=h7.2.1
   simp at this
 exact⟨rfl,E',s',⟨⟨EA,cap,D',L',h1,h3,h4⟩,h2,by rw [h6.1,h.hsh],Nat.le_trans h.hB k.size,h.hm,h.bs⟩,h6.2,MmS.ofPo k h.bs⟩
end
open Go.RowKit Go.Maps Cfp
structure TP where
 tr:Nat
 a:Nat
 p:Nat
 c:Cfg
 C:Option Addr
 T:Option Addr
 n:Nat
 k:Nat
 j:Nat
 t:Nat
 sv:SvP
 B1:Nat
 ge:Nat
 gs:Nat
 bs:Nat→Nat
 bt:Nat
 ct:Nat
 lo:Nat
 hi:Nat
 ts:List Int
 M:Nat
 A:Option Addr
 cc:Nat
structure Tu (W:World) (P:TP) (u:Option (ByteArray × Int)) (R:Cmp.Rows) (t1 t2:Int) (HL:List (ByteArray × Value)) (hs:List Value):Prop where
 blk:Blk W P.tr 258 (trC P.c P.C P.T P.n P.k P.j P.a P.p (.pointer (some ⟨P.t,0,none⟩)) (.pointer (some ⟨P.ge,0,none⟩)) (.pointer (some ⟨P.gs,0,none⟩)) (.slice P.A 1 P.cc) (.map (some P.M)))
 tb:Tb1 W P.B1 P.t P.sv u t1
 ex:Blk W P.ge 365 #[.int .i64 0,.slice none 0 0]
 sk:Sk W P.lo P.hi P.gs 1 1 R P.ts P.c.seed t2 P.bs P.bt P.ct
 sb:P.gs≠P.bt
 mp:Mp Tryz.prog 9 enS W P.M HL
 rw:Own W P.hi 236 3 P.A 1 P.cc hs
 o1:P.M<P.tr∧P.tr<P.B1
 o2:P.t<P.ge
 o3:P.ge<P.lo
def TrF (mb:MB) (M:Nat) (w:World) (b:Nat):Prop:=MmS mb w b∨M≤b
section
variable {w w' w0:World} {P:TP} {u:Option (ByteArray × Int)} {R:Cmp.Rows} {t1 t2:Int} {HL:List (ByteArray × Value)} {hs:List Value} {mb:MB} {M:Nat} {S:Nat→Prop}
theorem TrF.trans (h:Keeps (TrF mb M w0) w0 w) (k:Keeps (TrF mb M w) w w'):Keeps (TrF mb M w0) w0 w':=by
 refine h.step k (fun b hb hS=> ?_)
 by_cases hn:TrF mb M w0 b
 ·exact hn
 ·rcases hS with h1 | h1
  ·exact .inl (PoS.same (h.block b hb hn) h1)
  ·exact .inr h1
theorem TrF.mm (h:Keeps (MmS mb w) w w'):Keeps (TrF mb M w) w w':=h.weak (fun _ _ h=> .inl h)
theorem TrF.own (h:Keeps S w w') (hs:∀b,S b→M≤b):Keeps (TrF mb M w) w w':=h.weak (fun b _ h=> .inr (hs b h))
theorem TrF.quiet (h:Keeps NO w w'):Keeps (TrF mb M w) w w':=h.weak (fun _ _ h=> h.elim)
theorem TrF.to (h:Keeps (MmS mb w0) w0 w) (k:Keeps (TrF mb M w) w w') (hM:w0.heap.size≤M):Keeps (MmS mb w0) w0 w':=by
 refine h.step k (fun b hb hS=> ?_)
 by_cases hn:MmS mb w0 b
 ·exact hn
 ·rcases hS with h1 | h1
  ·exact PoS.same (h.block b hb hn) h1
  ·omega
theorem Blk.mm {t:TypeId} {b:Nat} {cs:Array Value} (h:Blk w b t cs) (k:Keeps (MmS mb w) w w') (h1:t≠144) (h2:t≠147) (h3:t≠306) (h4:t≠151) (h5:t≠310):Blk w' b t cs:=h.kept k (PoS.not h h1 h2 h3 h4 h5)
theorem Own.mm {base n c sz:Nat} {e:TypeId} {A:Option Addr} {xs:List Value} (h:Own w base e sz A n c xs) (k:Keeps (MmS mb w) w w') (h1:e≠144) (h2:e≠147) (h3:e≠306) (h4:e≠151) (h5:e≠310):Own w' base e sz A n c xs:=by
 refine h.kept k (fun b hb=> ?_)
 obtain⟨cs,hc⟩:=h.blk hb
 exact PoS.not hc h1 h2 h3 h4 h5
theorem Zen {M:Nat} {es:Array MapEntry} {c:Nat} (h:w.heap[M]?=some (.map es c)) (hne:M≠mb):¬MmS mb w M:=by
 have hno:∀ {t:TypeId} {cs:Array Value},¬Blk w M t cs:=fun {t cs} hb=> by
  have:=hb.symm.trans h
  injection this with this
  cases this
 rintro(⟨_,cs,t,h1,_⟩ | ⟨_,⟨cs,t,h1,_⟩ | ⟨h1,_⟩⟩)
 ·exact hno h1
 ·exact hno h1
 ·exact hne h1
theorem Mp.mm {κ:Type} {Pr:Program} {k:TypeId} {en:κ→Value} {L:List (κ × Value)} (h:Mp Pr k en w M L) (kk:Keeps (MmS mb w) w w') (hne:M≠mb):Mp Pr k en w' M L:=by
 have h':=h
 obtain⟨es,c,h1,_⟩:=h'
 exact h.kept kk (Zen h1 hne)
theorem Sk.mm {lo hi g d n:Nat} {R:Cmp.Rows} {zs:List Int} {seed total:Int} {bs:Nat→Nat} {bt ct:Nat} (h:Sk w lo hi g d n R zs seed total bs bt ct) (k:Keeps (MmS mb w) w w'):Sk w' lo hi g d n R zs seed total bs bt ct:=by
 obtain⟨⟨cs,hb,hc⟩,h2,h3,h4,h5,h6,h7,h8,h9,h10,h11,h12,h13,h14,h15,xs,h16⟩:=h
 refine⟨⟨cs,hb.mm k (by decide) (by decide) (by decide) (by decide) (by decide),hc⟩,fun i hi=> (h2 i hi).mm k (by decide) (by decide) (by decide) (by decide) (by decide),?_,h4,h5,h6,h7,h8,h9,h10,h11,h12,h13,h14,h15,xs,h16.mm k (by decide) (by decide) (by decide) (by decide) (by decide)⟩
 refine⟨h3.1,fun hn=> ?_⟩
 obtain⟨b,off,e,hb2,hcell⟩:=h3.2 hn
 injection e with e
 injection e with e1 e2
 subst e1 e2
 exact⟨bt,0,rfl,by have:=k.size;omega,fun j u hu=> k.cell_some (hcell j u hu) (PoS.not h16 (by decide) (by decide) (by decide) (by decide) (by decide))⟩
theorem Ix1.mm {B g gt gc tc:Nat} {u:Option (ByteArray × Int)} (h:Ix1 w B g gt gc tc u) (k:Keeps (MmS mb w) w w'):Ix1 w' B g gt gc tc u:=
 ⟨h.blk.mm k (by decide) (by decide) (by decide) (by decide) (by decide),h.tb.mm k (by decide) (by decide) (by decide) (by decide) (by decide),h.cs.mm k (by decide) (by decide) (by decide) (by decide) (by decide),h.le⟩
theorem Rk1.mm {B g gb gp:Nat} (h:Rk1 w B g gb gp) (k:Keeps (MmS mb w) w w'):Rk1 w' B g gb gp:=by
 obtain⟨cs,hb⟩:=h.lb
 exact⟨h.blk.mm k (by decide) (by decide) (by decide) (by decide) (by decide),h.ls.kept k (fun b e=> by rw [e];exact PoS.not hb (by decide) (by decide) (by decide) (by decide) (by decide)),h.pl.mm k (by decide) (by decide) (by decide) (by decide) (by decide),h.le⟩
theorem Sv1.mm {B B':Nat} {p:SvP} {u:Option (ByteArray × Int)} {t:Int} (h:Sv1 w B B' p u t) (k:Keeps (MmS mb w) w w'):Sv1 w' B B' p u t:=
 ⟨h.blk.mm k (by decide) (by decide) (by decide) (by decide) (by decide),fun e=> (h.rk e).mm k,h.ix.mm k,h.en.mm k (by decide) (by decide) (by decide) (by decide) (by decide),h.le,h.lt⟩
theorem Tb1.mm {B t:Nat} {p:SvP} {u:Option (ByteArray × Int)} {tot:Int} (h:Tb1 w B t p u tot) (k:Keeps (MmS mb w) w w'):Tb1 w' B t p u tot:=
 ⟨h.blk.mm k (by decide) (by decide) (by decide) (by decide) (by decide),h.sv.mm k⟩
theorem Tu.mm (h:Tu w P u R t1 t2 HL hs) (k:Keeps (MmS mb w) w w') (hne:P.M≠mb):Tu w' P u R t1 t2 HL hs:=
 ⟨h.blk.mm k (by decide) (by decide) (by decide) (by decide) (by decide),h.tb.mm k,h.ex.mm k (by decide) (by decide) (by decide) (by decide) (by decide),h.sk.mm k,h.sb,h.mp.mm k hne,h.rw.mm k (by decide) (by decide) (by decide) (by decide) (by decide),h.o1,h.o2,h.o3⟩
theorem Tu.ord (h:Tu w P u R t1 t2 HL hs):P.B1≤P.t∧P.lo<P.hi:=by
 have h1:=h.tb.sv.le.1
 have h2:=h.tb.sv.lt.1
 have h3:=h.sk.lo_g
 omega
theorem Tu.kept (h:Tu w P u R t1 t2 HL hs) (k:Keeps S w w') (hS:∀b,S b→b<P.M):Tu w' P u R t1 t2 HL hs:=by
 have ⟨q1,q2⟩:=h.o1
 have q3:=h.o2
 have q4:=h.o3
 have ⟨q5,q6⟩:=h.ord
 exact⟨h.blk.kept k (fun e=> by have:=hS _ e;omega),h.tb.kept k (fun b _ _ e=> by have:=hS _ e;omega),h.ex.kept k (fun e=> by have:=hS _ e;omega),h.sk.kept k (fun b _ _ e=> by have:=hS _ e;omega),h.sb,h.mp.kept k (fun e=> by have:=hS _ e;omega),h.rw.kept k (fun b hb e=> by have:=hS _ e;have:=(h.rw.inB hb).1;omega),h.o1,h.o2,h.o3⟩
theorem Tu.quiet (h:Tu w P u R t1 t2 HL hs) (k:Keeps NO w w'):Tu w' P u R t1 t2 HL hs:=h.kept k (fun _ h=> h.elim)
theorem Tu.sketched {R':Cmp.Rows} {t2':Int} (h:Tu w P u R t1 t2 HL hs) (k:Keeps S w w') (hS:∀b,S b→P.lo≤b∧b<P.hi) (h':Sk w' P.lo P.hi P.gs 1 1 R' P.ts P.c.seed t2' P.bs P.bt P.ct):Tu w' P u R' t1 t2' HL hs:=by
 have ⟨q1,q2⟩:=h.o1
 have q3:=h.o2
 have q4:=h.o3
 have ⟨q5,q6⟩:=h.ord
 exact⟨h.blk.kept k (fun e=> by have:=hS _ e;omega),h.tb.kept k (fun b _ _ e=> by have:=hS _ e;omega),h.ex.kept k (fun e=> by have:=hS _ e;omega),h',h.sb,h.mp.kept k (fun e=> by have:=hS _ e;omega),h.rw.kept k (fun b hb e=> by have:=hS _ e;have:=(h.rw.inB hb).1;omega),h.o1,h.o2,h.o3⟩
theorem Tu.tabled {u':Option (ByteArray × Int)} {t1':Int} (h:Tu w P u R t1 t2 HL hs) (k:Keeps S w w') (hS:∀b,S b→P.B1≤b∧b<P.t) (h':Tb1 w' P.B1 P.t P.sv u' t1'):Tu w' P u' R t1' t2 HL hs:=by
 have ⟨q1,q2⟩:=h.o1
 have q3:=h.o2
 have q4:=h.o3
 have ⟨q5,q6⟩:=h.ord
 exact⟨h.blk.kept k (fun e=> by have:=hS _ e;omega),h',h.ex.kept k (fun e=> by have:=hS _ e;omega),h.sk.kept k (fun b _ _ e=> by have:=hS _ e;omega),h.sb,h.mp.kept k (fun e=> by have:=hS _ e;omega),h.rw.kept k (fun b hb e=> by have:=hS _ e;have:=(h.rw.inB hb).1;omega),h.o1,h.o2,h.o3⟩
theorem Tu.mapped {HL':List (ByteArray × Value)} (h:Tu w P u R t1 t2 HL hs) (k:Keeps (· =P.M) w w') (h':Mp Tryz.prog 9 enS w' P.M HL'):Tu w' P u R t1 t2 HL' hs:=by
 have ⟨q1,q2⟩:=h.o1
 have q3:=h.o2
 have q4:=h.o3
 have ⟨q5,q6⟩:=h.ord
 exact⟨h.blk.kept k (fun e=> by omega),h.tb.kept k (fun b _ _ e=> by omega),h.ex.kept k (fun e=> by omega),h.sk.kept k (fun b _ _ e=> by omega),h.sb,h',h.rw.kept k (fun b hb e=> by have:=(h.rw.inB hb).1;omega),h.o1,h.o2,h.o3⟩
end
open Go.RowKit Go.Maps Cfp
abbrev hdV (i k:Nat) (g:Int) (id:Nat):Value:= .agg #[.int .i64 (i:Int),.int .i64 (k:Int),.int .i64 g,.int .i64 (id:Int)]
def Zte (w:World) (B:Nat) (mb:MB) (nk:Int) (sh:List (Int × Int)) (P:TP) (u:Option (ByteArray × Int)) (R:Cmp.Rows) (t1 t2:Int) (HL:List (ByteArray × Value)) (hs:List Value) (s:Ar) (m:Int) (key:ByteArray) (i2:Nat) (e:Ending) (w':World):Prop:=
 e= .returned (.int .i64 0)∧∃(k:Nat) (g:Int) (id:Nat) (E':List PE) (x:PE) (s':Ar),Tu w' P u R t1 t2 (HL++ [(key,hdV i2 k g id)]) hs∧Mm w' B P.a P.p mb nk sh E' s' (m+1+1)∧E'[id]?=some x∧x.users=1∧
  LV s' i2 k g []∧(∀j q g,LV s j q g []→LV s' j q g []∧¬(j=i2∧q=k))∧Keeps (TrF mb P.M w) w w'
theorem Zni (w:World) (B:Nat) (mb:MB) (nk:Int) (sh:List (Int × Int)) (P:TP) (u:Option (ByteArray × Int)) (R:Cmp.Rows) (t1 t2:Int) (HL:List (ByteArray × Value)) (hs:List Value) (E:List PE) (s:Ar) (m:Int) (key:ByteArray)
  (h:Tu w P u R t1 t2 HL hs) (hm:Mm w B P.a P.p mb nk sh E s m) (hne:P.M≠mb) (h1:1≤key.size) (h2:key.size≤255) (hno:Zec E key.data.toList) (hn:(cntU E:Int)≠nk) (hm9:m<800000)
  (i2:Nat) (z2 c2:Int) (q1:sh[i2]?=some (z2,c2)) (q2:fitS sh 32=i2) (q3:32≤z2) (q4:(Za6 s).getD i2 0<c2)
  (i0:Nat) (z0 c0:Int) (p1:sh[i0]?=some (z0,c0)) (p2:fitS sh key.size=i0) (p3:(key.size:Int)≤z0) (p4:(Za6 s).getD i0 0<c0) (hi:i0≠i2) (hk:∀x∈HL,enS x.1≠enS key):
  Calls Tryz.prog 232 #[.pointer (some ⟨P.tr,0,none⟩),.string key] w (Zte w B mb nk sh P u R t1 t2 HL hs s m key i2):=by
 have c0:w.cell? ⟨P.tr,0,none⟩=some (.pointer (some ⟨P.a,0,none⟩)):=h.blk.cell 0
 have HA:=zz (Zo9 hm 32 (by omega) i2 z2 _ q1 q2 q3 q4 (by omega))
 have H:=zz h
 have HM:=zz hm
 have HNo:=zz hno
 have HN:=zz hn
 have HQ:=zz (And.intro p1 (And.intro p2 (And.intro p3 p4)))
 have HK:=zz hk
 have HLn:=zz hm.lenL
 clear h hm hno hn q1 q2 q3 q4 p1 p2 p3 p4 hk
 go_enter Tryz.func232,Tryz.ntmps232
 go_wp2_with fail
 refine HA.out.mono ?_
 rintro e w1 ⟨k,g,s1,rfl,hm1,lv1,old1,ls1,k1⟩
 have HM1:=zz hm1
 have HT1:=zz (H.out.mm k1 hne)
 have HL1:=zz (And.intro lv1 old1)
 have HF1:=zz (TrF.mm (M:=P.M) k1)
 have HI:=zz (fun W (kW:Keeps NO w1 W)=> Zla (hm1.quiet kW) key h1 h2 HNo.out HN.out i0 _ _ HQ.out.1 HQ.out.2.1 HQ.out.2.2.1 (by
  rw [ls1,List.getD,List.getElem?_set_ne (fun e=> hi e.symm)];exact HQ.out.2.2.2) (by omega))
 clear HA H HM hm1 lv1 old1 ls1 k1 c0
 go_upto_region 2 with fail
 have kX:=(Kz0 NO w1).alloc (.cells #[.int .i64 (i2:Int),.int .i64 (k:Int),.int .i64 g] 236)
 have HX:=zz (Blk.new w1 236 #[.int .i64 (i2:Int),.int .i64 (k:Int),.int .i64 g])
 have HT2:=zz (HT1.out.quiet kX)
 have KX:=zz kX
 have c1:(w1.alloc (.cells #[.int .i64 (i2:Int),.int .i64 (k:Int),.int .i64 g] 236)).cell? ⟨P.tr,1,none⟩=some (.pointer (some ⟨P.p,0,none⟩)):=HT2.out.blk.cell 1
 clear kX
 generalize w1.alloc _=w2 at*
 generalize w1.heap.size=X at*
 go_wp2_with fail
 refine(HI.out w2 KX.out).mono ?_
 rintro e w3 ⟨id,E',x,s',rfl,hm3,ex,xu,xk,old,lv3,ls3,k3⟩
 have HT3:=zz (HT2.out.mm k3 hne)
 have HX3:=zz (HX.out.mm k3 (by decide) (by decide) (by decide) (by decide) (by decide))
 have HM3:=zz hm3
 have HL3:=zz (And.intro ex (And.intro xu lv3))
 have HF3:=zz (TrF.trans HF1.out (TrF.trans (TrF.quiet KX.out) (TrF.mm k3)))
 clear HI HT2 HX KX hm3 ex xu xk old lv3 ls3 k3 c1 HM1 HF1 HT1
 go_upto_region 8 with fail
 have c23:w3.cell? ⟨P.tr,23,none⟩=some (.map (some P.M)):=HT3.out.blk.cell 23
 have x0:=HX3.out.cell 0
 have x1:=HX3.out.cell 1
 have x2:=HX3.out.cell 2
 have HKd:=zz ((Kz0 NO w3).drew)
 have HTd:=zz (HT3.out.quiet HKd.out)
 obtain⟨w9,hup,mp9,k9⟩:=HTd.out.mp.put_no (string_keyed Tryz.underlying9) Tryz.underlying256 (keyS Tryz.underlying9 key (by omega)) HK.out (hdV i2 k g id)
 clear c23 x0 x1 x2
 have c23:w3.cell? ⟨P.tr,23,none⟩=some (.map (some P.M)):=HT3.out.blk.cell 23
 have x0:=HX3.out.cell 0
 have x1:=HX3.out.cell 1
 have x2:=HX3.out.cell 2
 have HT9:=zz (HTd.out.mapped k9 mp9)
 obtain⟨es0,cl0,hh,_⟩:=HTd.out.mp
 have HM9:=zz ((HM3.out.quiet HKd.out).map (M:=P.M) hh hne k9)
 clear hh
 have HF9:=zz (TrF.trans HF3.out (TrF.trans (TrF.quiet HKd.out) (TrF.own (mb:=mb) (M:=P.M) k9 (fun b e=> Nat.le_of_eq e.symm))))
 clear mp9 k9
 go_region
 go_wp2_with fail
 go_ret
 refine⟨rfl,k,g,id,E',x,s',HT9.out,HM9.out,HL3.out.1,HL3.out.2.1,HL3.out.2.2 _ _ _ _ ((HL1.out.1 _ _ _ _).2 (.inl ⟨rfl,rfl,rfl,rfl⟩)),fun j q g' hl=> ⟨HL3.out.2.2 _ _ _ _ ((HL1.out.1 _ _ _ _).2 (.inr hl)),?_⟩,HF9.out⟩
 rintro⟨rfl,rfl⟩
 exact HL1.out.2 _ _ hl
end Go.Proofs.YtjamiaamngalgaaGreat
