/-
  Parts: An argument that is a sl; countmin.Of and the refe; countmin: Rows. No conditions beyond those of the statement.
-/
import Derived.Test.YtjamiaamngalgaaGreatG01
import Derived.Deep.Matrix
import Derived.Test.YtjamiaamngalgaaGreatG15
set_option linter.unusedVariables false
set_option linter.unusedSimpArgs false
set_option maxRecDepth 1000000
set_option maxHeartbeats 4000000
namespace Go.Proofs.YtjamiaamngalgaaGreat
open Go.RowKit Go.ChangeShapes Go.WideShapes
abbrev Zaq:=Nat→Option Addr × Nat × Nat × List Int
def RowsRd (w:World) (B:Nat) (k:IntKind) (n:Nat) (R:Zaq):Prop:=
 ∀j,j<n→Rd w B (R j).1 1 (R j).2.1 ((R j).2.2.2.map (.int k))∧(∀z∈(R j).2.2.2,(Lit.int k z).wf=true)∧(R j).2.1≤(R j).2.2.1∧(R j).2.2.1≤maxLen
open Go.RowKit
namespace Cmp
def rowsL (R:Zaq) (m:Nat):Rows:=(List.range m).map fun j=> (R j).2.2.2
def ofV (rows:Rows) (t:List Int) (seed:Int) (k:List UInt8):Int:=if rows.length=0∨t.length≠16 then 0 else least rows t seed k rows.length
theorem rowsL_at (R:Zaq) (m j:Nat) (h:j<m):(rowsL R m).getD j []=(R j).2.2.2:=by simp [rowsL,List.getD,h]
theorem rowsL_len (R:Zaq) (m:Nat):(rowsL R m).length=m:=by simp [rowsL]
end Cmp
theorem Zks {w:World} {B m:Nat} {R:Zaq} (hrr:RowsRd w B .u64 m R) (zs:List Int) (seed:Int) (k:List UInt8) (i:Nat) (hi:i<m):
  ((R i).2.1=0∧Cmp.val (Cmp.rowsL R m) zs seed k i=0)∨
  (0<(R i).2.1∧∃b off p x,(R i).1=some ⟨b,off,none⟩∧Cmp.pos zs seed k (R i).2.1 i=p∧p<(R i).2.1∧w.cell? ⟨b,off+p,none⟩=some (.int .u64 x)∧0≤x∧x<18446744073709551616∧Cmp.val (Cmp.rowsL R m) zs seed k i=x):=by
 obtain⟨h1,h2,h3,h4⟩:=hrr i hi
 have hl:(R i).2.2.2.length=(R i).2.1:=by simpa using h1.1
 unfold Cmp.val
 rw [Cmp.rowsL_at R m i hi,hl]
 rcases Nat.eq_zero_or_pos (R i).2.1 with h0 | h0
 ·exact .inl ⟨h0,by rw [if_pos h0]⟩
 ·right
  obtain⟨b,off,e,hb,hc⟩:=h1.2 h0
  have hp:=Cmp.pos_lt zs seed k (R i).2.1 i h0
  refine⟨h0,b,off,_,(R i).2.2.2.getD (Cmp.pos zs seed k (R i).2.1 i) 0,e,rfl,hp,hc _ _ ?_,?_,?_,?_⟩
  ·simp [List.getD,show Cmp.pos zs seed k (R i).2.1 i<(R i).2.2.2.length by omega]
  ·have:=Zdg (h2 ((R i).2.2.2.getD (Cmp.pos zs seed k (R i).2.1 i) 0) (by rw [List.getD,List.getElem?_eq_getElem (by omega)];simp))
   exact this.1
  ·have:=Zdg (h2 ((R i).2.2.2.getD (Cmp.pos zs seed k (R i).2.1 i) 0) (by rw [List.getD,List.getElem?_eq_getElem (by omega)];simp))
   exact this.2
  ·rw [if_neg (by omega)]
   unfold Cmp.cell
   rw [Cmp.rowsL_at R m i hi]
theorem Zjp {w:World} {B nt ct:Nat} {A:Option Addr} {zs:List Int} (ht:Rd w B A 1 nt (zs.map (.int .u64))) (hzb:∀z∈zs,0≤z∧z<18446744073709551616) (seed:Int) (s0:0≤seed) (s1:seed<18446744073709551616)
  (s:ByteArray) (hs:s.size≤140737488351232) (i n:Nat) (hi:i≤140737488351232) (hn:n≤9223372036854775807) (h0:0<n):
  ∃h:Int,0≤h∧h<18446744073709551616∧
   (∀q,Calls Tryz.prog 288 #[.slice A nt ct,.int .u64 seed,.int .i64 i,.string s] (w.drewN q) fun e w'=> e= .returned (.int .u64 h)∧∃nq,w'=(w.drewN q).drewN nq)∧
   (∀W,Calls Tryz.prog 171 #[.int .u64 h,.int .i64 n] W fun e w'=> e= .returned (.int .i64 (Cmp.pos zs seed s.data.toList n i))∧W=w')∧True∧True:=by
 have hkb:0≤Hash.key zs (Hash.rowSeed seed i) s.data.toList∧Hash.key zs (Hash.rowSeed seed i) s.data.toList<18446744073709551616:=by
  unfold Hash.key;split
  ·exact Hash.fin_bd _
  ·omega
 have hsl:Hash.slot (Hash.key zs (Hash.rowSeed seed i) s.data.toList) (n:Int)=(Cmp.pos zs seed s.data.toList n i:Nat):=by
  unfold Cmp.pos
  have:0≤Hash.slot (Hash.key zs (Hash.rowSeed seed i) s.data.toList) (n:Int):=by
   unfold Hash.slot;split
   ·omega
   ·exact Int.emod_nonneg _ (by omega)
  omega
 refine⟨_,hkb.1,hkb.2,fun q=> Hash.row_any zs hzb A nt ct B (w.drewN q) (ht.drewN q) seed s0 s1 (i:Int) (by omega) (by omega) s hs,fun W=> ?_,trivial,trivial⟩
 ·have:=Hash.slot_any (Hash.key zs (Hash.rowSeed seed i) s.data.toList) (n:Int) hkb.1 hkb.2 (by omega) (by omega) W
  rwa [hsl] at this
theorem Zua {w:World} {B m c0 nt ct:Nat} {A0 A:Option Addr} {R:Zaq} {zs:List Int} (hr:Rd w B A0 1 m ((List.range m).map fun j=> .slice (R j).1 (R j).2.1 (R j).2.2.1)) (hrr:RowsRd w B .u64 m R) (hm:m≤1000000)
  (ht:Rd w B A 1 nt (zs.map (.int .u64))) (hzb:∀z∈zs,0≤z∧z<18446744073709551616) (seed:Int) (s0:0≤seed) (s1:seed<18446744073709551616) (s:ByteArray) (hs:s.size≤140737488351232):
  Calls Tryz.prog 303 #[.slice A0 m c0,.slice A nt ct,.int .u64 seed,.string s] w fun e w'=> e= .returned (.int .u64 (Cmp.ofV (Cmp.rowsL R m) zs seed s.data.toList))∧∃nq,w'=w.drewN nq:=by
 have hzl:zs.length=nt:=by simpa using ht.1
 by_cases hm0:m=0
 ·subst hm0
  have hE:Hid (Cmp.ofV (Cmp.rowsL R 0) zs seed s.data.toList=0):=by show _=_;unfold Cmp.ofV;rw [if_pos (.inl rfl)]
  rw [hE.out]
  clear hr hrr ht hzb hzl hE
  go_enter Tryz.func303,Tryz.ntmps303
  go_wp2_with fail
  go_ret
  exact⟨rfl,0,rfl⟩
 have e1:((m:Int)==0)=false:=by simp;omega
 by_cases hn:nt=16
 ·subst hn
  have hE:Hid (Cmp.ofV (Cmp.rowsL R m) zs seed s.data.toList=Cmp.least (Cmp.rowsL R m) zs seed s.data.toList m):=by
   show _=_;unfold Cmp.ofV;rw [if_neg (by rw [Cmp.rowsL_len];omega),Cmp.rowsL_len]
  rw [hE.out]
  have HC:=zz (fun w=> Hash.check_16 A ct w)
  have HR:=zz hr
  have HRR:=zz hrr
  have HT:=zz ht
  have HZ:=zz hzb
  have hm1:0<m:=by omega
  clear hr hrr ht hzb hzl hE hm0
  go_enter Tryz.func303,Tryz.ntmps303
  go_wp2_with fail
  refine(HC.out _).mono ?_
  rintro e w1 ⟨rfl,rfl⟩
  go_wp2_with fail
  go_loopw [9,23] (fun x i wr=> ∃k:Nat,k≤m∧i= .int .i64 k∧x= .int .u64 (Cmp.least (Cmp.rowsL R m) zs seed s.data.toList k)∧∃nq,wr=w.drewN nq) (fun _ i _=> m-(intOf i).toNat)
  case atStart=> exact⟨0,by omega,rfl,rfl,0,rfl⟩
  case round=>
   obtain⟨k,hk,rfl,rfl,nq,rfl⟩:=hrel
   by_cases hlt:k<m
   ·obtain⟨b,off,rfl,_,hcc⟩:=HR.out.2 (by omega)
    have hx:=hcc k (.slice (R k).1 (R k).2.1 (R k).2.2.1) (by simp [hlt])
    have hf:=Zks HRR.out zs seed s.data.toList k hlt
    have hLM:=(HRR.out k hlt).2.2
    have hls:Cmp.least (Cmp.rowsL R m) zs seed s.data.toList (k+1)=min (Cmp.least (Cmp.rowsL R m) zs seed s.data.toList k) (Cmp.val (Cmp.rowsL R m) zs seed s.data.toList k):=rfl
    have HLS:=zz hls
    generalize Cmp.least (Cmp.rowsL R m) zs seed s.data.toList k=x at*
    generalize Cmp.val (Cmp.rowsL R m) zs seed s.data.toList k=v at*
    obtain⟨Ak,Lk,Ck,hRk⟩:∃a b c,(R k).1=a∧(R k).2.1=b∧(R k).2.2.1=c:=⟨_,_,_,rfl,rfl,rfl⟩
    rw [hRk.1,hRk.2.1,hRk.2.2] at hx
    rw [hRk.1,hRk.2.1] at hf
    rw [hRk.2.1,hRk.2.2] at hLM
    clear hls hcc hRk
    unfold maxLen at hLM
    rcases hf with ⟨rfl,rfl⟩ | ⟨h0,b1,off1,p,y,rfl,hp,hpl,hc1,y0,y1,rfl⟩
    ·go_wp2_with fail
     all_goals
      go_roundw
      case rel=> exact⟨k+1,by omega,by go_num,by rw [HLS.out];congr 1;first | omega | (split <;> omega),_,rfl⟩
      case measure=> simp [intOf];omega
    ·obtain⟨h,g0,g1,g2,g3,_,_⟩:=Zjp (ct:=ct) HT.out HZ.out seed s0 s1 s hs k Lk (by omega) (by omega) h0
     rw [hp] at g3
     have G2:=zz g2
     have G3:=zz g3
     have hpI:(p:Int)<(Lk:Int):=by omega
     clear hp g2 g3
     go_wp2_with fail
     refine(G2.out _).mono ?_
     rintro e w1 ⟨rfl,nq2,rfl⟩
     go_wp2_with fail
     refine(G3.out _).mono ?_
     rintro e w1 ⟨rfl,rfl⟩
     go_wp2_with fail
     all_goals
      go_roundw
      case rel=> exact⟨k+1,by omega,by go_num,by rw [HLS.out];congr 1;first | omega | (split <;> omega),_,rfl⟩
      case measure=> simp [intOf];omega
   ·obtain rfl:k=m:=by omega
    go_wp2_with fail
    go_ret
    exact⟨rfl,nq,rfl⟩
 ·have hE:Hid (Cmp.ofV (Cmp.rowsL R m) zs seed s.data.toList=0):=by show _=_;unfold Cmp.ofV;rw [if_pos (.inr (by omega))]
  rw [hE.out]
  have HC:=zz (fun w=> Hash.check_not A nt ct hn w)
  clear hr hrr ht hzb hzl hE hn hm0
  go_enter Tryz.func303,Tryz.ntmps303
  go_wp2_with fail
  refine(HC.out _).mono ?_
  rintro e w1 ⟨rfl,rfl⟩
  go_wp2_with fail
  go_ret
  exact⟨rfl,0,rfl⟩
open Go.RowKit
theorem Zt0:ElemOf Tryz.prog 76 25 1 24:=ElemOf.mk' (z:= .slice none 0 0) Tryz.underlying76 (by kernel_rfl) rfl (by omega)
theorem Zm7 {R:Cmp.Rows} {d n:Nat} {total:Int} (h:Cmp.Fine R d n total) (ht:total≤9223372036854775808) (i:Nat) (hi:i<d):∀z∈R.getD i [],(Lit.int .u64 z).wf=true:=by
 intro z hz
 obtain⟨j,hj,rfl⟩:=List.getElem_of_mem hz
 have:=h.2.2 i j
 unfold Cmp.cell at this
 rw [List.getD,List.getElem?_eq_getElem hj] at this
 simp only [Option.getD_some] at this
 have h1:IntKind.u64.min=0:=rfl
 have h2:IntKind.u64.max=18446744073709551615:=rfl
 simp only [Lit.wf,Bool.and_eq_true,decide_eq_true_eq]
 omega
def Zpr (w:World) (d n:Nat) (R:Cmp.Rows) (e:Ending) (w':World):Prop:=
 ∃(C:Option Addr) (co:Nat) (F:Zaq),e= .returned (.slice C d co)∧Rd w' w'.heap.size C 1 d ((List.range d).map fun j=> .slice (F j).1 (F j).2.1 (F j).2.2.1)∧RowsRd w' w'.heap.size .u64 d F∧
  (∀i,i<d→(F i).2.1=n∧(F i).2.2.2=R.getD i [])∧Keeps NO w w'
def CRel (w:World) (n:Nat) (R:Cmp.Rows) (k:Nat) (out:Value) (wr:World):Prop:=
 ∃(C:Option Addr) (co:Nat) (F:Zaq),out= .slice C k co∧Own wr w.heap.size 25 1 C k co ((List.range k).map fun j=> .slice (F j).1 (F j).2.1 (F j).2.2.1)∧
  (∀i,i<k→(F i).2.1=n∧(F i).2.2.2=R.getD i []∧(F i).2.1≤(F i).2.2.1∧(F i).2.2.1≤maxLen∧Own wr w.heap.size 23 1 (F i).1 n (F i).2.2.1 ((R.getD i []).map (.int .u64)))∧Keeps NO w wr
theorem Own.capm {w:World} {base n c sz:Nat} {e:TypeId} {A:Option Addr} {xs:List Value} (h:Own w base e sz A n c xs):n≤c∧c≤maxLen:=by
 rcases h.form with ⟨_,h1,h2⟩ | ⟨g,_,_,_,h1,h2⟩
 ·subst h1 h2;exact⟨Nat.le_refl _,Nat.zero_le _⟩
 ·exact⟨h1,h2⟩
theorem CRel.done {w wr:World} {n d:Nat} {R:Cmp.Rows} {total:Int} {out:Value} (hf:Cmp.Fine R d n total) (ht:total≤9223372036854775808) (h:CRel w n R d out wr):Zpr w d n R (.returned out) wr:=by
 obtain⟨C,co,F,rfl,o,hrow,kp⟩:=h
 refine⟨C,co,F,rfl,o.rd (by omega),fun j hj=> ?_,fun i hi=> ⟨(hrow i hi).1,(hrow i hi).2.1⟩,kp⟩
 obtain⟨h1,h2,h3,h4,h5⟩:=hrow j hj
 rw [h2]
 refine⟨?_,Zm7 hf ht j hj,h3,h4⟩
 rw [h1]
 exact h5.rd (by omega)
theorem Znt {w:World} {lo hi g d n:Nat} {R:Cmp.Rows} {zs:List Int} {seed total:Int} {bs:Nat→Nat} {bt ct:Nat} (h:Sk w lo hi g d n R zs seed total bs bt ct):
  Calls Tryz.prog 132 #[.pointer (some ⟨g,0,none⟩)] w fun e w'=> ∃out,e= .returned out∧CRel w n R d out w':=by
 have hd:=h.dd
 have hn:=h.nn
 have ht:=h.tt
 have hfine:=h.fine
 have HF:=zz hfine
 obtain⟨c7,c0,f7⟩:=h.tot
 have HSK:=zz h
 clear h hfine
 have hd0:(0:Int)≤(d:Int):=by omega
 have hd4:(d:Int)≤4:=by omega
 go_enter Tryz.func132,Tryz.ntmps132
 go_wp2_with fail
 go_quiet (fail)
 go_wp2_with fail
 go_loopw [3,17] (fun out i wr=> ∃k:Nat,k≤d∧i= .int .i64 k∧CRel w n R k out wr) (fun _ i _=> d-(intOf i).toNat)
 case atStart=> exact⟨0,by omega,rfl,none,0,fun _=> (none,0,0,[]),rfl,Own.nil _ _ _ _,fun i hi=> by omega,(Kz0 _ _).drewN _⟩
 case round=>
  obtain⟨k,hk,rfl,hr⟩:=hrel
  by_cases hlt:k<d
  ·obtain⟨C,co,F,rfl,o,hrow,kp⟩:=hr
   have sk:=HSK.out.kept kp (fun _ _ _ h=> h)
   obtain⟨cs,hb,hc0,hcr,_⟩:=sk.blk
   have f1:=hb.cell (1+k)
   rw [hcr k hlt] at f1
   have hrl:=sk.fine.2.1 k hlt
   have hcl:=Zgo (c:=n) ((sk.rows k hlt).rd (show((R.getD k []).map (Value.int .u64)).length=n*1 by simp only [List.length_map];omega)) (by omega)
   have HCL:=zz hcl
   have HO:=zz o
   have HROW:=zz hrow
   have HKP:=zz kp
   have hws:=kp.size
   clear sk hb hc0 hcr hrl hcl o hrow kp c7 c0 f7
   go_wp2_with fail
   refine HCL.out.mono ?_
   rintro e w1 ⟨A1,c1,rfl,o1,k1⟩
   have O1:=zz (o1.base_le hws)
   have HO1:=zz (HO.out.kept k1 (fun _ _ h=> h))
   have K1:=zz k1
   have hcap:=o1.capm
   have hob:∀b,inB A1 b→wr.heap.size≤b:=fun b hb=> (o1.inB hb).1
   have HOB:=zz hob
   have hw1:=k1.size
   clear o1 k1 hob
   go_wp2_with (at_builtin;refine Za5 _ Zt0 rfl (.tmp 21) (.tmp 24) rfl w.heap.size _ rfl (HO1.out.kept ((Kz0 NO w1).alloc _) (fun _ _ h=> h)) _ (m:=1) [.slice A1 n c1] rfl (by exact Blk.rd (xs:= [.slice A1 n c1]) (Blk.new_at _ _ _ _ (by simp)) rfl) (by simp [Value.oneCell']) (by simp only [maxLen];omega) (by omega) (by simp;omega) ?_;intro C5 c5 w5 o5 k5 hC5;have O5:=zz o5;have K5:=zz k5;clear o5 k5 hC5)
   have KA:=(Kz0 NO w1).alloc (.cells #[.slice A1 n c1] 25)
   have hCB:∀b,inB C b→w.heap.size≤b:=fun b hb=> (HO.out.inB hb).1
   have hO1:=HO1.out
   go_roundw
   case rel=>
    refine⟨k+1,by omega,by go_num,C5,c5,fun j=> if j=k then(A1,n,c1,R.getD k []) else F j,rfl,?_,?_,((HKP.out.trans K1.out).trans KA).step K5.out (fun b hb h=> by have:=hCB b h;omega)⟩
    ·have e:((List.range (k+1)).map fun j=> Value.slice (if j=k then(A1,n,c1,R.getD k []) else F j).1 (if j=k then(A1,n,c1,R.getD k []) else F j).2.1 (if j=k then(A1,n,c1,R.getD k []) else F j).2.2.1)=
       ((List.range k).map fun j=> .slice (F j).1 (F j).2.1 (F j).2.2.1)++ [.slice A1 n c1]:=by
      rw [List.range_succ,List.map_append]
      congr 1
      ·exact List.map_congr_left fun j hj=> by rw [if_neg (by have:=List.mem_range.1 hj;omega)]
      ·simp
     rw [e]
     exact O5.out
    ·intro i hi
     by_cases hik:i=k
     ·subst hik
      simp only [if_true]
      refine⟨trivial,trivial,hcap.1,hcap.2,?_⟩
      have h1:=O1.out.kept KA (fun _ _ h=> h)
      exact h1.kept K5.out (fun b hb h=> h1.ne (hO1.kept KA (fun _ _ h=> h)) (by decide) hb h)
     ·simp only [if_neg hik]
      obtain⟨g1,g2,g3,g4,g5⟩:=HROW.out i (by omega)
      have h1:=(g5.kept K1.out (fun _ _ h=> h)).kept KA (fun _ _ h=> h)
      exact⟨g1,g2,g3,g4,h1.kept K5.out (fun b hb h=> h1.ne (hO1.kept KA (fun _ _ h=> h)) (by decide) hb h)⟩
   case measure=> simp [intOf];omega
  ·obtain rfl:k=d:=by omega
   go_wp2_with fail
   have hr2:=hr
   obtain⟨C,co,F,rfl,_⟩:=hr2
   go_ret
   exact⟨_,rfl,hr⟩
end Go.Proofs.YtjamiaamngalgaaGreat
