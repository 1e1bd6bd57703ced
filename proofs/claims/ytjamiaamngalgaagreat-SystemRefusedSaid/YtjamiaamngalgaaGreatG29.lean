/-
  Parts: slices.Insert of one ent; slices.Insert of one ent; copy from a slice that h; slices.Insert of one ent; slices. No conditions beyond those of the statement.
-/
import Derived.Test.YtjamiaamngalgaaGreatG27
import Derived.Test.YtjamiaamngalgaaGreatG28
import Derived.Lib.AppendZerosOnto
import Derived.Lib.Overlaps
import Derived.Deep.RegionHeld3
import Derived.Test.YtjamiaamngalgaaGreatG00
set_option linter.unusedVariables false
set_option linter.unusedSimpArgs false
set_option maxRecDepth 1000000
set_option maxHeartbeats 4000000
namespace Go.Proofs.YtjamiaamngalgaaGreat
open Go.RowKit Go.ChangeShapes Go.WideShapes
theorem Zkb {P:Program} {t e:TypeId} {sz bytes:Nat} (E:ElemOf P t e sz bytes) (g n c:Nat) (k:IntKind) (y:Int) (h0:0≤y) (h2:y≤c):
  ∀w,(Instr.sliceAt t (.slice (some ⟨g,0,none⟩) n c) none (some (.int k y)) none).run P w= .ok (.slice (some ⟨g,0,none⟩) y.toNat c) w:=by
 obtain⟨ht,⟨i,z,hi,hz,hsize,hby,hzs⟩,hpos⟩:=E
 have hel:P.elem t=e:=by simp [Program.elem,ht]
 intro w
 rw [run_sliceAt_slice _ _ _ _ _ _ (by rw [hel];exact ht),run_slice_h _ _ _ _ _ (by rw [hel];exact ht) _ _ h0 (by omega)]
 by_cases hc:c=0
 ·simp [sizeOf,typeInfo,hel,hi,hsize,sliced,hc]
 ·simp [sizeOf,typeInfo,hel,hi,hsize,sliced,hc,Addr.add]
open Go.RowKit Go.ChangeShapes Go.WideShapes
section
variable {P:Program}
theorem Zns {t e:TypeId} {sz bytes:Nat} (E:ElemOf P t e sz bytes) (ty:TypeId) (w:World) (base g n c:Nat) (xs:List Value) (hown:Own w base e sz (some ⟨g,0,none⟩) n c xs)
  (B:Nat) (A2:Option Addr) (m c2:Nat) (news:List Value) (hr:Rd w B A2 sz m news) (h1:∀u∈news,u.oneCell'=true) (hroom:n+m≤c):
  ∃w',(Builtin.append_ #[t,t] ty #[.slice (some ⟨g,0,none⟩) n c,.slice A2 m c2]).run P w= .ok (.slice (some ⟨g,0,none⟩) (n+m) c) w'∧Own w' base e sz (some ⟨g,0,none⟩) (n+m) c (xs++news)∧Keeps (· =g) w w':=by
 obtain⟨ht,⟨i,z,hi,hz,hsize,hby,hzs⟩,hpos⟩:=E
 have hxl:=hown.len
 have hnl:=hr.1
 have hle:(n+m)*sz≤c*sz:=Nat.mul_le_mul_right _ hroom
 rw [Nat.add_mul] at hle
 have hfc:(Builtin.firstCells sz m (.slice A2 m c2)).run P w= .ok news.toArray w:=by
  rcases Nat.eq_zero_or_pos m with h0 | h0
  ·subst h0
   obtain rfl:news= []:=List.eq_nil_of_length_eq_zero (by simpa using hnl)
   cases A2 with
   | none=> exact run_firstCells_none _ _ _ _ _
   | some ad=> exact run_firstCells_some (P:=P) w sz 0 ad 0 c2 [] (by simp) (by simp)
  ·obtain⟨b,off,rfl,hb,hc⟩:=hr.2 h0
   exact run_firstCells_some (P:=P) w sz m ⟨b,off,none⟩ m c2 news hnl (fun j u hu=> by rw [add_plain];exact hc j u hu)
 rcases hown.2 with ⟨hv,_⟩ | ⟨g',cap,cur,hv,hbg,hg,hnc,hcm,hcs,htake⟩
 ·cases hv
 ·injection hv with h3 h4 h5
  injection h3 with h3
  injection h3 with h3
  subst h3 h5
  have hst:=run_storeCells_at P g (n*sz) e news 0 cur w hg (by rw [hcs,hnl];omega) h1
  simp only [Nat.add_zero] at hst
  have hst':(storeCells ((⟨g,0,none⟩:Addr).add (n*sz)) news).run P w= .ok () (w.setRow g (cur.toList.take (n*sz)++news++cur.toList.drop (n*sz+news.length)).toArray):=by
   rw [Addr.add_lit,Nat.zero_add];exact hst
  refine⟨w.setRow g (cur.toList.take (n*sz)++news++cur.toList.drop (n*sz+news.length)).toArray,?_,⟨?_,.inr ⟨g,c,_,rfl,hbg,setRow_heap w g cur _ e _ hg,hroom,hcm,?_,?_⟩⟩,⟨rfl,rfl,rfl,by simp [World.setRow],fun k _ hk=> setRow_other w g k _ (fun e=> hk e)⟩⟩
  ·simp [Builtin.append_,run_underlying ht,Builtin.lenOf,sizeOf,typeInfo,hi,hsize,hroom,hfc,hst']
  ·rw [List.length_append,hxl,hnl,Nat.add_mul]
  ·simp only [List.size_toArray,List.length_append,List.length_take,List.length_drop,Array.length_toList,hcs,hnl]
   omega
  ·rw [htake,List.toList_toArray]
   exact List.take_left' (by rw [List.length_append,hxl,hnl,Nat.add_mul])
theorem Zke {ops:Array Oper} {o:Oper} {a:Act} {w:World} {K:Act→World→Prop} {Q:Exit→Act→World→Prop} {F:Prop} {t e:TypeId} {sz bytes:Nat} (E:ElemOf P t e sz bytes) (hgd:o.guard=none) (d s:Operand)
  (ho:o.op= .call { callee:= .builtin .append,args:= #[d,s],argTypes:= #[t,t]}) (base g n c:Nat) (xs:List Value) (hd:a.eval d= .slice (some ⟨g,0,none⟩) n c) (hown:Own w base e sz (some ⟨g,0,none⟩) n c xs)
  (B:Nat) {A2:Option Addr} {m c2:Nat} (news:List Value) (hs:a.eval s= .slice A2 m c2) (hr:Rd w B A2 sz m news) (h1:∀u∈news,u.oneCell'=true) (q:Nat) (hq:n+m=q) (hroom:q≤c)
  (h:∀w',Own w' base e sz (some ⟨g,0,none⟩) q c (xs++news)→Keeps (· =g) w w'→K (a.put o.dst (.slice (some ⟨g,0,none⟩) q c)) w'):
  if Region.wanted o (yielded ops a.tmps)=true then Oper.wp P o a w K Q else F:=by
 subst hq
 have hw:Region.wanted o (yielded ops a.tmps)=true:=by simp [Region.wanted,hgd]
 rw [if_pos hw]
 obtain⟨w',hrun,h2,h3⟩:=Zns (P:=P) E o.type w base g n c xs hown B A2 m c2 news hr h1 hroom
 unfold Oper.wp execOp
 simp only [ho,resolve,invoke,builtin,Sem.run_bind,Sem.run_pure,Result.andThen_ok,List.map_toArray,List.map_cons,List.map_nil,hd,hs,hrun]
 exact h w' h2 h3
theorem Own.cut {w:World} {B g n c sz:Nat} {e:TypeId} {xs:List Value} (h:Own w B e sz (some ⟨g,0,none⟩) n c xs) (i:Nat) (hi:i≤n):Own w B e sz (some ⟨g,0,none⟩) i c (xs.take (i*sz)):=by
 have hxl:=Own.len h
 have hle:i*sz≤n*sz:=Nat.mul_le_mul_right _ hi
 rcases h.2 with ⟨hv,_⟩ | ⟨g',cap,cur,hv,hbg,hg,hnc,hcm,hcs,htake⟩
 ·cases hv
 ·injection hv with h1 h2 h3
  injection h1 with h1
  injection h1 with h1
  subst h1 h3
  exact⟨by rw [List.length_take,hxl];omega,.inr ⟨g,c,cur,rfl,hbg,hg,by omega,hcm,hcs,by rw [←htake,List.take_take,Nat.min_eq_left hle]⟩⟩
theorem Zj8 {t e:TypeId} {i:TypeInfo} {z:Value} (ty:TypeId) (ht:P.underlying t=some (.slice e)) (hi:P.info? e=some i) (hz:i.zero=some z) (h1:∀u∈z.cells,u.oneCell'=true)
  (w:World) (base g n c:Nat) (xs:List Value) (hown:Own w base e z.cells.size (some ⟨g,0,none⟩) n c xs) (o m c2:Nat) (hm:0<m) (ho:n≤o) (hoc:o+m≤c):
  ∃w',(Builtin.clear_ #[t] ty #[.slice (some ⟨g,o*z.cells.size,none⟩) m c2]).run P w= .ok (.tuple #[]) w'∧Own w' base e z.cells.size (some ⟨g,0,none⟩) n c xs∧Keeps (· =g) w w':=by
 obtain⟨zs,hzs⟩:∃zs,zs=(Builtin.zeroCells z.cells m).toList:=⟨_,rfl⟩
 have hzl:zs.length=m*z.cells.size:=by rw [hzs,Array.length_toList,size_zeroCells]
 have hz1:∀u∈zs,u.oneCell'=true:=by
  intro u hu
  rw [hzs] at hu
  unfold Builtin.zeroCells at hu
  rw [Array.toList_map,List.mem_map] at hu
  obtain⟨q,hq,rfl⟩:=hu
  have hq2:q<m*z.cells.size:=by simpa using hq
  have hp:0<z.cells.size:=by
   rcases Nat.eq_zero_or_pos z.cells.size with h | h
   ·rw [h,Nat.mul_zero] at hq2;exact absurd hq2 (Nat.not_lt_zero _)
   ·exact h
  have hlt:=Nat.mod_lt q hp
  rw [getElem!_pos z.cells _ hlt]
  exact h1 _ (Array.getElem_mem _)
 have hle:(o+m)*z.cells.size≤c*z.cells.size:=Nat.mul_le_mul_right _ hoc
 have hle2:n*z.cells.size≤o*z.cells.size:=Nat.mul_le_mul_right _ ho
 rw [Nat.add_mul] at hle
 have hxl:=hown.len
 rcases hown.2 with ⟨hv,_⟩ | ⟨g',cap,cur,hv,hbg,hg,hnc,hcm,hcs,htake⟩
 ·cases hv
 ·injection hv with h3 h4 h5
  injection h3 with h3
  injection h3 with h3
  subst h3 h5
  have hst:=run_storeCells_at P g (o*z.cells.size) e zs 0 cur w hg (by rw [hcs,hzl];omega) hz1
  simp only [Nat.add_zero] at hst
  refine⟨w.setRow g (cur.toList.take (o*z.cells.size)++zs++cur.toList.drop (o*z.cells.size+zs.length)).toArray,?_,⟨hxl,.inr ⟨g,c,_,rfl,hbg,setRow_heap w g cur _ e _ hg,hnc,hcm,?_,?_⟩⟩,⟨rfl,rfl,rfl,by simp [World.setRow],fun k _ hk=> setRow_other w g k _ (fun e=> hk e)⟩⟩
  ·obtain⟨m',rfl⟩:∃m',m=m'+1:=⟨m-1,by omega⟩
   rw [hzs] at hst ⊢
   simp [Builtin.clear_,run_underlying ht,zeroValue,typeInfo,hi,hz,hst]
  ·simp only [List.size_toArray,List.length_append,List.length_take,List.length_drop,Array.length_toList,hcs,hzl]
   omega
  ·rw [List.toList_toArray,List.append_assoc,List.take_append_of_le_length (by rw [List.length_take,Array.length_toList,hcs];omega),List.take_take,Nat.min_eq_left hle2]
   exact htake
end
theorem Zr2 {P:Program} {t e:TypeId} {sz bytes:Nat} (E:ElemOf P t e sz bytes) (g n c:Nat) (k k':IntKind) (x y:Int) (h0:0≤x) (h1:x≤y) (h2:y≤c) (hxc:x<c):
  ∀w,(Instr.sliceAt t (.slice (some ⟨g,0,none⟩) n c) (some (.int k x)) (some (.int k' y)) none).run P w= .ok (.slice (some ⟨g,x.toNat*sz,none⟩) (y.toNat-x.toNat) (c-x.toNat)) w:=by
 obtain⟨ht,⟨i,z,hi,hz,hsize,hby,hzs⟩,hpos⟩:=E
 have hel:P.elem t=e:=by simp [Program.elem,ht]
 intro w
 have hne:¬c=x.toNat:=by omega
 rw [run_sliceAt_slice _ _ _ _ _ _ (by rw [hel];exact ht),run_slice_lh _ _ _ _ _ (by rw [hel];exact ht) _ _ _ _ h0 h1 (by omega)]
 simp [sizeOf,typeInfo,hel,hi,hsize,sliced,hne,Addr.add]
 intro h;omega
open Go.RowKit Go.ChangeShapes Go.WideShapes
theorem Zjs:ElemOf Tryz.prog 22 3 1 8:=ElemOf.mk' (z:= .int .i64 0) Tryz.underlying22 (by kernel_rfl) rfl (by omega)
abbrev izs (l:List Int):List Value:=l.map (.int .i64)
theorem Zs0 (l:List Int):∀u∈izs l,u.oneCell'=true:=by
 intro u hu
 obtain⟨z,_,rfl⟩:=List.mem_map.1 hu
 rfl
theorem Zt6 (w:World) (B g n c i:Nat) (l:List Int) (ho:Own w B 3 1 (some ⟨g,0,none⟩) n c (izs l)) (hn:n≤100000) (hi:i<n):
  Calls Tryz.prog 250 #[.slice (some ⟨g,0,none⟩) n c,.int .i64 i,.int .i64 ((i:Int)+1)] w fun e w'=> e= .returned (.slice (some ⟨g,0,none⟩) (n-1) c)∧Own w' B 3 1 (some ⟨g,0,none⟩) (n-1) c (izs (l.take i++l.drop (i+1)))∧Keeps (· =g) w w':=by
 have hnc:=Own.le ho
 have HO:=zz ho
 have hl:Hid (l.length=n):=zz (by have:=ho.len;simpa using this)
 obtain⟨m,hm⟩:∃m,n=i+1+m:=⟨n-(i+1),by omega⟩
 obtain⟨q,hq⟩:∃q,i+m=q:=⟨_,rfl⟩
 have hs2:=Zkb Zjs g n c .i64 (i:Int) (by omega) (by omega)
 have hs5:=Zr2 Zjs g q c .i64 .i64 (q:Int) (n:Int) (by omega) (by omega) (by omega) (by omega)
 rw [show((i:Nat):Int).toNat=i from by omega] at hs2
 rw [show((q:Nat):Int).toNat=q from by omega,show((n:Nat):Int).toNat-q=1 from by omega] at hs5
 obtain⟨D5,hs1,hr1,hi1⟩:=Zcr Zjs (some ⟨g,0,none⟩) n c .i64 ((i:Int)+1) (by omega) (by omega) hnc
 rw [show((i:Int)+1).toNat=i+1 from by omega,show n-(i+1)=m from by omega] at hs1 hr1
 have e2:((i:Int)==(i:Int)+1)=false:=by simp;omega
 have wi1:IntKind.i64.wrap ((i:Int)+1)=(i:Int)+1:=IntWalk.i64_in _ (by omega)
 simp only [Nat.mul_one] at hs5 hs2
 have RC:=zz (hr1 _ _ _ (ho.rd (by omega)))
 have hdr:(izs l).drop ((i+1)*1)=izs (l.drop (i+1)):=by rw [Nat.mul_one,izs,izs,List.map_drop]
 rw [hdr] at RC
 have HM:=zz hm
 have HTk:Hid (Own w B 3 1 (some ⟨g,0,none⟩) i c (izs (l.take i))):=zz (by
  have:=ho.cut i (by omega)
  rwa [Nat.mul_one,←List.map_take] at this)
 have hin:(Tryz.prog.info? 3).map (fun i=> (i.zero,i.size,i.bytes))=some (some (Value.int .i64 0),1,8):=by kernel_rfl
 obtain⟨i0,hi0,hz0,_,_⟩:=info_parts hin
 have him:q+1≤c∧q<n:=by omega
 have HQ:=zz hq
 clear ho hr1 hi1 hm hin hq hdr
 go_enter Tryz.func250,Tryz.ntmps250
 go_upto_region 5 with fail
 refine wp_region_held_drew (S:=fun _=> True) (by kernel_rfl) trivial (fun hHeld=> ?_)
 refine tkH 0 ?_
 refine tkH 1 ?_
 refine tkH 2 ?_
 refine tkH 3 ?_
 refine tkH 4 ?_
 refine tkH 5 ?_
 refine rd1 6 (fun K hK=> ?_)
 refine Zke Zjs (by rfl) (.tmp 22) (.tmp 25) (by rfl) B g i c (izs (l.take i)) ?hd (HTk.out.drew) w.heap.size (m:=m) (c2:=c-(i+1)) _ ?hs (show Rd w.drew _ _ _ _ _ from RC.out) (Zs0 _) q HQ.out (by omega) ?_
 case hd=> simp [Act.eval,Act.put]
 case hs=> simp [Act.eval,Act.put]
 intro w8 o8 k8
 obtain⟨w9,hcl,o9,k9⟩:=Zj8 (P:=Tryz.prog) (t:=22) (z:= .int .i64 0) 0 Tryz.underlying22 hi0 hz0 (by decide) w8 B g q c _ o8 q 1 (c-q) (by omega) (Nat.le_refl _) (by omega)
 have hcl2:(Builtin.clear_ #[22] 0 #[.slice (some ⟨g,q*1,none⟩) 1 (c-q)]).run Tryz.prog w8= .ok (.tuple #[]) w9:=hcl
 rw [Nat.mul_one] at hcl2
 have O9:Hid (Own w9 B 3 1 (some ⟨g,0,none⟩) q c (izs (l.take i++l.drop (i+1)))):=zz (by
  have h:=o9
  rw [←List.map_append] at h
  exact h)
 have K9:=zz (((Kz0 (· =g) w).drew.trans k8).trans k9)
 clear o8 k8 o9 k9 hcl
 refine hK.out _ _ trivial (fun _=> ?_)
 clear hK K
 (try simp only [Zpt])
 refine tkH 7 ?_
 refine wpAnyH_done (by kernel_rfl) ?_ _
 (try simp only [Zpt])
 go_wp2_with fail
 go_ret
 have hqn:q=n-1:=by have h1:=HM.out;have h2:=HQ.out;clear wi1;omega
 rw [←hqn]
 exact⟨rfl,O9.out,K9.out⟩
theorem Zpb (w:World) (B:Nat) (A:Option Addr) (n c:Nat) (l:List Int) (hr:Rd w B A 1 n (izs l)) (hn:n≤1000000) (z:Int):
  Calls Tryz.prog 203 #[.slice A n c,.int .i64 z] w fun e w'=> e= .returned (.bool (l.contains z))∧w'=w:=by
 have hix:Calls Tryz.prog 244 #[.slice A n c,.int .i64 z] w fun e w'=> ∃j:Int,e= .returned (.int .i64 j)∧decide (0≤j)=l.contains z∧w'=w:=by
  have HR:=zz hr
  have HL:Hid (l.length=n):=zz (by simpa using hr.1)
  clear hr
  go_enter Tryz.func244,Tryz.ntmps244
  go_upto_region 2 with fail
  go_loopw [8] (fun iv wr=> ∃i:Nat,i≤n∧iv= .int .i64 (i:Int)∧Hid ((l.take i).contains z=false)∧wr=w) (fun iv _=> n-(intOf iv).toNat)
  case atStart=> exact⟨0,by omega,rfl,zz (by simp),rfl⟩
  case round=>
   obtain⟨i,hi,rfl,hno,rfl⟩:=hrel
   by_cases hlt:i<n
   ·have e1:decide (i<n)=true:=by simpa using hlt
    obtain⟨x,hx⟩:∃x,l[i]?=some x:=⟨l[i]'(by rw [HL.out];exact hlt),List.getElem?_eq_getElem _⟩
    obtain⟨b,off,rfl,_,hc⟩:=HR.out.2 (by omega)
    have q0:=hc i (.int .i64 x) (by simp [hx])
    have htk:Hid (l.take (i+1)=l.take i++ [x]):=zz (by rw [List.take_add_one,hx];rfl)
    have HX:=zz hx
    clear hc hx
    by_cases hzx:z=x
    ·have e2:(z==x)=true:=by simpa using hzx
     have HZX:=zz hzx
     clear hzx
     go_wp2_with fail
     go_ret
     refine⟨i,rfl,?_,rfl⟩
     have hm:z∈l:=by rw [HZX.out];exact List.mem_of_getElem? HX.out
     have:l.contains z=true:=by simpa using hm
     rw [this]
     simp
    ·have e2:(z==x)=false:=by simpa using hzx
     have HZX:=zz hzx
     clear hzx
     go_wp2_with fail
     go_roundw
     case rel=> exact⟨i+1,by omega,by go_num,zz (by
      rw [htk.out,List.contains_append,hno.out]
      simpa using HZX.out),trivial⟩
     case measure=> simp [intOf];omega
   ·have e1:decide (i<n)=false:=by simpa using hlt
    obtain rfl:i=n:=by omega
    rw [List.take_of_length_le (by rw [HL.out];exact Nat.le_refl _)] at hno
    go_wp2_with fail
    go_ret
    exact⟨-1,rfl,by rw [hno.out];rfl,rfl⟩
 have HI:=zz hix
 clear hix hr
 go_enter Tryz.func203,Tryz.ntmps203
 go_wp2_with fail
 refine HI.out.mono ?_
 rintro e w' ⟨j,rfl,hj,rfl⟩
 have HJ:=zz hj
 clear hj
 go_wp2_with fail
 go_ret
 refine⟨?_,rfl⟩
 rw [←HJ.out]
 rfl
theorem Zmj (w:World) (A:Option Addr) (n c:Nat) (hn:n<2):Calls Tryz.prog 142 #[.slice A n c] w fun e w'=> e= .returned (.slice A n c)∧w'=w:=by
 have e1:decide (n<2)=true:=by simpa using hn
 go_enter Tryz.func142,Tryz.ntmps142
 go_wp2_with fail
 go_ret
 exact⟨rfl,rfl⟩
open Go.RowKit
abbrev rngI (a n:Nat):List Int:=(List.range' a n).map (fun i:Nat=> (i:Int))
theorem Zfz (a n:Nat):rngI a (n+1)=rngI a n++ [((a+n:Nat):Int)]:=by
 unfold rngI
 rw [List.range'_concat,List.map_append]
 simp
theorem Zg0 (a n:Nat):rngI a (n+1)=(a:Int) :: rngI (a+1) n:=by
 unfold rngI
 rw [List.range'_succ]
 rfl
theorem Zp9 (w:World) (B g n c:Nat) (l:List Int) (ho:Own w B 3 1 (some ⟨g,0,none⟩) (n+1) c (izs l)) (hn:n+1≤100000):
  Calls Tryz.prog 250 #[.slice (some ⟨g,0,none⟩) (n+1) c,.int .i64 0,.int .i64 1] w fun e w'=> e= .returned (.slice (some ⟨g,0,none⟩) n c)∧Own w' B 3 1 (some ⟨g,0,none⟩) n c (izs (l.drop 1))∧Keeps (· =g) w w':=by
 have h:=Zt6 w B g (n+1) c 0 l ho hn (by omega)
 simp only [Nat.add_sub_cancel,Nat.zero_add,List.take_zero,List.nil_append] at h
 exact h
theorem Zl7 (w:World) (n:Nat) (hn:n≤64):
  Calls Tryz.prog 205 #[.slice none 0 0,.int .i64 n] w fun e w'=> ∃A c,e= .returned (.slice A n c)∧Own w' w.heap.size 3 1 A n c (izs (rngI 0 n))∧Keeps NO w w':=by
 have hmx:decide ((n:Int)<0)=false:=by simp
 have hmx2:(if (n:Int)<0 then(0:Int) else n)=n:=if_neg (by omega)
 go_enter Tryz.func205,Tryz.ntmps205
 go_upto_region 3 with fail
 go_loopw [5,12] (fun lv iv wr=> ∃(i:Nat) (A:Option Addr) (c:Nat),i≤n∧iv= .int .i64 i∧lv= .slice A i c∧Hid (Own wr w.heap.size 3 1 A i c (izs (rngI 0 i)))∧Hid (Keeps NO w wr)) (fun _ iv _=> n-(intOf iv).toNat)
 case atStart=> exact⟨0,none,0,by omega,rfl,rfl,zz (Own.nil _ _ _ _),zz (Kz0 _ _)⟩
 case round=>
  obtain⟨i,A,c,hi,rfl,rfl,O,K⟩:=hrel
  have hsz:=K.out.size
  by_cases hlt:i<n
  ·have e1:decide (i<n)=true:=by simpa using hlt
   have hsn:Hid (izs (rngI 0 i)++ [.int .i64 (i:Int)]=izs (rngI 0 (i+1))):=zz (by rw [Zfz,Nat.zero_add,izs,izs,List.map_append];rfl)
   go_wp2_with (at_builtin;refine Za5 _ Zjs rfl (.tmp 15) (.tmp 17) rfl w.heap.size _ rfl (by exact O.out.kept ((Kz0 NO _).alloc _) (fun _ _ h=> h)) _ (m:=1) [.int .i64 (i:Int)] rfl (by exact Blk.rd (sz:=1) (xs:= [.int .i64 (i:Int)]) (Blk.new_at _ _ _ _ (by simp)) rfl) (by simp [Value.oneCell']) (by simp only [maxLen];omega) (by omega) (by simp;omega) ?_;intro A6 c6 w6 o6 k6 hA6;rw [hsn.out] at o6;have O6:=zz o6;have K6:=zz ((K.out.alloc _).step k6 (fun b hb e=> by have:=(O.out.inB e).1;omega));clear o6 k6 hA6)
   go_roundw
   case rel=> exact⟨i+1,A6,c6,by omega,by go_num,rfl,O6,K6⟩
   case measure=> simp [intOf];omega
  ·have e1:decide (i<n)=false:=by simpa using hlt
   obtain rfl:i=n:=by omega
   obtain⟨wo,rfl⟩:∃wo:World,wo=wr:=⟨_,rfl⟩
   go_upto_region 8 with fail
   go_loopw [5,6,8] (fun lv ov iv wr=> ∃(j r:Nat) (A1:Option Addr) (c1:Nat) (A2:Option Addr) (c2:Nat),j+r=i∧iv= .int .i64 j∧lv= .slice A1 r c1∧ov= .slice A2 j c2∧Hid (Own wr w.heap.size 3 1 A1 r c1 (izs (rngI j r)))∧Hid (Own wr w.heap.size 3 1 A2 j c2 (izs (rngI 0 j)))∧Hid (∀b,inB A2 b→¬inB A1 b)∧Hid (Keeps NO w wr)) (fun _ _ iv _=> i-(intOf iv).toNat)
   case atStart=> exact⟨0,i,A,c,none,0,by omega,rfl,rfl,rfl,O,zz (Own.nil _ _ _ _),zz (fun b h=> absurd h (Zaj b)),K⟩
   case round=>
    obtain⟨j,r,A1,c1,A2,c2,hjr,rfl,rfl,rfl,O1,O2,HD,Kr⟩:=hrel
    clear O K hsz
    have hsz:=Kr.out.size
    by_cases hr0:r=0
    ·subst hr0
     obtain rfl:j=i:=by omega
     go_wp2_with fail
     go_ret
     exact⟨A2,c2,rfl,O2.out,Kr.out⟩
    ·obtain⟨q,rfl⟩:∃q,r=q+1:=⟨r-1,by omega⟩
     obtain⟨GL,hGL,_,hGLw⟩:=O1.out.some_ (by omega)
     subst hGL
     have hc0:=O1.out.cell 0 (by omega)
     rw [Zg0] at hc0
     have c0:wr.cell? ⟨GL,0,none⟩=some (.int .i64 (j:Int)):=hc0
     have e2:decide (0<q+1)=true:=by simp
     have hsn:Hid (izs (rngI 0 j)++ [.int .i64 (j:Int)]=izs (rngI 0 (j+1))):=zz (by rw [Zfz,Nat.zero_add,izs,izs,List.map_append];rfl)
     clear hc0
     go_wp2_with (at_builtin;refine Za5 _ Zjs rfl (.tmp 42) (.tmp 47) rfl w.heap.size _ rfl (by exact O2.out.kept ((Kz0 NO _).alloc _) (fun _ _ h=> h)) _ (m:=1) [.int .i64 (j:Int)] rfl (by exact Blk.rd (sz:=1) (xs:= [.int .i64 (j:Int)]) (Blk.new_at _ _ _ _ (by simp)) rfl) (by simp [Value.oneCell']) (by simp only [maxLen];omega) (by omega) (by simp;omega) ?_;intro A6 c6 w6 o6 k6 hA6;rw [hsn.out] at o6;have O6:=zz o6;have KA:=zz (((Kz0 (fun b=> inB A2 b) wr).alloc (.cells #[.int .i64 (j:Int)] 3)).trans k6);have HA6:=zz hA6;clear o6 k6 hA6)
     have OL6:=zz (O1.out.kept KA.out (fun b hb e=> HD.out b e hb))
     have hw6:=KA.out.size
     refine(Zp9 w6 w.heap.size GL q c1 _ OL6.out (by omega)).mono ?_
     rintro e w7 ⟨rfl,o7,k7⟩
     rw [Zg0,List.drop_one,List.tail_cons] at o7
     have HDn:Hid (∀b,inB A6 b→¬b=GL):=zz (fun b hb e=> by
      rcases HA6.out b hb with h | h
      ·exact HD.out b h ((Za0 _ _ _).2 e.symm)
      ·rw [World.size_alloc] at h;omega)
     have O7:=zz o7
     have OO7:=zz (O6.out.kept k7 HDn.out)
     have HD7:=zz (fun b (hb:inB A6 b)=> show¬inB (some ⟨GL,0,none⟩) b from fun e=> HDn.out b hb ((Za0 _ _ _).1 e).symm)
     have K7:=zz ((Kr.out.step KA.out (fun b hb e=> by have:=(O2.out.inB e).1;omega)).step k7 (fun b hb e=> by have:=(O1.out.inB ((Za0 _ _ _).2 rfl)).1;omega))
     clear o7 k7 OL6 KA HA6 O6 O1 O2 HD Kr
     go_wp2_with fail
     go_roundw
     case rel=> exact⟨j+1,q,_,c1,A6,c6,by omega,by go_num,rfl,rfl,O7,OO7,HD7,K7⟩
     case measure=> simp [intOf];omega
open Go.RowKit
theorem Zph {w:World} {B:Nat} {A:Option Addr} {n c:Nat} {l:List Ln} (hr:Rd w B A 3 n (lnCs l)) (hn:n≤1000000):
  Calls Tryz.prog 240 #[.slice A n c] w fun e w'=> ∃A' c',e= .returned (.slice A' n c')∧Ens w' w.heap.size A' n c' l∧Keeps NO w w':=by
 cases A with
 | none=>
   obtain rfl:n=0:=by
    rcases Nat.eq_zero_or_pos n with h | h
    ·exact h
    ·obtain⟨b,off,e,_⟩:=hr.2 h;cases e
   obtain rfl:l= []:=List.eq_nil_of_length_eq_zero (Zbn hr)
   clear hr
   have heq:=fun w=> Lib.run_eql_slice_nil (P:=Tryz.prog) w 75 263 none 0 c 0 0 Tryz.underlying75
   go_enter Tryz.func240,Tryz.ntmps240
   go_wp2_with fail
   go_ret
   exact⟨none,0,rfl,Own.nil _ _ _ _,Kz0 _ _⟩
 | some ad=>
   have HR:=zz hr
   clear hr
   have heq:=fun w=> Lib.run_eql_slice_nil (P:=Tryz.prog) w 75 263 (some ad) n c 0 0 Tryz.underlying75
   go_enter Tryz.func240,Tryz.ntmps240
   go_wp2_with (at_builtin;refine Za5 _ Zqg rfl _ _ rfl w.heap.size _ rfl (Own.new0 _ _ 263 3 _ (by simp) (by omega)) _ (m:=n) _ rfl (HR.out.kept ((Kz0 NO w).alloc _) (fun _ _ h=> h)) (Zdq l) (by simp [maxLen];omega) (by omega) (by simp) ?_;intro A5 c5 w5 o5 k5 hA5;rw [Nat.zero_add,List.nil_append] at o5;have O5:=zz o5;have K5:=zz k5;clear o5 k5 hA5)
   go_ret
   exact⟨A5,c5,rfl,O5.out,((Kz0 _ w).alloc _).step K5.out (fun k hk h=> by have:=(Za0 _ _ _).1 h;omega)⟩
theorem Zgl (w:World) (B s:Nat) (N:Int) (A:Option Addr) (m c:Nat) (l:List Ln) (hb:Blk w s 365 #[.int .i64 N,.slice A m c]) (hr:Rd w B A 3 m (lnCs l)) (hm:m≤1000000):
  Calls Tryz.prog 194 #[.pointer (some ⟨s,0,none⟩)] w fun e w'=> ∃A' c',e= .returned (.slice A' m c')∧Ens w' w.heap.size A' m c' l∧Keeps NO w w':=by
 have c1:=hb.cell 1
 have hl:=hb.lt
 have HR:=zz hr
 clear hb hr
 go_enter Tryz.func194,Tryz.ntmps194
 go_wp2_with fail
 refine(Zph HR.out hm).mono ?_
 rintro e w1 ⟨A1,c1',rfl,h1,k1⟩
 have H1:=zz h1
 have K1:=zz k1
 clear h1 k1
 go_wp2_with fail
 go_ret
 exact⟨A1,c1',rfl,H1.out,K1.out⟩
end Go.Proofs.YtjamiaamngalgaaGreat
