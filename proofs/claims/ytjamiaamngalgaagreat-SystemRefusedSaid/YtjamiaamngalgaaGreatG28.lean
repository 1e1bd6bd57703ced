/-
  Parts: copy into a slice of the. No conditions beyond those of the statement.
-/
import Derived.Test.YtjamiaamngalgaaGreatG01
import Derived.Laws.CopyOwn
set_option linter.unusedVariables false
set_option linter.unusedSimpArgs false
set_option maxRecDepth 1000000
set_option maxHeartbeats 4000000
namespace Go.Proofs.YtjamiaamngalgaaGreat
open Go.RowKit Go.ChangeShapes Go.WideShapes
section
variable {P:Program}
theorem Zko {t e:TypeId} {sz bytes:Nat} (E:ElemOf P t e sz bytes) (ty:TypeId) (w:World) (base g n c:Nat) (xs:List Value) (hown:Own w base e sz (some ⟨g,0,none⟩) n c xs) (o dLen dCap:Nat)
  (B:Nat) (A2:Option Addr) (m c2:Nat) (news:List Value) (hr:Rd w B A2 sz m news) (h1:∀u∈news,u.oneCell'=true) (hmd:m≤dLen) (hon:o+m≤n):
  ∃w',(Builtin.copy_ #[t,t] ty #[.slice (some ⟨g,o*sz,none⟩) dLen dCap,.slice A2 m c2]).run P w= .ok (.int .i64 (m:Int)) w'∧Own w' base e sz (some ⟨g,0,none⟩) n c (xs.take (o*sz)++news++xs.drop ((o+m)*sz))∧Keeps (· =g) w w':=by
 obtain⟨ht,⟨i,z,hi,hz,hsize,hby,hzs⟩,hpos⟩:=E
 have hxl:=hown.len
 have hnl:=hr.1
 have hmin:Nat.min m dLen=m:=Nat.min_eq_left hmd
 have hle:(o+m)*sz≤n*sz:=Nat.mul_le_mul_right _ hon
 rw [Nat.add_mul] at hle
 have hfc:(Builtin.firstCells sz m (.slice A2 m c2)).run P w= .ok news.toArray w:=by
  rcases Nat.eq_zero_or_pos m with h0 | h0
  ·subst h0
   obtain rfl:news= []:=List.eq_nil_of_length_eq_zero (by simpa using hnl)
   cases A2 with
   | none=> exact run_firstCells_none _ _ _ _ _
   | some ad=> exact run_firstCells_some (P:=P) w sz 0 ad 0 c2 [] (by simp) (by simp)
  ·obtain⟨b,off,rfl,hb,hc⟩:=hr.2 h0
   exact run_firstCells_some (P:=P) w sz m ⟨b,off,none⟩ m c2 news hnl (fun j u hu=> by rw [add_plain];exact hc j u hu)
 have hlv:=hown.2
 rcases hlv with ⟨hv,_⟩ | ⟨g',cap,cur,hv,hbg,hg,hnc,hcm,hcs,htake⟩
 ·cases hv
 ·injection hv with h3 h4 h5
  injection h3 with h3
  injection h3 with h3
  subst h3 h5
  have hcap:n*sz≤c*sz:=Nat.mul_le_mul_right _ hnc
  have hst:=run_storeCells_at P g (o*sz) e news 0 cur w hg (by rw [hcs,hnl];omega) h1
  simp only [Nat.add_zero] at hst
  refine⟨w.setRow g (cur.toList.take (o*sz)++news++cur.toList.drop (o*sz+news.length)).toArray,?_,⟨?_,.inr ⟨g,c,_,rfl,hbg,setRow_heap w g cur _ e _ hg,hnc,hcm,?_,?_⟩⟩,⟨rfl,rfl,rfl,by simp [World.setRow],fun k _ hk=> setRow_other w g k _ (fun e=> hk e)⟩⟩
  ·simp [Builtin.copy_,run_underlying ht,Builtin.lenOf,sizeOf,typeInfo,hi,hsize,hmin,hfc,hst,goInt]
  ·simp only [List.length_append,List.length_take,List.length_drop,hxl,hnl]
   rw [Nat.add_mul]
   omega
  ·simp only [List.size_toArray,List.length_append,List.length_take,List.length_drop,Array.length_toList,hcs,hnl]
   omega
  ·obtain⟨rest,hrest⟩:∃rest,cur.toList=xs++rest:=⟨cur.toList.drop (n*sz),by rw [←htake,List.take_append_drop]⟩
   have e1:(xs++rest).take (o*sz)=xs.take (o*sz):=List.take_append_of_le_length (by rw [hxl];omega)
   have e2:(xs++rest).drop (o*sz+news.length)=xs.drop ((o+m)*sz)++rest:=by
    rw [List.drop_append_of_le_length (by rw [hxl,hnl];omega),hnl,Nat.add_mul]
   rw [hrest,e1,e2,List.toList_toArray,←List.append_assoc]
   exact List.take_left' (by simp only [List.length_append,List.length_take,List.length_drop,hxl,hnl];rw [Nat.add_mul];omega)
theorem Znd {o:Oper} {a:Act} {w:World} {K:Act→World→Prop} {Q:Exit→Act→World→Prop} {t e:TypeId} {sz bytes:Nat} (E:ElemOf P t e sz bytes) (d s:Operand)
  (ho:o.op= .call { callee:= .builtin .copy,args:= #[d,s],argTypes:= #[t,t]}) (base g n c:Nat) (xs:List Value) (hown:Own w base e sz (some ⟨g,0,none⟩) n c xs) (of_ dLen dCap:Nat) (hd:a.eval d= .slice (some ⟨g,of_*sz,none⟩) dLen dCap)
  (B:Nat) {A2:Option Addr} {m c2:Nat} (news:List Value) (hs:a.eval s= .slice A2 m c2) (hr:Rd w B A2 sz m news) (h1:∀u∈news,u.oneCell'=true) (hmd:m≤dLen) (hon:of_+m≤n)
  (h:∀w',Own w' base e sz (some ⟨g,0,none⟩) n c (xs.take (of_*sz)++news++xs.drop ((of_+m)*sz))→Keeps (· =g) w w'→K (a.put o.dst (.int .i64 (m:Int))) w'):o.wp P a w K Q:=by
 obtain⟨w',hrun,h2,h3⟩:=Zko (P:=P) E o.type w base g n c xs hown of_ dLen dCap B A2 m c2 news hr h1 hmd hon
 unfold Oper.wp execOp
 simp only [ho,resolve,invoke,builtin,Sem.run_bind,Sem.run_pure,Result.andThen_ok,List.map_toArray,List.map_cons,List.map_nil,hd,hs,hrun]
 exact h w' h2 h3
theorem Zj2 {ops:Array Oper} {o:Oper} {a:Act} {w:World} {K:Act→World→Prop} {Q:Exit→Act→World→Prop} {F:Prop} {t e:TypeId} {sz bytes:Nat} (E:ElemOf P t e sz bytes) (hgd:o.guard=none) (d s:Operand)
  (ho:o.op= .call { callee:= .builtin .copy,args:= #[d,s],argTypes:= #[t,t]}) (base g n c:Nat) (xs:List Value) (hown:Own w base e sz (some ⟨g,0,none⟩) n c xs) (of_ dLen dCap:Nat) (hd:a.eval d= .slice (some ⟨g,of_*sz,none⟩) dLen dCap)
  (B:Nat) {A2:Option Addr} {m c2:Nat} (news:List Value) (hs:a.eval s= .slice A2 m c2) (hr:Rd w B A2 sz m news) (h1:∀u∈news,u.oneCell'=true) (hmd:m≤dLen) (hon:of_+m≤n)
  (h:∀w',Own w' base e sz (some ⟨g,0,none⟩) n c (xs.take (of_*sz)++news++xs.drop ((of_+m)*sz))→Keeps (· =g) w w'→K (a.put o.dst (.int .i64 (m:Int))) w'):
  if Region.wanted o (yielded ops a.tmps)=true then Oper.wp P o a w K Q else F:=by
 have hw:Region.wanted o (yielded ops a.tmps)=true:=by simp [Region.wanted,hgd]
 rw [if_pos hw]
 exact Znd E d s ho base g n c xs hown of_ dLen dCap hd B news hs hr h1 hmd hon h
end
end Go.Proofs.YtjamiaamngalgaaGreat
