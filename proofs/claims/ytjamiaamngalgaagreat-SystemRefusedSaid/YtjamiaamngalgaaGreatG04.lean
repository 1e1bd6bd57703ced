/-
  Parts: A region that draws its; A region that draws its; The steps of drawn regio; The deck of numbers (pac; Configur. No conditions beyond those of the statement.
-/
import Derived.Test.YtjamiaamngalgaaGreatG01
import Derived.Deep.RegionHeld3
import Derived.Test.YtjamiaamngalgaaGreatG00
import Derived.Test.YtjamiaamngalgaaGreatG03
import Derived.Laws.Rows
import Derived.OrdersHeld
set_option linter.unusedVariables false
set_option linter.unusedSimpArgs false
set_option maxRecDepth 1000000
set_option maxHeartbeats 4000000
namespace Go.Proofs.YtjamiaamngalgaaGreat
open Go.RowKit
section
variable {P:Program} {ops:Array Oper} {Q:Exit→Act→World→Prop} {md:Region.Mode} {S:World→Prop} {n:Nat}
def Zbl (P:Program) (md:Region.Mode) (ops:Array Oper) (Q:Exit→Act→World→Prop) (S:World→Prop) (n:Nat):Nat→Array Bool→Act→World→Prop
 | 0,listed,a,w=> Region.ready md ops listed= []∧Q .normal a w
 | fuel+1,listed,a,w=>
   (Region.ready md ops listed= []→Q .normal a w)∧
   ∀i∈Region.ready md ops listed,wpOp P ops Q i (fun a' w'=> (i≠n→S w')∧Zbl P md ops Q S n fuel (listed.setIfInBounds i true) a' w') a w
theorem Zee:∀(fuel:Nat) (listed:Array Bool) (a:Act) (w:World),Zbl P md ops Q S n fuel listed a w→wpAny P md ops Q fuel listed a w
 | 0,_,_,_,h=> h
 | fuel+1,_,_,_,h=> ⟨h.1,fun i hi=> wpOp_mono (fun a' w' h'=> Zee fuel _ a' w' h'.2) (h.2 i hi)⟩
def Zci (md:Region.Mode) (ops:Array Oper) (i:Nat):Nat→Nat→Bool
 | 0,k=> k==i
 | d+1,k=> k==i||match ops[k]? with
   | some o=> o.after.any (fun e=> Region.binds md e&&Zci md ops i d e.on)
   | none=> false
def Closed (md:Region.Mode) (ops:Array Oper) (listed:Array Bool):Prop:=∀k o,ops[k]?=some o→listed.getD k false=true→∀e∈o.after,Region.binds md e=true→listed.getD e.on false=true
def Zcn (md:Region.Mode) (ops:Array Oper) (listed:Array Bool):Bool:=(List.range ops.size).all fun k=> !listed.getD k false||match ops[k]? with
 | some o=> o.after.all (fun e=> !Region.binds md e||listed.getD e.on false)
 | none=> true
theorem Zdk {listed:Array Bool} (h:Zcn md ops listed=true):Closed md ops listed:=by
 intro k o ho hk e he hb
 unfold Zcn at h
 rw [List.all_eq_true] at h
 have h1:=h k (List.mem_range.2 (Array.getElem?_eq_some_iff.1 ho).1)
 rw [hk,ho] at h1
 dsimp only at h1
 rw [Bool.not_true,Bool.false_or,Array.all_eq_true_iff_forall_mem] at h1
 have h2:=h1 e he
 rw [hb,Bool.not_true,Bool.false_or] at h2
 exact h2
theorem Closed.listed {listed:Array Bool} (h:Closed md ops listed) {i:Nat}:∀(d k:Nat),Zci md ops i d k=true→listed.getD k false=true→listed.getD i false=true
 | 0,k,hw,hk=> by
   have:k=i:=by simpa [Zci] using hw
   rw [←this];exact hk
 | d+1,k,hw,hk=> by
   unfold Zci at hw
   rw [Bool.or_eq_true] at hw
   rcases hw with hw | hw
   ·have:k=i:=by simpa using hw
    rw [←this];exact hk
   ·split at hw
    ·next o ho=>
     rw [Array.any_eq_true'] at hw
     obtain⟨e,he,h2⟩:=hw
     rw [Bool.and_eq_true] at h2
     exact Closed.listed h d e.on h2.2 (h k o ho hk e he h2.1)
    ·cases hw
theorem Closed.step {listed:Array Bool} (h:Closed md ops listed) {j:Nat} (hj:j∈Region.ready md ops listed):Closed md ops (listed.setIfInBounds j true):=by
 intro k o ho hk e he hb
 obtain⟨_,oj,hoj,hall⟩:=mem_ready.1 hj
 by_cases e1:k=j
 ·subst e1
  rw [hoj] at ho
  injection ho with ho
  subst ho
  exact getD_set_true (hall e he hb)
 ·rw [getD_set_ne false (fun h=> e1 h.symm)] at hk
  exact getD_set_true (h k o ho hk e he hb)
theorem Zfk {i:Nat} {oi:Oper} {v:Value} (hi:ops[i]?=some oi) (hsel:∀(j:Nat) (o:Oper) cs b,ops[j]?=some o→o.op≠ .select cs b)
  (hQ:∀c a w,Q (.panic c) (a.put oi.dst v) w→Q (.panic c) a w) (hin:i≠n) (d:Nat) (hw:Zci md ops i d n=true):
  ∀(fuel:Nat) (listed:Array Bool) (a:Act) (w:World),Closed md ops listed→
   (∀j oj,ops[j]?=some oj→j≠i→listed.getD j true=false→(∀e∈oj.after,Region.binds md e=true→e.on≠i)→oi.apart ops oj=true)→
   i∈Region.ready md ops listed→YieldsIf P ops S oi v a→S w→
   Zbl P md ops Q S n fuel (listed.setIfInBounds i true) (a.put oi.dst v) w→Zbl P md ops Q S n (fuel+1) listed a w:=by
 intro fuel
 induction fuel with
 | zero=>
   intro listed a w _ _ hr hy hS H
   refine⟨fun h=> (by rw [h] at hr;cases hr),fun j hj=> ?_⟩
   by_cases hji:j=i
   ·subst hji;exact hy.wpOp hi hS ⟨fun _=> hS,H⟩
   ·have:=ready_mono hj hji
    rw [H.1] at this
    cases this
 | succ fuel ih=>
   intro listed a w hcl hfree hr hy hS H
   refine⟨fun h=> (by rw [h] at hr;cases hr),fun j hj=> ?_⟩
   by_cases hji:j=i
   ·subst hji;exact hy.wpOp hi hS ⟨fun _=> hS,H⟩
   ·have h1:=H.2 j (ready_mono hj hji)
    obtain⟨hjun,oj,hoj,hall⟩:=mem_ready.1 hj
    have hnot:∀e∈oj.after,Region.binds md e=true→e.on≠i:=fun e he hb heq=> by
     have h1:=hall e he hb
     have h0:=(mem_ready.1 hr).1
     rw [heq] at h1
     rcases Nat.lt_or_ge i listed.size with h' | h'
     ·simp [h'] at h0 h1;rw [h0] at h1;cases h1
     ·simp [Array.getElem?_eq_none h'] at h1
    have hi0:listed.getD i false=false:=by
     have h0:=(mem_ready.1 hr).1
     rcases Nat.lt_or_ge i listed.size with h' | h'
     ·simp [h'] at h0 ⊢;exact h0
     ·simp [Array.getElem?_eq_none h'] at h0
    have hjn:j≠n:=fun e=> by
     subst e
     have:(listed.setIfInBounds j true).getD i false=true:=by
      refine Closed.listed (hcl.step hj) d j hw ?_
      have h0:=hjun
      rcases Nat.lt_or_ge j listed.size with h' | h'
      ·simp [h']
      ·simp [Array.getElem?_eq_none h'] at h0
     rw [getD_set_ne false hji,hi0] at this
     cases this
    have h2:=wpOp_putIf hoj (hfree j oj hoj hji hjun hnot) (fun cs b=> hsel i oi cs b hi) (fun cs b=> hsel j oj cs b hoj) hQ hy h1
    have hfree':∀k ok,ops[k]?=some ok→k≠i→(listed.setIfInBounds j true).getD k true=false→
      (∀e∈ok.after,Region.binds md e=true→e.on≠i)→oi.apart ops ok=true:=fun k ok hk hki hun hno=> by
     refine hfree k ok hk hki ?_ hno
     by_cases hjk:j=k
     ·subst hjk;exact hjun
     ·rw [getD_set_ne true hjk] at hun;exact hun
    refine wpOp_mono (fun a' w' h3=> ⟨fun _=> h3.2.1 hjn,ih (listed.setIfInBounds j true) a' w' (hcl.step hj) hfree' (ready_mono hr (Ne.symm hji)) h3.1 (h3.2.1 hjn) ?_⟩) h2
    rw [Array.setIfInBounds_comm _ _ hji]
    exact h3.2.2
theorem Zb2 {i:Nat} {oi:Oper} {v:Value} {fuel:Nat} {listed:Array Bool} {a:Act} {w:World} (hi:ops[i]?=some oi)
  (hs:Region.noSelect ops=true) (hf:Region.free md ops listed i=true) (hr:(Region.ready md ops listed).contains i=true) (hin:(i==n)=false) (hwt:Zci md ops i 4 n=true) (hcl:Zcn md ops listed=true)
  (hQ:∀c a w,Q (.panic c) (a.put oi.dst v) w→Q (.panic c) a w) (hy:YieldsIf P ops S oi v a) (hS:S w)
  (h:Zbl P md ops Q S n fuel (listed.setIfInBounds i true) (a.put oi.dst v) w):Zbl P md ops Q S n (fuel+1) listed a w:=
 Zfk hi (Region.noSelect_spec hs) hQ (by simpa using hin) 4 hwt fuel listed a w (Zdk hcl) (Region.free_spec hi hf) (by simpa using hr) hy hS h
theorem Zgx {listed:Array Bool} {a:Act} {w:World} (hr:Region.ready md ops listed= []) (h:Q .normal a w):
  ∀fuel,Zbl P md ops Q S n fuel listed a w
 | 0=> ⟨hr,h⟩
 | _+1=> ⟨fun _=> h,by rw [hr];simp⟩
theorem Zd4 {i:Nat} {o:Oper} {fuel:Nat} {listed:Array Bool} {a:Act} {w:World} (hr:Region.ready md ops listed= [i]) (ho:ops[i]?=some o)
  (h:∀K':Act→World→Prop,Shut (∀a w,S w→(S w→Zbl P md ops Q S n fuel (listed.setIfInBounds i true) a w)→K' a w)→if Region.wanted o (yielded ops a.tmps)=true then Oper.wp P o a w K' Q else K' (a.put o.dst undef) w):
  Zbl P md ops Q S n (fuel+1) listed a w:=by
 refine⟨fun h0=> (by rw [h0] at hr;cases hr),fun j hj=> ?_⟩
 rw [hr,List.mem_singleton] at hj
 subst hj
 exact wpOp_step ho (fun K' hK=> h K' (fun a w hS hW=> hK a w ⟨fun _=> hS,hW hS⟩))
theorem Zgw {o:Oper} {fuel:Nat} {listed:Array Bool} {a:Act} {w:World} (hr:Region.ready md ops listed= [n]) (ho:ops[n]?=some o)
  (h:∀K':Act→World→Prop,Shut (∀a w,Zbl P md ops Q S n fuel (listed.setIfInBounds n true) a w→K' a w)→if Region.wanted o (yielded ops a.tmps)=true then Oper.wp P o a w K' Q else K' (a.put o.dst undef) w):
  Zbl P md ops Q S n (fuel+1) listed a w:=by
 refine⟨fun h0=> (by rw [h0] at hr;cases hr),fun j hj=> ?_⟩
 rw [hr,List.mem_singleton] at hj
 subst hj
 exact wpOp_step ho (fun K' hK=> h K' (fun a w hW=> hK a w ⟨fun e=> absurd rfl e,hW⟩))
theorem Zgu (n:Nat) {id:Nat} {a:Act} {w:World} (hm:P.follows .mixedOrders=true) (hS:S w.drew)
  (h:S w.drew→Zbl P .any ops Q S n ops.size (Array.replicate ops.size false) a w.drew):(Code.region id ops true).wp P Q a w:=
 wp_region_any hm (Zee _ _ _ _ (h hS))
end
open Go.RowKit
section
variable {P:Program} {ops:Array Oper} {Q:Exit→Act→World→Prop} {md:Region.Mode} {S:World→Prop} {late:Nat→Bool}
def Zai (P:Program) (md:Region.Mode) (ops:Array Oper) (Q:Exit→Act→World→Prop) (S:World→Prop) (late:Nat→Bool):Nat→Array Bool→Act→World→Prop
 | 0,listed,a,w=> Region.ready md ops listed= []∧Q .normal a w
 | fuel+1,listed,a,w=>
   (Region.ready md ops listed= []→Q .normal a w)∧
   ∀i∈Region.ready md ops listed,wpOp P ops Q i (fun a' w'=> (late i=false→S w→S w')∧Zai P md ops Q S late fuel (listed.setIfInBounds i true) a' w') a w
theorem Zef:∀(fuel:Nat) (listed:Array Bool) (a:Act) (w:World),Zai P md ops Q S late fuel listed a w→wpAny P md ops Q fuel listed a w
 | 0,_,_,_,h=> h
 | fuel+1,_,_,_,h=> ⟨h.1,fun i hi=> wpOp_mono (fun a' w' h'=> Zef fuel _ a' w' h'.2) (h.2 i hi)⟩
theorem Zfl {i:Nat} {oi:Oper} {v:Value} (hi:ops[i]?=some oi) (hsel:∀(j:Nat) (o:Oper) cs b,ops[j]?=some o→o.op≠ .select cs b)
  (hQ:∀c a w,Q (.panic c) (a.put oi.dst v) w→Q (.panic c) a w) (d:Nat) (hw:∀n,n<ops.size→late n=true→Zci md ops i d n=true):
  ∀(fuel:Nat) (listed:Array Bool) (a:Act) (w:World),Closed md ops listed→
   (∀j oj,ops[j]?=some oj→j≠i→listed.getD j true=false→(∀e∈oj.after,Region.binds md e=true→e.on≠i)→oi.apart ops oj=true)→
   i∈Region.ready md ops listed→YieldsIf P ops S oi v a→S w→
   Zai P md ops Q S late fuel (listed.setIfInBounds i true) (a.put oi.dst v) w→Zai P md ops Q S late (fuel+1) listed a w:=by
 intro fuel
 induction fuel with
 | zero=>
   intro listed a w _ _ hr hy hS H
   refine⟨fun h=> (by rw [h] at hr;cases hr),fun j hj=> ?_⟩
   by_cases hji:j=i
   ·subst hji;exact hy.wpOp hi hS ⟨fun _ _=> hS,H⟩
   ·have:=ready_mono hj hji
    rw [H.1] at this
    cases this
 | succ fuel ih=>
   intro listed a w hcl hfree hr hy hS H
   refine⟨fun h=> (by rw [h] at hr;cases hr),fun j hj=> ?_⟩
   by_cases hji:j=i
   ·subst hji;exact hy.wpOp hi hS ⟨fun _ _=> hS,H⟩
   ·have h1:=H.2 j (ready_mono hj hji)
    obtain⟨hjun,oj,hoj,hall⟩:=mem_ready.1 hj
    have hnot:∀e∈oj.after,Region.binds md e=true→e.on≠i:=fun e he hb heq=> by
     have h1:=hall e he hb
     have h0:=(mem_ready.1 hr).1
     rw [heq] at h1
     rcases Nat.lt_or_ge i listed.size with h' | h'
     ·simp [h'] at h0 h1;rw [h0] at h1;cases h1
     ·simp [Array.getElem?_eq_none h'] at h1
    have hi0:listed.getD i false=false:=by
     have h0:=(mem_ready.1 hr).1
     rcases Nat.lt_or_ge i listed.size with h' | h'
     ·simp [h'] at h0 ⊢;exact h0
     ·simp [Array.getElem?_eq_none h'] at h0
    have hjl:late j=false:=by
     rcases e:late j with _ | _
     ·rfl
     ·exfalso
      have hwj:=hw j (Array.getElem?_eq_some_iff.1 hoj).1 e
      have:(listed.setIfInBounds j true).getD i false=true:=by
       refine Closed.listed (hcl.step hj) d j hwj ?_
       have h0:=hjun
       rcases Nat.lt_or_ge j listed.size with h' | h'
       ·simp [h']
       ·simp [Array.getElem?_eq_none h'] at h0
      rw [getD_set_ne false hji,hi0] at this
      cases this
    have h2:=wpOp_putIf hoj (hfree j oj hoj hji hjun hnot) (fun cs b=> hsel i oi cs b hi) (fun cs b=> hsel j oj cs b hoj) hQ hy h1
    have hfree':∀k ok,ops[k]?=some ok→k≠i→(listed.setIfInBounds j true).getD k true=false→
      (∀e∈ok.after,Region.binds md e=true→e.on≠i)→oi.apart ops ok=true:=fun k ok hk hki hun hno=> by
     refine hfree k ok hk hki ?_ hno
     by_cases hjk:j=k
     ·subst hjk;exact hjun
     ·rw [getD_set_ne true hjk] at hun;exact hun
    refine wpOp_mono (fun a' w' h3=> ⟨fun h4 h5=> h3.2.1 h4 h5,ih (listed.setIfInBounds j true) a' w' (hcl.step hj) hfree' (ready_mono hr (Ne.symm hji)) h3.1 (h3.2.1 hjl hS) ?_⟩) h2
    rw [Array.setIfInBounds_comm _ _ hji]
    exact h3.2.2
theorem Zgy {i:Nat} {oi:Oper} {v:Value} (hi:ops[i]?=some oi) (hsel:∀(j:Nat) (o:Oper) cs b,ops[j]?=some o→o.op≠ .select cs b)
  (hQ:∀c a w,Q (.panic c) (a.put oi.dst v) w→Q (.panic c) a w):
  ∀(fuel:Nat) (listed:Array Bool) (a:Act) (w:World),
   (∀j oj,ops[j]?=some oj→j≠i→listed.getD j true=false→(∀e∈oj.after,Region.binds md e=true→e.on≠i)→oi.apart ops oj=true)→
   i∈Region.ready md ops listed→YieldsIf P ops (fun _=> True) oi v a→
   Zai P md ops Q S late fuel (listed.setIfInBounds i true) (a.put oi.dst v) w→Zai P md ops Q S late (fuel+1) listed a w:=by
 intro fuel
 induction fuel with
 | zero=>
   intro listed a w _ hr hy H
   refine⟨fun h=> (by rw [h] at hr;cases hr),fun j hj=> ?_⟩
   by_cases hji:j=i
   ·subst hji;exact hy.wpOp hi trivial ⟨fun _ h=> h,H⟩
   ·have:=ready_mono hj hji
    rw [H.1] at this
    cases this
 | succ fuel ih=>
   intro listed a w hfree hr hy H
   refine⟨fun h=> (by rw [h] at hr;cases hr),fun j hj=> ?_⟩
   by_cases hji:j=i
   ·subst hji;exact hy.wpOp hi trivial ⟨fun _ h=> h,H⟩
   ·have h1:=H.2 j (ready_mono hj hji)
    obtain⟨hjun,oj,hoj,hall⟩:=mem_ready.1 hj
    have hnot:∀e∈oj.after,Region.binds md e=true→e.on≠i:=fun e he hb heq=> by
     have h1:=hall e he hb
     have h0:=(mem_ready.1 hr).1
     rw [heq] at h1
     rcases Nat.lt_or_ge i listed.size with h' | h'
     ·simp [h'] at h0 h1;rw [h0] at h1;cases h1
     ·simp [Array.getElem?_eq_none h'] at h1
    have h2:=wpOp_putIf hoj (hfree j oj hoj hji hjun hnot) (fun cs b=> hsel i oi cs b hi) (fun cs b=> hsel j oj cs b hoj) hQ hy h1
    have hfree':∀k ok,ops[k]?=some ok→k≠i→(listed.setIfInBounds j true).getD k true=false→
      (∀e∈ok.after,Region.binds md e=true→e.on≠i)→oi.apart ops ok=true:=fun k ok hk hki hun hno=> by
     refine hfree k ok hk hki ?_ hno
     by_cases hjk:j=k
     ·subst hjk;exact hjun
     ·rw [getD_set_ne true hjk] at hun;exact hun
    refine wpOp_mono (fun a' w' h3=> ⟨h3.2.1,ih (listed.setIfInBounds j true) a' w' hfree' (ready_mono hr (Ne.symm hji)) h3.1 ?_⟩) h2
    rw [Array.setIfInBounds_comm _ _ hji]
    exact h3.2.2
def Zlj (md:Region.Mode) (ops:Array Oper) (late:Nat→Bool) (i:Nat):Bool:=(List.range ops.size).all fun n=> !late n||Zci md ops i 4 n
theorem Zjm {i:Nat} (h:Zlj md ops late i=true):∀n,n<ops.size→late n=true→Zci md ops i 4 n=true:=by
 intro n hn hl
 unfold Zlj at h
 rw [List.all_eq_true] at h
 have:=h n (List.mem_range.2 hn)
 rw [hl] at this
 simpa using this
theorem Za1 {i:Nat} {oi:Oper} {v:Value} {fuel:Nat} {listed:Array Bool} {a:Act} {w:World} (hi:ops[i]?=some oi)
  (hs:Region.noSelect ops=true) (hf:Region.free md ops listed i=true) (hr:(Region.ready md ops listed).contains i=true) (hwt:Zlj md ops late i=true) (hcl:Zcn md ops listed=true)
  (hQ:∀c a w,Q (.panic c) (a.put oi.dst v) w→Q (.panic c) a w) (hy:YieldsIf P ops S oi v a) (hS:S w)
  (h:Zai P md ops Q S late fuel (listed.setIfInBounds i true) (a.put oi.dst v) w):Zai P md ops Q S late (fuel+1) listed a w:=
 Zfl hi (Region.noSelect_spec hs) hQ 4 (Zjm hwt) fuel listed a w (Zdk hcl) (Region.free_spec hi hf) (by simpa using hr) hy hS h
theorem Za9 {i:Nat} {oi:Oper} {v:Value} {fuel:Nat} {listed:Array Bool} {a:Act} {w:World} (hi:ops[i]?=some oi)
  (hs:Region.noSelect ops=true) (hf:Region.free md ops listed i=true) (hr:(Region.ready md ops listed).contains i=true)
  (hQ:∀c a w,Q (.panic c) (a.put oi.dst v) w→Q (.panic c) a w) (hy:YieldsIf P ops (fun _=> True) oi v a)
  (h:Zai P md ops Q S late fuel (listed.setIfInBounds i true) (a.put oi.dst v) w):Zai P md ops Q S late (fuel+1) listed a w:=
 Zgy hi (Region.noSelect_spec hs) hQ fuel listed a w (Region.free_spec hi hf) (by simpa using hr) hy h
theorem Zau {listed:Array Bool} {a:Act} {w:World} (hr:Region.ready md ops listed= []) (h:Q .normal a w):
  ∀fuel,Zai P md ops Q S late fuel listed a w
 | 0=> ⟨hr,h⟩
 | _+1=> ⟨fun _=> h,by rw [hr];simp⟩
def AllL (P:Program) (md:Region.Mode) (ops:Array Oper) (Q:Exit→Act→World→Prop) (S:World→Prop) (late:Nat→Bool) (fuel:Nat) (listed:Array Bool) (a:Act) (w:World) (rs:List Nat):Prop:=
 ∀i∈rs,wpOp P ops Q i (fun a' w'=> (late i=false→S w→S w')∧Zai P md ops Q S late fuel (listed.setIfInBounds i true) a' w') a w
theorem AllL.nil {fuel:Nat} {listed:Array Bool} {a:Act} {w:World}:AllL P md ops Q S late fuel listed a w []:=fun _ h=> by cases h
theorem AllL.cons {fuel:Nat} {listed:Array Bool} {a:Act} {w:World} {i:Nat} {o:Oper} {rs:List Nat} (ho:ops[i]?=some o)
  (h:∀K':Act→World→Prop,Shut (∀a w',S w'→(S w'→Zai P md ops Q S late fuel (listed.setIfInBounds i true) a w')→K' a w')→if Region.wanted o (yielded ops a.tmps)=true then Oper.wp P o a w K' Q else K' (a.put o.dst undef) w)
  (hs:AllL P md ops Q S late fuel listed a w rs):AllL P md ops Q S late fuel listed a w (i :: rs):=fun j hj=> by
 rcases List.mem_cons.1 hj with rfl | hj
 ·exact wpOp_step ho (fun K' hK=> h K' (fun a w' hS hW=> hK a w' ⟨fun _ _=> hS,hW hS⟩))
 ·exact hs j hj
theorem AllL.last {fuel:Nat} {listed:Array Bool} {a:Act} {w:World} {i:Nat} {o:Oper} {rs:List Nat} (ho:ops[i]?=some o) (hl:late i=true)
  (h:∀K':Act→World→Prop,Shut (∀a w',Zai P md ops Q S late fuel (listed.setIfInBounds i true) a w'→K' a w')→if Region.wanted o (yielded ops a.tmps)=true then Oper.wp P o a w K' Q else K' (a.put o.dst undef) w)
  (hs:AllL P md ops Q S late fuel listed a w rs):AllL P md ops Q S late fuel listed a w (i :: rs):=fun j hj=> by
 rcases List.mem_cons.1 hj with rfl | hj
 ·exact wpOp_step ho (fun K' hK=> h K' (fun a w' hW=> hK a w' ⟨fun e=> absurd (hl.symm.trans e) (by decide),hW⟩))
 ·exact hs j hj
theorem Za2 {rs:List Nat} {fuel:Nat} {listed:Array Bool} {a:Act} {w:World} (hr:Region.ready md ops listed=rs) (hne:rs≠ [])
  (h:AllL P md ops Q S late fuel listed a w rs):Zai P md ops Q S late (fuel+1) listed a w:=by
 refine⟨fun h0=> absurd (hr.symm.trans h0) hne,fun j hj=> ?_⟩
 rw [hr] at hj
 exact h j hj
theorem Zat (late:Nat→Bool) {id:Nat} {a:Act} {w:World} (hm:P.follows .mixedOrders=true) (hS:S w.drew)
  (h:S w.drew→Zai P .any ops Q S late ops.size (Array.replicate ops.size false) a w.drew):(Code.region id ops true).wp P Q a w:=
 wp_region_any hm (Zef _ _ _ _ (h hS))
end
open Go.RowKit
section
variable {P:Program} {ops:Array Oper} {Q:Exit→Act→World→Prop} {md:Region.Mode} {S:World→Prop} {late:Nat→Bool} {n:Nat}
theorem tkL (i:Nat) {oi:Oper} {v:Value} {fuel:Nat} {listed:Array Bool} {a a':Act} {w:World}
  (h:Zai P md ops Q S late fuel (listed.setIfInBounds i true) a' w)
  (hi:ops[i]?=some oi:=by rfl)
  (hs:Region.noSelect ops=true:=by kernel_rfl) (hf:Region.free md ops listed i=true:=by kernel_rfl) (hr:(Region.ready md ops listed).contains i=true:=by kernel_rfl) (hwt:Zlj md ops late i=true:=by kernel_rfl) (hcl:Zcn md ops listed=true:=by kernel_rfl) (hS:S w:=by assumption)
  (hg:Region.wanted oi (yielded ops a.tmps)=true:=by first | kernel_rfl | rfl)
  (hy:∀w,S w→(execOp a.eval oi).run P w= .ok (.value v) w:=by(intro w hSw; (try dsimp only at hSw);go_simp;try (with_reducible rfl)))
  (ha:a.put oi.dst v=a':=by((try simp only [Zpt]);try rfl))
  (hQ:∀c a w,Q (.panic c) (a.put oi.dst v) w→Q (.panic c) a w:=by exact fun _ _ _ h=> h):
  Zai P md ops Q S late (fuel+1) listed a w:=
 Za1 hi hs hf hr hwt hcl hQ (.inl ⟨hg,hy⟩) hS (by rw [ha];exact h)
theorem tkB (i:Nat) {oi:Oper} {v:Value} {fuel:Nat} {listed:Array Bool} {a a':Act} {w:World}
  (h:Zai P md ops Q S late fuel (listed.setIfInBounds i true) a' w)
  (hi:ops[i]?=some oi:=by rfl)
  (hs:Region.noSelect ops=true:=by kernel_rfl) (hf:Region.free md ops listed i=true:=by kernel_rfl) (hr:(Region.ready md ops listed).contains i=true:=by kernel_rfl) (hwt:Zlj md ops late i=true:=by kernel_rfl) (hcl:Zcn md ops listed=true:=by kernel_rfl) (hS:S w:=by assumption)
  (hg:Region.wanted oi (yielded ops a.tmps)=true:=by first | kernel_rfl | rfl)
  (hy:∀w,S w→(execOp a.eval oi).run P w= .ok (.value v) w:=by(intro w hSw; (try dsimp only at hSw);clear hSw;go_simp;try (with_reducible rfl)))
  (ha:a.put oi.dst v=a':=by((try simp only [Zpt]);try rfl))
  (hQ:∀c a w,Q (.panic c) (a.put oi.dst v) w→Q (.panic c) a w:=by first | exact fun _ _ _ h=> absurd rfl (h.1 _) | exact fun _ _ _ h=> h):
  Zai P md ops Q S late (fuel+1) listed a w:=
 Za1 hi hs hf hr hwt hcl hQ (.inl ⟨hg,hy⟩) hS (by rw [ha];exact h)
theorem tkF (i:Nat) {oi:Oper} {v:Value} {fuel:Nat} {listed:Array Bool} {a a':Act} {w:World}
  (h:Zai P md ops Q S late fuel (listed.setIfInBounds i true) a' w)
  (hi:ops[i]?=some oi:=by rfl)
  (hs:Region.noSelect ops=true:=by kernel_rfl) (hf:Region.free md ops listed i=true:=by kernel_rfl) (hr:(Region.ready md ops listed).contains i=true:=by kernel_rfl)
  (hg:Region.wanted oi (yielded ops a.tmps)=true:=by first | kernel_rfl | rfl)
  (hy:∀w,(fun _=> True) w→(execOp a.eval oi).run P w= .ok (.value v) w:=by(intro w hSw; (try dsimp only at hSw);go_simp;try (with_reducible rfl)))
  (ha:a.put oi.dst v=a':=by((try simp only [Zpt]);try rfl))
  (hQ:∀c a w,Q (.panic c) (a.put oi.dst v) w→Q (.panic c) a w:=by exact fun _ _ _ h=> h):
  Zai P md ops Q S late (fuel+1) listed a w:=
 Za9 hi hs hf hr hQ (.inl ⟨hg,hy⟩) (by rw [ha];exact h)
theorem tkN (i:Nat) {oi:Oper} {v:Value} {fuel:Nat} {listed:Array Bool} {a a':Act} {w:World}
  (h:Zbl P md ops Q S n fuel (listed.setIfInBounds i true) a' w)
  (hi:ops[i]?=some oi:=by rfl)
  (hs:Region.noSelect ops=true:=by kernel_rfl) (hf:Region.free md ops listed i=true:=by kernel_rfl) (hr:(Region.ready md ops listed).contains i=true:=by kernel_rfl) (hin:(i==n)=false:=by kernel_rfl) (hwt:Zci md ops i 4 n=true:=by kernel_rfl) (hcl:Zcn md ops listed=true:=by kernel_rfl) (hS:S w:=by assumption)
  (hg:Region.wanted oi (yielded ops a.tmps)=true:=by first | kernel_rfl | rfl)
  (hy:∀w,S w→(execOp a.eval oi).run P w= .ok (.value v) w:=by(intro w hSw; (try dsimp only at hSw);go_simp;try (with_reducible rfl)))
  (ha:a.put oi.dst v=a':=by((try simp only [Zpt]);try rfl))
  (hQ:∀c a w,Q (.panic c) (a.put oi.dst v) w→Q (.panic c) a w:=by exact fun _ _ _ h=> h):
  Zbl P md ops Q S n (fuel+1) listed a w:=
 Zb2 hi hs hf hr hin hwt hcl hQ (.inl ⟨hg,hy⟩) hS (by rw [ha];exact h)
end
open Go.RowKit
def Zhv (x n:Int):Int:=(wrap64 (x.tmod n+n)).tmod n
theorem Zk2 (x n:Int) (n0:1≤n) (n1:n≤2305843009213693952):0≤Zhv x n∧Zhv x n<n:=by
 unfold Zhv
 have h1:=Int.tmod_lt_of_pos x (show 0<n by omega)
 have h2:=Int.lt_tmod_of_pos x (show 0<n by omega)
 have h3:wrap64 (x.tmod n+n)=x.tmod n+n:=by unfold wrap64;omega
 rw [h3,Int.tmod_eq_emod_of_nonneg (by omega)]
 exact⟨Int.emod_nonneg _ (by omega),Int.emod_lt_of_pos _ (by omega)⟩
theorem Ziy (x n:Int) (x0: -9223372036854775808≤x) (x1:x<9223372036854775808) (n0:1≤n) (n1:n≤2305843009213693952) (w:World):
  Calls Tryz.prog 90 #[.int .i64 x,.int .i64 n] w fun e w'=> e= .returned (.int .i64 (Zhv x n))∧w=w':=by
 go_enter Tryz.func90,Tryz.ntmps90
 go_wp2
 go_ret
 exact⟨rfl,rfl⟩
def IsDeck (w:World) (B g:Nat):Prop:=
 ∃(A:Option Addr) (n c:Nat) (at_:Nat) (zs:List Int),Blk w g 111 #[.slice A n c,.int .i64 at_]∧B≤g∧Rd w B A 1 n (zs.map (.int .i64))∧
  (∀z∈zs, -9223372036854775808≤z∧z<9223372036854775808)∧at_≤n∧n≤35184372088832
theorem IsDeck.kept {S:Nat→Prop} {w w':World} {B g:Nat} (h:IsDeck w B g) (k:Keeps S w w') (hg:¬S g) (hb:∀b,b<B→¬S b):IsDeck w' B g:=by
 obtain⟨A,n,c,at_,zs,h1,h2,h3,h4,h5,h6⟩:=h
 exact⟨A,n,c,at_,zs,h1.kept k hg,h2,h3.kept k hb,h4,h5,h6⟩
theorem IsDeck.lt {w:World} {B g:Nat} (h:IsDeck w B g):g<w.heap.size:=by
 obtain⟨A,n,c,at_,zs,h1,_⟩:=h
 exact h1.lt
theorem IsDeck.le {w:World} {B g:Nat} (h:IsDeck w B g):B≤g:=by
 obtain⟨A,n,c,at_,zs,_,h1,_⟩:=h
 exact h1
def Nexts (w:World) (B g:Nat) (n:Int) (e:Ending) (w':World):Prop:=
 ∃x:Int,e= .returned (.int .i64 x)∧0≤x∧x<n∧IsDeck w' B g∧Keeps (· =g) w w'
theorem next_any (n:Int) (n0:1≤n) (n1:n≤2305843009213693952) (B g:Nat) (w:World) (h:IsDeck w B g):
  Calls Tryz.prog 36 #[.pointer (some ⟨g,0,none⟩),.int .i64 n] w (Nexts w B g n):=by
 obtain⟨A,m,c,k,zs,h1,h2,h3,h4,h5,h6⟩:=h
 have hl:zs.length=m:=by simpa using h3.1
 have f0:=h1.cell 0
 have f1:=h1.cell 1
 have ff:=h1.frozen 1
 simp only [Zpg] at f0 f1
 by_cases hk:k<m
 ·obtain⟨b,off,rfl,hb,hc⟩:=h3.2 (by omega)
  have hcell:=hc k (.int .i64 (zs.getD k 0)) (by simp [List.getD,show k<zs.length by omega])
  have hz:=h4 (zs.getD k 0) (by rw [List.getD,List.getElem?_eq_getElem (by omega)];simp)
  have hbd:=Zk2 (zs.getD k 0) n n0 n1
  obtain⟨z,hz'⟩:∃z,z=zs.getD k 0:=⟨_,rfl⟩
  rw [←hz'] at hcell hz hbd
  have hne:b≠g:=by omega
  have H1:=zz h1
  have H3:=zz h3
  have H4:=zz h4
  clear h1 h3 hz' hc hl h4
  go_enter Tryz.func36,Tryz.ntmps36
  go_wp2
  go_quiet (fail)
  go_wp2
  obtain⟨w2,hw2⟩:∃w2,w2=(w.drewN nq).setCell ⟨g,1,none⟩ (.int .i64 ((k:Int)+1)):=⟨_,rfl⟩
  rw [←hw2]
  have b2:Blk w2 g 111 #[.slice (some ⟨b,off,none⟩) m c,.int .i64 ((k:Int)+1)]:=by rw [hw2];exact(H1.out.drewN nq).set 1 _
  have k2:Keeps (· =g) w w2:=by rw [hw2];exact Keeps.setCell (S:=(· =g)) (p:=⟨g,1,none⟩) ((Kz0 _ _).drewN nq) (.inl rfl) _
  have g0:=b2.cell 0
  have g1:=b2.cell 1
  simp only [Zpg] at g0 g1
  have g2:=k2.cell_some hcell (by simpa using hne)
  have e1:IntKind.i64.wrap ((k:Int)+1-1)=(k:Int):=by rw [IntKind.wrap_i64];omega
  have K2:=zz k2
  have B2:=zz b2
  clear hw2 f0 f1 ff hcell k2 b2 H1
  go_quiet ((go_at_call 90;exact Zbs (Ziy _ _ (by omega) (by omega) (by omega) (by omega) _)))
  go_wp2
  go_ret
  refine⟨_,rfl,hbd.1,hbd.2,⟨_,m,c,k+1,zs,B2.out.drewN _,h2,(H3.out.kept K2.out (by omega)).drewN _,H4.out,by omega,h6⟩,K2.out.drewN _⟩
 ·have H1:=zz h1
  have H3:=zz h3
  have H4:=zz h4
  clear h1 h3 hl h4
  go_enter Tryz.func36,Tryz.ntmps36
  go_wp2
  go_quiet (fail)
  go_wp2
  go_ret
  refine⟨0,rfl,by omega,by omega,⟨A,m,c,k,zs,H1.out.drewN _,h2,H3.out.drewN _,H4.out,h5,h6⟩,(Kz0 _ _).drewN _⟩
theorem Zrp (A:Option Addr) (n c:Nat) (zs:List Int) (B:Nat) (w:World) (hB:B≤w.heap.size) (hr:Rd w B A 1 n (zs.map (.int .i64)))
  (hz:∀z∈zs, -9223372036854775808≤z∧z<9223372036854775808) (hn:n≤35184372088832):
  Calls Tryz.prog 6 #[.slice A n c] w fun e w'=> e= .returned (.pointer (some ⟨w.heap.size,0,none⟩))∧w'=w.alloc (.cells #[.slice A n c,.int .i64 0] 111):=by
 go_enter Tryz.func6,Tryz.ntmps6
 go_wp2
 go_ret
 exact⟨rfl,rfl⟩
theorem IsDeck.made {A:Option Addr} {n c:Nat} {zs:List Int} {B:Nat} {w:World} (hB:B≤w.heap.size) (hr:Rd w B A 1 n (zs.map (.int .i64)))
  (hz:∀z∈zs, -9223372036854775808≤z∧z<9223372036854775808) (hn:n≤35184372088832):IsDeck (w.alloc (.cells #[.slice A n c,.int .i64 0] 111)) B w.heap.size:=
 ⟨A,n,c,0,zs,Blk.new _ _ _,hB,hr.kept (S:=fun _=> False) ((Kz0 _ _).alloc _) (fun _ _ h=> h),hz,by omega,hn⟩
def Decks (w:World) (B:Nat) (e:Ending) (w':World):Prop:=
 e= .returned (.pointer (some ⟨w.heap.size,0,none⟩))∧IsDeck w' B w.heap.size∧Keeps NO w w'
theorem new_deck (A:Option Addr) (n c:Nat) (zs:List Int) (B:Nat) (w:World) (hB:B≤w.heap.size) (hr:Rd w B A 1 n (zs.map (.int .i64)))
  (hz:∀z∈zs, -9223372036854775808≤z∧z<9223372036854775808) (hn:n≤35184372088832):Calls Tryz.prog 6 #[.slice A n c] w (Decks w B):=
 (Zrp A n c zs B w hB hr hz hn).mono fun e w' ⟨he,hw⟩=> ⟨he,by rw [hw];exact IsDeck.made hB hr hz hn,by rw [hw];exact(Kz0 _ _).alloc _⟩
def Words (w:World) (B g:Nat) (e:Ending) (w':World):Prop:=
 ∃x:Int,e= .returned (.int .u64 x)∧0≤x∧x<18446744073709551616∧IsDeck w' B g∧Keeps (· =g) w w'
theorem word_any (B g:Nat) (w:World) (h:IsDeck w B g):Calls Tryz.prog 40 #[.pointer (some ⟨g,0,none⟩)] w (Words w B g):=by
 have hB:=h.le
 go_enter Tryz.func40,Tryz.ntmps40
 go_wp2_with fail
 refine(next_any 4294967296 (by omega) (by omega) B g _ h).mono ?_
 rintro e w1 ⟨x,rfl,x0,x1,h1,k1⟩
 have K1:=zz k1
 clear k1
 go_wp2_with fail
 refine(next_any 4294967296 (by omega) (by omega) B g _ h1).mono ?_
 rintro e w2 ⟨y,rfl,y0,y1,h2,k2⟩
 have K2:=zz k2
 clear k2
 go_wp2_with fail
 go_ret
 exact⟨_,rfl,(Zdg (wf_bits _ _ _ _)).1,(Zdg (wf_bits _ _ _ _)).2,h2,K1.out.trans K2.out⟩
def Tables (w:World) (B g:Nat) (e:Ending) (w':World):Prop:=
 ∃(b:Nat) (zs:List Int),e= .returned (.slice (some ⟨b,0,none⟩) 16 16)∧zs.length=16∧(∀z∈zs,0≤z∧z<18446744073709551616)∧Blk w' b 23 (zs.map (.int .u64)).toArray∧w.heap.size≤b∧IsDeck w' B g∧Keeps (· =g) w w'
theorem table_any (B g:Nat) (w:World) (h:IsDeck w B g):Calls Tryz.prog 39 #[.pointer (some ⟨g,0,none⟩)] w (Tables w B g):=by
 have hg:=h.lt
 have hmk:∀w,(Instr.makeSlice 25 (.int .i64 16) (.int .i64 16)).run Tryz.prog w= .ok (.slice (some ⟨w.heap.size,0,none⟩) 16 16) (w.alloc (.cells (Array.replicate 16 (.int .u64 0)) 23)):=fun _=> by kernel_rfl
 have hd:=h.kept (S:=fun _=> False) ((Kz0 _ w).alloc (.cells (Array.replicate 16 (.int .u64 0)) 23)) (fun hh=> hh) (fun _ _ hh=> hh)
 have hb:=Blk.new w 23 (Array.replicate 16 (.int .u64 0))
 have hk:=(Kz0 (· =g) w).alloc (.cells (Array.replicate 16 (.int .u64 0)) 23)
 go_enter Tryz.func39,Tryz.ntmps39
 go_wp2_with fail
 obtain⟨w1,hw1⟩:∃w1,w1=w.alloc (.cells (Array.replicate 16 (.int .u64 0)) 23):=⟨_,rfl⟩
 rw [←hw1] at hd hb hk ⊢
 have HB:=zz hb
 have HK:=zz hk
 clear hw1 hb hk hmk h
 refine(next_any 4 (by omega) (by omega) B g _ hd).mono ?_
 rintro e w2 ⟨x,rfl,x0,x1,h2,k2⟩
 have b2:=HB.out.kept k2 (by omega)
 have HK2:=zz (HK.out.trans k2)
 clear k2 hd HB HK w1
 rcases Bool.eq_false_or_eq_true (x==1) with hx | hx
 ·go_wp2_with fail
  go_loopw [12] (fun i wr=> ∃(k:Nat) (zs:List Int),k≤16∧i= .int .i64 k∧zs.length=16∧(∀z∈zs,0≤z∧z<18446744073709551616)∧Blk wr w.heap.size 23 (zs.map (.int .u64)).toArray∧IsDeck wr B g∧Keeps (· =g) w wr) (fun i _=> 16-(intOf i).toNat)
  case atStart=> exact⟨0,List.replicate 16 0,by omega,rfl,rfl,by decide,b2,h2,HK2.out⟩
  case round=>
   obtain⟨k,zs,hk,rfl,hl,hz,bz,dz,kz⟩:=hrel
   have BZ:=zz bz
   have KZ:=zz kz
   have HZ:=zz hz
   have HL:=zz hl
   clear hl hz bz kz
   by_cases hlt:k<16
   ·go_wp2_with fail
    go_roundw
    case rel=> exact⟨k+1,zs,by omega,by go_num,HL.out,HZ.out,BZ.out,dz,KZ.out⟩
    case measure=> simp [intOf];omega
   ·go_wp2_with fail
    go_ret
    exact⟨w.heap.size,zs,rfl,HL.out,HZ.out,BZ.out,Nat.le_refl _,dz,KZ.out⟩
 ·go_wp2_with fail
  go_loopw [12] (fun i wr=> ∃(k:Nat) (zs:List Int),k≤16∧i= .int .i64 k∧zs.length=16∧(∀z∈zs,0≤z∧z<18446744073709551616)∧Blk wr w.heap.size 23 (zs.map (.int .u64)).toArray∧IsDeck wr B g∧Keeps (· =g) w wr) (fun i _=> 16-(intOf i).toNat)
  case atStart=> exact⟨0,List.replicate 16 0,by omega,rfl,rfl,by decide,b2,h2,HK2.out⟩
  case round=>
   obtain⟨k,zs,hk,rfl,hl,hz,bz,dz,kz⟩:=hrel
   have BZ:=zz bz
   have KZ:=zz kz
   have HZ:=zz hz
   have HL:=zz hl
   clear hl hz bz kz
   by_cases hlt:k<16
   ·go_wp2_with fail
    refine(word_any B g _ dz).mono ?_
    rintro e w3 ⟨y,rfl,y0,y1,h3,k3⟩
    have b3:=BZ.out.kept k3 (by omega)
    have hc3:=b3.cell k
    have hf3:=b3.frozen k
    rw [show((zs.map (Value.int .u64)).toArray)[k]?=some (.int .u64 (zs.getD k 0)) from by
     have:=HL.out;simp [List.getD,show k<zs.length by omega]] at hc3
    have K3:=zz (KZ.out.trans k3)
    have B3:=zz b3
    clear k3 b3 BZ KZ
    go_wp2_with fail
    go_roundw
    case rel=>
     refine⟨k+1,zs.set k y,by omega,by go_num,by simpa using HL.out,?_,?_,?_,?_⟩
     ·intro z hz
      rcases List.mem_or_eq_of_mem_set hz with h | rfl
      ·exact HZ.out z h
      ·exact⟨y0,y1⟩
     ·have:=B3.out.set k (.int .u64 y)
      simpa [List.map_set] using this
     ·exact h3.kept (Keeps.setCell (S:=(· =w.heap.size)) (p:=⟨w.heap.size,k,none⟩) (Kz0 _ _) (.inl rfl) _) (by omega) (by have:=h3.le;intro b hb;omega)
     ·exact Keeps.setCell (p:=⟨w.heap.size,k,none⟩) K3.out (.inr (Nat.le_refl _)) _
    case measure=> simp [intOf];omega
   ·go_wp2_with fail
    go_ret
    exact⟨w.heap.size,zs,rfl,HL.out,HZ.out,BZ.out,Nat.le_refl _,dz,KZ.out⟩
open Go.RowKit Cfp
abbrev cfC (c:Cfg) (C:Option Addr) (n k:Nat) (T:Option Addr) (m j:Nat):Array Value:= #[.int .i64 c.length,.int .i64 c.lateness,.int .i64 c.windows,.int .i64 c.shards,.int .i64 c.spread,.int .i64 c.queue,.int .i64 c.mode,.int .i64 c.slots,.int .i64 c.exact_,.int .u64 c.promote,.int .i64 c.depth,.int .i64 c.width,.int .i64 c.top,.int .i64 c.key,.slice C n k,.slice T m j,.int .u64 c.seed]
structure Fine (c:Cfg):Prop where
 length:1≤c.length∧c.length≤1048576
 lateness:0≤c.lateness∧c.lateness≤1048576
 windows:1≤c.windows∧c.windows≤8
 shards:1≤c.shards∧c.shards≤8
 spread:1≤c.spread∧c.spread≤c.shards
 queue:1≤c.queue∧c.queue≤64
 mode:1≤c.mode∧c.mode≤2
 slots:1≤c.slots∧c.slots≤64
 exact_:0≤c.exact_∧c.exact_≤32
 promote:0≤c.promote∧c.promote<18446744073709551616
 depth:1≤c.depth∧c.depth≤4
 width:1≤c.width∧c.width≤256
 top:1≤c.top∧c.top≤64
 key:1≤c.key∧c.key≤255
 seed:0≤c.seed∧c.seed<18446744073709551616
theorem Zip (c:Cfg) (h:Fine c) (C T:Option Addr) (n k m j:Nat) (w:World):
  Calls Tryz.prog 150 #[Value.agg (cfC c C n k T m j)] w fun e w'=> e= .returned (.int .i64 0)∧w'=w.alloc (.cells (cfC c C n k T m j) 27):=by
 have h1:=h.length
 have h2:=h.lateness
 have h3:=h.windows
 go_enter Tryz.func150,Tryz.ntmps150
 go_wp2_with fail
 go_ret
 exact⟨rfl,rfl⟩
theorem Zfy (c:Cfg) (h:Fine c) (C T:Option Addr) (n k j:Nat) (w:World):
  Calls Tryz.prog 151 #[Value.agg (cfC c C n k T 16 j)] w fun e w'=> e= .returned (.int .i64 0)∧w'=w.alloc (.cells (cfC c C n k T 16 j) 27):=by
 have h1:=h.shards
 have h2:=h.spread
 go_enter Tryz.func151,Tryz.ntmps151
 go_wp2_with (go_at_call 211;refine(Hash.rcheck_16 _ _ _).mono ?_;rintro e w1 ⟨rfl,rfl⟩)
 go_ret
 exact⟨rfl,rfl⟩
def clv:List (Int × Int)→List Value
 | []=> []
 | c :: l=> .int .i64 c.1 :: .int .i64 c.2 :: clv l
theorem Zax:∀l:List (Int × Int),(clv l).length=l.length*2
 | []=> rfl
 | c :: l=> by simp [clv,Zax l];omega
theorem Zbb:∀(l:List (Int × Int)) (i:Nat) (c:Int × Int),l[i]?=some c→(clv l)[i*2]?=some (.int .i64 c.1)∧(clv l)[i*2+1]?=some (.int .i64 c.2)
 | [],_,_,h=> by simp at h
 | d :: l,0,c,h=> by simp at h;subst h;exact⟨rfl,rfl⟩
 | d :: l,i+1,c,h=> by
   have:=Zbb l i c (by simpa using h)
   rw [show(i+1)*2=i*2+1+1 from by omega]
   simpa [clv] using this
def fitV (l:List (Int × Int)) (x:Int) (n:Nat):Value:=if fit l x<n then .tuple #[.int .i64 (fit l x),.int .i64 0] else .tuple #[.int .i64 0,.int .i64 1]
theorem Zm5 {l:List (Int × Int)} {x:Int} {n:Nat} (h:fit l x<n):fitV l x n= .tuple #[.int .i64 (fit l x),.int .i64 0]:=if_pos h
theorem Zsk {l:List (Int × Int)} {x:Int} {n:Nat} (h:¬fit l x<n):fitV l x n= .tuple #[.int .i64 0,.int .i64 1]:=if_neg h
theorem Zsj (l:List (Int × Int)) (hl:∀c∈l,1≤c.1∧c.1≤4096∧0≤c.2∧c.2≤65536) (C:Option Addr) (n k B:Nat) (w:World) (hr:Rd w B C 2 n (clv l)) (hB:B≤w.heap.size) (hn:n≤140737488351232) (x:Int) (x0:1≤x) (x1:x≤4096):
  Calls Tryz.prog 97 #[.slice C n k,.int .i64 x] w fun e w'=> e= .returned (fitV l x n)∧Keeps NO w w':=by
 have hlen:l.length=n:=by have:=hr.1;rw [Zax] at this;omega
 have HL:=zz hlen
 have HR:=zz hr
 have HC:=zz hl
 clear hlen hr hl
 go_enter Tryz.func97,Tryz.ntmps97
 go_wp2_with fail
 go_loopw [6,7,12] (fun _ _ i wr=> ∃j:Nat,j≤n∧i= .int .i64 j∧j≤fit l x∧Keeps NO w wr) (fun _ _ i _=> n-(intOf i).toNat)
 case atStart=> exact⟨0,by omega,rfl,by omega,Kz0 _ _⟩
 case round=>
  obtain⟨j,hj,rfl,hjf,kp⟩:=hrel
  by_cases hlt:j<n
  ·obtain⟨c,hc⟩:∃c,l[j]?=some c:=⟨l[j]'(by have:=HL.out;omega),by simp⟩
   have hcl:l[j]'(by have:=HL.out;omega)=c:=by rw [List.getElem?_eq_getElem (by have:=HL.out;omega)] at hc;injection hc
   have hb:=HC.out c (List.mem_of_getElem? hc)
   obtain⟨b,off,rfl,hbB,hcell⟩:=(HR.out.kept kp (fun _ _ h=> h)).2 (by omega)
   obtain⟨g1,g2⟩:=Zbb l j c hc
   have f1:=hcell _ _ g1
   have f2:=hcell _ _ g2
   rw [←Nat.add_assoc] at f2
   have hltI:(j:Int)<(n:Int):=by omega
   have KP:=zz kp
   by_cases hx:x≤c.1
   ·have hfit:fit l x=j:=by
     rcases Nat.lt_or_ge j (fit l x) with h | h
     ·have:=Zc0 l x j h (by have:=HL.out;omega)
      rw [hcl] at this;omega
     ·omega
    have HV:=zz (Zm5 (n:=n) (show fit l x<n by omega))
    rw [hfit] at HV
    clear hcell g1 g2 hc hcl kp hfit hjf
    go_wp2_with fail
    go_ret2
    exact⟨by rw [HV.out];rfl,KP.out.alloc _⟩
   ·have hfit:j+1≤fit l x:=by
     rcases Nat.lt_or_ge j (fit l x) with h | h
     ·omega
     ·exfalso
      have h2:fit l x=j:=by omega
      have:=Zeo l x (by have:=HL.out;omega)
      simp only [h2,hcl] at this
      omega
    have HF:=zz hfit
    clear hcell g1 g2 hc hcl kp hfit hjf
    go_wp2_with fail
    go_roundw
    case rel=> exact⟨j+1,by omega,by go_num,HF.out,KP.out.alloc _⟩
    case measure=> simp [intOf];omega
  ·have:¬fit l x<n:=by omega
   have HV:=zz (Zsk this)
   clear this
   have KP:=zz kp
   clear kp
   go_wp2_with fail
   go_ret2
   exact⟨by rw [HV.out];rfl,KP.out⟩
theorem Zir (l:List (Int × Int)) (h:Za7 l=0) (i:Nat) (c d:Int × Int) (hc:l[i]?=some c) (hd:l[i+1]?=some d):c.1<d.1:=by
 have h1:Zab 0 l=0:=by
  unfold Za7 at h
  split at h
  ·simp at h
  ·exact h
 obtain⟨h2,_⟩:=Zgp l 0 h1
 obtain⟨hi,rfl⟩:=List.getElem?_eq_some_iff.1 hc
 obtain⟨hj,rfl⟩:=List.getElem?_eq_some_iff.1 hd
 exact Zet l 0 h2 i (i+1) hi hj (by omega)
theorem Zan (l:List (Int × Int)) (h:Za7 l=0):(1≤l.length∧l.length≤8)∧∀c∈l,1≤c.1∧c.1≤4096∧0≤c.2∧c.2≤65536:=by
 unfold Za7 at h
 split at h
 ·simp at h
 ·exact⟨by omega,(Zgp l 0 h).2⟩
theorem Zes (l:List (Int × Int)) (h:Za7 l=0) (C:Option Addr) (n k B:Nat) (w:World) (hr:Rd w B C 2 n (clv l)) (hB:B≤w.heap.size):
  Calls Tryz.prog 152 #[.slice C n k] w fun e w'=> e= .returned (.int .i64 0)∧Keeps NO w w':=by
 obtain⟨⟨n0,n1⟩,hb⟩:=Zan l h
 have hlen:l.length=n:=by have:=hr.1;rw [Zax] at this;omega
 rw [hlen] at n0 n1
 have HL:=zz hlen
 have HR:=zz hr
 have HC:=zz hb
 have HS:=zz (Zir l h)
 have e0:((n:Int)==0)=false:=by simp;omega
 clear hlen hr hb h
 go_enter Tryz.func152,Tryz.ntmps152
 go_wp2_with fail
 go_loopw [3,4,15] (fun _ _ i wr=> ∃j:Nat,j≤n∧i= .int .i64 j∧Keeps NO w wr) (fun _ _ i _=> n-(intOf i).toNat)
 case atStart=> exact⟨0,by omega,rfl,Kz0 _ _⟩
 case round=>
  obtain⟨j,hj,rfl,kp⟩:=hrel
  by_cases hlt:j<n
  ·obtain⟨c,hc⟩:∃c,l[j]?=some c:=⟨l[j]'(by have:=HL.out;omega),by simp⟩
   have hbc:=HC.out c (List.mem_of_getElem? hc)
   obtain⟨b,off,rfl,hbB,hcell⟩:=(HR.out.kept kp (fun _ _ h=> h)).2 (by omega)
   obtain⟨g1,g2⟩:=Zbb l j c hc
   have f1:=hcell _ _ g1
   have f2:=hcell _ _ g2
   rw [←Nat.add_assoc] at f2
   have hltI:(j:Int)<(n:Int):=by omega
   have hsz:=kp.size
   have KP:=zz kp
   rcases j with _ | i
   ·simp only [Nat.zero_mul,Nat.add_zero] at f1 f2
    clear hcell g1 g2 hc kp
    go_wp2_with fail
    go_quiet (fail)
    go_wp2_with fail
    go_roundw
    case rel=> exact⟨1,by omega,by go_num,(KP.out.alloc _).drewN _⟩
    case measure=> simp [intOf];omega
   ·obtain⟨d,hd⟩:∃d,l[i]?=some d:=⟨l[i]'(by have:=HL.out;omega),by simp⟩
    have hcd:=HS.out i d c hd hc
    have f3:=hcell _ _ (Zbb l i d hd).1
    have f4:∀o,(wr.alloc o).cell? ⟨b,off+i*2,none⟩=some (.int .i64 d.1):=fun o=> ((Kz0 NO wr).alloc o).cell_some f3 (fun h=> h)
    have e1:IntKind.i64.wrap (((i+1:Nat):Int)-1)=(i:Int):=by rw [IntKind.wrap_i64];omega
    have e2:((((i+1:Nat):Int) > 0):Prop):=by omega
    have hin:(i:Int)<(n:Int):=by omega
    have E1:=zz e1
    clear hcell g1 g2 hc hd kp e1
    go_wp2_with fail
    have e1:=E1.out
    go_quiet (fail)
    go_wp2_with fail
    go_roundw
    case rel=> exact⟨i+1+1,by omega,by go_num,(KP.out.alloc _).drewN _⟩
    case measure=> simp [intOf];omega
  ·have KP:=zz kp
   clear kp
   go_wp2_with fail
   go_ret
   exact⟨rfl,KP.out⟩
open Go.RowKit Cfp
theorem Zah {ops:Array Oper} {rest:List Oper} {o:Oper} {a:Act} {w:World} {Q:Exit→Act→World→Prop} {c:Cfg} {C T:Option Addr} {n k q j g:Nat} (x:Operand) (ho:o.op= .load 27 x)
  (hg:Blk w g 27 (cfC c C n k T q j)) (hx:a.eval x= .pointer (some ⟨g,0,none⟩)) (hw:Region.wanted o (yielded ops a.tmps)=true)
  (h:wpList Tryz.prog ops Q rest (a.put o.dst (Value.agg (cfC c C n k T q j))) w):wpList Tryz.prog ops Q (o :: rest) a w:=by
 show if Region.wanted o (yielded ops a.tmps) then _ else _
 rw [if_pos hw]
 exact .inl (wp_load_row 27 x ho g hx 27 _ (0,0) _ hg Tryz.underlying27 rfl (by kernel_rfl) h)
theorem Zbg {ops:Array Oper} {S:World→Prop} {o:Oper} {a:Act} {c:Cfg} {C T:Option Addr} {n k q j g:Nat} (x:Operand) (ho:o.op= .load 27 x)
  (hS:∀w',S w'→Blk w' g 27 (cfC c C n k T q j)) (hx:a.eval x= .pointer (some ⟨g,0,none⟩)) (hw:Region.wanted o (yielded ops a.tmps)=true):
  YieldsIf Tryz.prog ops S o (Value.agg (cfC c C n k T q j)) a:=by
 refine .inl ⟨hw,fun w h=> ?_⟩
 have hr:=run_loadVar_row (P:=Tryz.prog) w g 27 27 (cfC c C n k T q j) (0,0) _ (hS w h) Tryz.underlying27 rfl (by kernel_rfl)
 unfold execOp
 simp only [ho,hx,Instr.loadAt,Instr.sureAddr,Sem.run_bind,Sem.run_pure,Result.andThen_ok,hr]
open Go.RowKit
namespace Nil
def IsDeck (w:World) (B g:Nat):Prop:=
 ∃(A:Option Addr) (c:Nat),Blk w g 111 #[.slice A 0 c,.int .i64 0]∧B≤g
theorem IsDeck.kept {S:Nat→Prop} {w w':World} {B g:Nat} (h:IsDeck w B g) (k:Keeps S w w') (hg:¬S g) (hb:∀b,b<B→¬S b):IsDeck w' B g:=by
 obtain⟨A,c,h1,h2⟩:=h
 exact⟨A,c,h1.kept k hg,h2⟩
theorem IsDeck.lt {w:World} {B g:Nat} (h:IsDeck w B g):g<w.heap.size:=by
 obtain⟨A,c,h1,_⟩:=h
 exact h1.lt
theorem IsDeck.le {w:World} {B g:Nat} (h:IsDeck w B g):B≤g:=by
 obtain⟨A,c,_,h1⟩:=h
 exact h1
def Nexts (w:World) (B g:Nat) (n:Int) (e:Ending) (w':World):Prop:=
 ∃x:Int,e= .returned (.int .i64 x)∧0≤x∧x<1∧IsDeck w' B g∧Keeps (· =g) w w'
theorem next_any (n:Int) (n0:1≤n) (n1:n≤2305843009213693952) (B g:Nat) (w:World) (h:IsDeck w B g):
  Calls Tryz.prog 36 #[.pointer (some ⟨g,0,none⟩),.int .i64 n] w (Nexts w B g n):=by
 obtain⟨A,c,h1,h2⟩:=h
 have f0:=h1.cell 0
 have f1:=h1.cell 1
 simp only [Zpg] at f0 f1
 have H1:=zz h1
 clear h1
 go_enter Tryz.func36,Tryz.ntmps36
 go_wp2
 go_quiet (fail)
 go_wp2
 go_ret
 refine⟨0,rfl,by omega,by omega,⟨A,c,H1.out.drewN _,h2⟩,(Kz0 _ _).drewN _⟩
theorem IsDeck.made {A:Option Addr} {c:Nat} {B:Nat} {w:World} (hB:B≤w.heap.size):IsDeck (w.alloc (.cells #[.slice A 0 c,.int .i64 0] 111)) B w.heap.size:=
 ⟨A,c,Blk.new _ _ _,hB⟩
def Decks (w:World) (B:Nat) (e:Ending) (w':World):Prop:=
 e= .returned (.pointer (some ⟨w.heap.size,0,none⟩))∧IsDeck w' B w.heap.size∧Keeps NO w w'
theorem new_deck (A:Option Addr) (c:Nat) (B:Nat) (w:World) (hB:B≤w.heap.size):Calls Tryz.prog 6 #[.slice A 0 c] w (Decks w B):=by
 go_enter Tryz.func6,Tryz.ntmps6
 go_wp2
 go_ret
 exact⟨rfl,IsDeck.made hB,(Kz0 _ _).alloc _⟩
def Words (w:World) (B g:Nat) (e:Ending) (w':World):Prop:=
 ∃x:Int,e= .returned (.int .u64 x)∧0≤x∧x<1∧IsDeck w' B g∧Keeps (· =g) w w'
theorem word_any (B g:Nat) (w:World) (h:IsDeck w B g):Calls Tryz.prog 40 #[.pointer (some ⟨g,0,none⟩)] w (Words w B g):=by
 have hB:=h.le
 go_enter Tryz.func40,Tryz.ntmps40
 go_wp2_with fail
 refine(next_any 4294967296 (by omega) (by omega) B g _ h).mono ?_
 rintro e w1 ⟨x,rfl,x0,x1,h1,k1⟩
 have K1:=zz k1
 clear k1
 go_wp2_with fail
 refine(next_any 4294967296 (by omega) (by omega) B g _ h1).mono ?_
 rintro e w2 ⟨y,rfl,y0,y1,h2,k2⟩
 have K2:=zz k2
 clear k2
 go_wp2_with fail
 obtain rfl:x=0:=by omega
 obtain rfl:y=0:=by omega
 go_ret
 exact⟨_,rfl,by decide,by decide,h2,K1.out.trans K2.out⟩
def Tables (w:World) (B g:Nat) (e:Ending) (w':World):Prop:=
 ∃(b:Nat) (zs:List Int),e= .returned (.slice (some ⟨b,0,none⟩) 16 16)∧zs.length=16∧(∀z∈zs,0≤z∧z<1)∧Blk w' b 23 (zs.map (.int .u64)).toArray∧w.heap.size≤b∧IsDeck w' B g∧Keeps (· =g) w w'
theorem table_any (B g:Nat) (w:World) (h:IsDeck w B g):Calls Tryz.prog 39 #[.pointer (some ⟨g,0,none⟩)] w (Tables w B g):=by
 have hg:=h.lt
 have hmk:∀w,(Instr.makeSlice 25 (.int .i64 16) (.int .i64 16)).run Tryz.prog w= .ok (.slice (some ⟨w.heap.size,0,none⟩) 16 16) (w.alloc (.cells (Array.replicate 16 (.int .u64 0)) 23)):=fun _=> by kernel_rfl
 have hd:=h.kept (S:=fun _=> False) ((Kz0 _ w).alloc (.cells (Array.replicate 16 (.int .u64 0)) 23)) (fun hh=> hh) (fun _ _ hh=> hh)
 have hb:=Blk.new w 23 (Array.replicate 16 (.int .u64 0))
 have hk:=(Kz0 (· =g) w).alloc (.cells (Array.replicate 16 (.int .u64 0)) 23)
 go_enter Tryz.func39,Tryz.ntmps39
 go_wp2_with fail
 obtain⟨w1,hw1⟩:∃w1,w1=w.alloc (.cells (Array.replicate 16 (.int .u64 0)) 23):=⟨_,rfl⟩
 rw [←hw1] at hd hb hk ⊢
 have HB:=zz hb
 have HK:=zz hk
 clear hw1 hb hk hmk h
 refine(next_any 4 (by omega) (by omega) B g _ hd).mono ?_
 rintro e w2 ⟨x,rfl,x0,x1,h2,k2⟩
 have b2:=HB.out.kept k2 (by omega)
 have HK2:=zz (HK.out.trans k2)
 clear k2 hd HB HK w1
 have hx:(x==1)=false:=by simp;omega
 ·skip
  go_wp2_with fail
  go_loopw [12] (fun i wr=> ∃(k:Nat) (zs:List Int),k≤16∧i= .int .i64 k∧zs.length=16∧(∀z∈zs,0≤z∧z<1)∧Blk wr w.heap.size 23 (zs.map (.int .u64)).toArray∧IsDeck wr B g∧Keeps (· =g) w wr) (fun i _=> 16-(intOf i).toNat)
  case atStart=> exact⟨0,List.replicate 16 0,by omega,rfl,rfl,by decide,b2,h2,HK2.out⟩
  case round=>
   obtain⟨k,zs,hk,rfl,hl,hz,bz,dz,kz⟩:=hrel
   have BZ:=zz bz
   have KZ:=zz kz
   have HZ:=zz hz
   have HL:=zz hl
   clear hl hz bz kz
   by_cases hlt:k<16
   ·go_wp2_with fail
    refine(word_any B g _ dz).mono ?_
    rintro e w3 ⟨y,rfl,y0,y1,h3,k3⟩
    have b3:=BZ.out.kept k3 (by omega)
    have hc3:=b3.cell k
    have hf3:=b3.frozen k
    rw [show((zs.map (Value.int .u64)).toArray)[k]?=some (.int .u64 (zs.getD k 0)) from by
     have:=HL.out;simp [List.getD,show k<zs.length by omega]] at hc3
    have K3:=zz (KZ.out.trans k3)
    have B3:=zz b3
    clear k3 b3 BZ KZ
    go_wp2_with fail
    go_roundw
    case rel=>
     refine⟨k+1,zs.set k y,by omega,by go_num,by simpa using HL.out,?_,?_,?_,?_⟩
     ·intro z hz
      rcases List.mem_or_eq_of_mem_set hz with h | rfl
      ·exact HZ.out z h
      ·exact⟨y0,y1⟩
     ·have:=B3.out.set k (.int .u64 y)
      simpa [List.map_set] using this
     ·exact h3.kept (Keeps.setCell (S:=(· =w.heap.size)) (p:=⟨w.heap.size,k,none⟩) (Kz0 _ _) (.inl rfl) _) (by omega) (by have:=h3.le;intro b hb;omega)
     ·exact Keeps.setCell (p:=⟨w.heap.size,k,none⟩) K3.out (.inr (Nat.le_refl _)) _
    case measure=> simp [intOf];omega
   ·go_wp2_with fail
    go_ret
    exact⟨w.heap.size,zs,rfl,HL.out,HZ.out,BZ.out,Nat.le_refl _,dz,KZ.out⟩
end Nil
end Go.Proofs.YtjamiaamngalgaaGreat
