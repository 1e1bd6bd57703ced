/-
  Parts: Slices of the call's own. No conditions beyond those of the statement.
-/
import Derived.Test.YtjamiaamngalgaaGreatG01
import Derived.Deep.AppendSrc
set_option linter.unusedVariables false
set_option linter.unusedSimpArgs false
set_option maxRecDepth 1000000
set_option maxHeartbeats 4000000
namespace Go.Proofs.YtjamiaamngalgaaGreat
open Go.RowKit Go.ChangeShapes Go.WideShapes
def OwnT (w:World) (base:Nat) (e:TypeId) (sz:Nat) (A:Option Addr) (n c:Nat) (xs:List Value):Prop:=
 xs.length=n*sz∧n≤c∧c≤maxLen∧(0<c→∃g off cur,A=some ⟨g,off,none⟩∧base≤g∧w.heap[g]?=some (.cells cur e (0,0))∧off+c*sz≤cur.size∧∀j,j<n*sz→cur[off+j]?=xs[j]?)∧
  (∀k,inB A k→base≤k∧∃cur,w.heap[k]?=some (.cells cur e (0,0)))
section
variable {w w':World} {S:Nat→Prop} {base n c sz:Nat} {e:TypeId} {A:Option Addr} {xs:List Value}
theorem OwnT.of (h:Own w base e sz A n c xs):OwnT w base e sz A n c xs:=by
 refine⟨h.len,h.le,?_,fun hc=> ?_,fun k hk=> ⟨(h.inB hk).1,?_⟩⟩
 ·rcases h.form with ⟨_,_,h2⟩ | ⟨g,_,_,_,_,h2⟩ <;> simp only [maxLen] at* <;> omega
 ·rcases h.2 with ⟨hv,h0⟩ | ⟨g,cap,cur,hv,hb,hg,hn',hcm,hsz,ht⟩
  ·injection hv with _ _ h3
   omega
  ·injection hv with h1 h2 h3
   subst h1 h3
   refine⟨g,0,cur,rfl,hb,hg,by omega,fun j hj=> ?_⟩
   rw [Nat.zero_add,←ht,List.getElem?_take,if_pos hj]
   simp
 ·obtain⟨cs,hb⟩:=h.blk hk
  exact⟨cs,hb⟩
theorem OwnT.nil (w:World) (base:Nat) (e:TypeId) (sz:Nat):OwnT w base e sz none 0 0 []:= .of (.nil _ _ _ _)
theorem OwnT.len (h:OwnT w base e sz A n c xs):xs.length=n*sz:=h.1
theorem OwnT.le (h:OwnT w base e sz A n c xs):n≤c:=h.2.1
theorem OwnT.kept (h:OwnT w base e sz A n c xs) (k:Keeps S w w') (hs:∀b,Go.Proofs.YtjamiaamngalgaaGreat.inB A b→¬S b):OwnT w' base e sz A n c xs:=by
 refine⟨h.1,h.2.1,h.2.2.1,fun hc=> ?_,fun b hb=> ?_⟩
 ·obtain⟨g,off,cur,rfl,h1,h2,h3⟩:=h.2.2.2.1 hc
  exact⟨g,off,cur,rfl,h1,(k.block g (lt_of_block h2) (hs g ((Za0 _ _ _).2 rfl))).trans h2,h3⟩
 ·obtain⟨h1,cur,h2⟩:=h.2.2.2.2 b hb
  exact⟨h1,cur,(k.block b (lt_of_block h2) (hs b hb)).trans h2⟩
theorem OwnT.rd (h:OwnT w base e sz A n c xs):Rd w w.heap.size A sz n xs:=by
 refine⟨h.1,fun hn=> ?_⟩
 obtain⟨g,off,cur,rfl,h1,h2,h3,h4⟩:=h.2.2.2.1 (by have:=h.2.1;omega)
 refine⟨g,off,rfl,lt_of_block h2,fun j u hu=> ?_⟩
 rw [cell_of_row w g (off+j) cur e (0,0) h2]
 have hj:=(List.getElem?_eq_some_iff.1 hu).1
 rw [h.1] at hj
 rw [h4 j hj,hu]
theorem OwnT.inB (h:OwnT w base e sz A n c xs) {k:Nat} (hk:inB A k):base≤k∧k<w.heap.size:=by
 obtain⟨h1,cur,h2⟩:=h.2.2.2.2 k hk
 exact⟨h1,lt_of_block h2⟩
theorem OwnT.blk (h:OwnT w base e sz A n c xs) {b:Nat} (hb:Go.Proofs.YtjamiaamngalgaaGreat.inB A b):∃cs,Blk w b e cs:=by
 obtain⟨_,cur,h2⟩:=h.2.2.2.2 b hb
 exact⟨cur,h2⟩
theorem OwnT.drop {P:Program} {t:TypeId} {bytes:Nat} (E:ElemOf P t e sz bytes) (k:IntKind) (x:Int) (h0:0≤x) (h1:x≤n) (hnc:n≤c):
  ∃A',(∀w,(Instr.sliceAt t (.slice A n c) (some (.int k x)) none none).run P w= .ok (.slice A' (n-x.toNat) (c-x.toNat)) w)∧
   (∀w base xs,OwnT w base e sz A n c xs→OwnT w base e sz A' (n-x.toNat) (c-x.toNat) (xs.drop (x.toNat*sz)))∧(∀j,Go.Proofs.YtjamiaamngalgaaGreat.inB A' j→Go.Proofs.YtjamiaamngalgaaGreat.inB A j):=by
 obtain⟨ht,⟨i,z,hi,hz,hsize,hby,hzs⟩,hpos⟩:=E
 have hel:P.elem t=e:=by simp [Program.elem,ht]
 have hin:∀j,Go.Proofs.YtjamiaamngalgaaGreat.inB (if c=x.toNat then A else A.map (·.add (x.toNat*sz))) j→Go.Proofs.YtjamiaamngalgaaGreat.inB A j:=by
  intro j hj
  obtain⟨ad,h,rfl⟩:=hj
  split at h
  ·exact⟨ad,h,rfl⟩
  ·cases A with
   | none=> cases h
   | some a=> simp at h;subst h;exact⟨a,rfl,by unfold Addr.add;split <;> rfl⟩
 refine⟨if c=x.toNat then A else A.map (·.add (x.toNat*sz)),fun w=> ?_,fun w base xs hr=> ⟨?_,?_,?_,fun hc=> ?_,fun b hb=> hr.2.2.2.2 b (hin b hb)⟩,hin⟩
 ·rw [run_sliceAt_slice _ _ _ _ _ _ (by rw [hel];exact ht),run_slice_l _ _ _ _ _ (by rw [hel];exact ht) _ _ h0 h1]
  simp [sizeOf,typeInfo,hel,hi,hsize,sliced]
 ·rw [List.length_drop,hr.1,Nat.sub_mul]
 ·omega
 ·have:=hr.2.2.1
  omega
 ·obtain⟨g,off,cur,rfl,hb,hg,hs,hcells⟩:=hr.2.2.2.1 (by omega)
  rw [if_neg (by omega)]
  refine⟨g,off+x.toNat*sz,cur,by simp [Addr.add],hb,hg,?_,fun j hj=> ?_⟩
  ·have:(c-x.toNat)*sz+x.toNat*sz=c*sz:=by rw [←Nat.add_mul];congr 1;omega
   omega
  ·rw [List.getElem?_drop,Nat.add_assoc]
   refine hcells _ ?_
   have:(n-x.toNat)*sz+x.toNat*sz=n*sz:=by rw [←Nat.add_mul];congr 1;omega
   omega
end
section
variable {P:Program} (w:World)
end
end Go.Proofs.YtjamiaamngalgaaGreat
