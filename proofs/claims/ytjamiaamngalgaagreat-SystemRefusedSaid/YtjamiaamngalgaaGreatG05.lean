/-
  Parts: arena.Check, and the ref. No conditions beyond those of the statement.
-/
import Derived.Test.YtjamiaamngalgaaGreatG02
import Derived.Test.YtjamiaamngalgaaGreatG03
import Derived.Test.YtjamiaamngalgaaGreatG04
set_option linter.unusedVariables false
set_option linter.unusedSimpArgs false
set_option maxRecDepth 1000000
set_option maxHeartbeats 4000000
namespace Go.Proofs.YtjamiaamngalgaaGreat
open Go.RowKit Cfp
def prC (c:Int × Int):List Value:= [.int .i64 c.1,.int .i64 c.2]
def prs (l:List (Int × Int)):List Value:=l.flatMap prC
theorem Zkx (l:List (Int × Int)):(prs l).length=l.length*2:=Zcf _ 2 (fun _=> rfl) l
theorem Zky {l:List (Int × Int)} {i:Nat} {c:Int × Int} (h:l[i]?=some c):(prs l)[i*2]?=some (.int .i64 c.1)∧(prs l)[i*2+1]?=some (.int .i64 c.2):=
 ⟨Zag _ 2 (fun _=> rfl) l i 0 c h (by omega),Zag _ 2 (fun _=> rfl) l i 1 c h (by omega)⟩
def pvC (l:List (Int × Int)):Nat→Int
 | 0=> 0
 | i+1=> (l.getD i (0,0)).1
theorem Zmv (p:Int) (c:Int × Int) (l:List (Int × Int)):Zab p (c :: l)=if c.1<1∨4096<c.1∨c.2<0∨65536<c.2 then 1 else if c.1≤p then 6 else Zab c.1 l:=rfl
theorem Zt8 (l:List (Int × Int)) (i:Nat) (c:Int × Int) (h:l[i]?=some c) (hE:Za7 l=Zab (pvC l i) (l.drop i)):
  ((c.1<1∨4096<c.1∨c.2<0∨65536<c.2)→Za7 l=1)∧(¬(c.1<1∨4096<c.1∨c.2<0∨65536<c.2)→(c.1≤pvC l i→Za7 l=6)∧(¬c.1≤pvC l i→Za7 l=Zab (pvC l (i+1)) (l.drop (i+1)))):=by
 have hi:=(List.getElem?_eq_some_iff.1 h).1
 have hd:l.drop i=c :: l.drop (i+1):=by
  rw [List.drop_eq_getElem_cons hi]
  rw [(List.getElem?_eq_some_iff.1 h).2]
 rw [hE,hd,Zmv]
 have hp:pvC l (i+1)=c.1:=by simp [pvC,List.getD,h]
 refine⟨fun hb=> by rw [if_pos hb],fun hb=> ⟨fun h1=> by rw [if_neg hb,if_pos h1],fun h1=> by rw [if_neg hb,if_neg h1,hp]⟩⟩
theorem Zjx (l:List (Int × Int)) (hw:∀c∈l,(-9223372036854775808≤c.1∧c.1<9223372036854775808)∧(-9223372036854775808≤c.2∧c.2<9223372036854775808)) (C:Option Addr) (n k B:Nat) (w:World) (hr:Rd w B C 2 n (prs l)) (hB:B≤w.heap.size) (hn:n≤17592186044416):
  Calls Tryz.prog 50 #[.slice C n k] w fun e w'=> e= .returned (.int .i64 (Za7 l))∧Keeps NO w w':=by
 have hlen:l.length=n:=by have:=hr.1;rw [Zkx] at this;omega
 obtain⟨ev,hev⟩:∃ev,ev=Za7 l:=⟨_,rfl⟩
 rw [←hev]
 by_cases n0:n=0
 ·subst n0
  have HV:=zz (show ev=1 by rw [hev,Za7,if_pos (.inl hlen)])
  clear hr hlen hev
  go_enter Tryz.func50,Tryz.ntmps50
  go_wp2_with fail
  go_ret
  exact⟨Zaa HV.out.symm,Kz0 _ _⟩
 by_cases n8:8<n
 ·have HV:=zz (show ev=1 by rw [hev,Za7,if_pos (.inr (by omega))])
  have e0:((n:Int)==0)=false:=by simp;omega
  have e1:decide ((8:Int)<(n:Int))=true:=by simp;omega
  clear hr hlen hev
  go_enter Tryz.func50,Tryz.ntmps50
  go_wp2_with fail
  go_ret
  exact⟨Zaa HV.out.symm,Kz0 _ _⟩
 have HL:=zz hlen
 have HR:=zz hr
 have HE:=zz hev
 have HE0:=zz (show Za7 l=Zab (pvC l 0) (l.drop 0) by rw [Za7,if_neg (by omega)];rfl)
 have e0:((n:Int)==0)=false:=by simp;omega
 have e8:decide ((8:Int)<(n:Int))=false:=by simp;omega
 clear hlen hr hev
 go_enter Tryz.func50,Tryz.ntmps50
 go_wp2_with fail
 go_loopw [3,4,15] (fun _ _ i wr=> ∃j:Nat,j≤n∧i= .int .i64 j∧Hid (Za7 l=Zab (pvC l j) (l.drop j))∧Hid (Keeps NO w wr)) (fun _ _ i _=> n-(intOf i).toNat)
 case atStart=> exact⟨0,by omega,rfl,HE0,zz (Kz0 _ _)⟩
 case round=>
  obtain⟨j,hj,rfl,HJ,KP⟩:=hrel
  by_cases hlt:j<n
  ·obtain⟨c,hc⟩:∃c,l[j]?=some c:=⟨l[j]'(by have:=HL.out;omega),by simp⟩
   have hwc:=hw c (List.mem_of_getElem? hc)
   have HS:=zz (Zt8 l j c hc HJ.out)
   obtain⟨b,off,rfl,hbB,hcell⟩:=(HR.out.kept KP.out (fun _ _ h=> h)).2 (by omega)
   obtain⟨g1,g2⟩:=Zky hc
   have f1:=hcell _ _ g1
   have f2:=hcell _ _ g2
   rw [←Nat.add_assoc] at f2
   have hltI:(j:Int)<(n:Int):=by omega
   have hj0:(0:Int)≤(j:Int):=by omega
   have HLT:Hid (j+1≤n):=hlt
   have HF:=zz hcell
   have KA:=zz (KP.out.alloc (.cells #[.int .i64 c.1,.int .i64 c.2] 35))
   have hb2:b<wr.heap.size:=by have:=KP.out.size;omega
   clear hcell g1 g2
   by_cases h1:c.1<1
   ·have HV:=zz (show ev=1 by rw [HE.out];exact HS.out.1 (.inl h1))
    have e1:decide (c.1<1)=true:=by simpa using h1
    go_wp2_with fail
    go_ret
    exact⟨Zaa HV.out.symm,KA.out⟩
   by_cases h2:4096<c.1
   ·have HV:=zz (show ev=1 by rw [HE.out];exact HS.out.1 (.inr (.inl h2)))
    have e1:decide (c.1<1)=false:=by simpa using h1
    have e2:decide (4096<c.1)=true:=by simpa using h2
    go_wp2_with fail
    go_ret
    exact⟨Zaa HV.out.symm,KA.out⟩
   by_cases h3:c.2<0
   ·have HV:=zz (show ev=1 by rw [HE.out];exact HS.out.1 (.inr (.inr (.inl h3))))
    have e1:decide (c.1<1)=false:=by simpa using h1
    have e2:decide (4096<c.1)=false:=by simpa using h2
    have e3:decide (c.2<0)=true:=by simpa using h3
    go_wp2_with fail
    go_ret
    exact⟨Zaa HV.out.symm,KA.out⟩
   by_cases h4:65536<c.2
   ·have HV:=zz (show ev=1 by rw [HE.out];exact HS.out.1 (.inr (.inr (.inr h4))))
    have e1:decide (c.1<1)=false:=by simpa using h1
    have e2:decide (4096<c.1)=false:=by simpa using h2
    have e3:decide (c.2<0)=false:=by simpa using h3
    have e4:decide (65536<c.2)=true:=by simpa using h4
    go_wp2_with fail
    go_ret
    exact⟨Zaa HV.out.symm,KA.out⟩
   have HS2:=zz (HS.out.2 (by omega))
   have e1:decide (c.1<1)=false:=by simpa using h1
   have e2:decide (4096<c.1)=false:=by simpa using h2
   have e3:decide (c.2<0)=false:=by simpa using h3
   have e4:decide (65536<c.2)=false:=by simpa using h4
   have HP1:Hid (1≤c.1):=by show _≤_;omega
   clear h1 h2 h3 h4 HS
   rcases j with _ | i
   ·simp only [Nat.zero_mul,Nat.add_zero] at f1 f2
    have HN:=zz (HS2.out.2 (by have:=HP1.out;simp [pvC];omega))
    clear hc
    go_wp2_with fail
    go_quiet (fail)
    go_wp2_with fail
    go_roundw
    case rel=> exact⟨1,HLT.out,by go_num,HN,zz (KA.out.drewN _)⟩
    case measure=> have:=HLT.out;simp [intOf];omega
   ·obtain⟨d,hd⟩:∃d,l[i]?=some d:=⟨l[i]'(by have:=HL.out;omega),by simp⟩
    have f3:=HF.out _ _ (Zky hd).1
    have f4:∀o,(wr.alloc o).cell? ⟨b,off+i*2,none⟩=some (.int .i64 d.1):=fun o=> ((Kz0 NO wr).alloc o).cell_some f3 (fun h=> h)
    have E1:=zz (show IntKind.i64.wrap (((i+1:Nat):Int)-1)=(i:Int) by rw [IntKind.wrap_i64];omega)
    have e6:((((i+1:Nat):Int) > 0):Prop):=by omega
    have hin:(i:Int)<(n:Int):=by omega
    have hi0:(0:Int)≤(i:Int):=by omega
    have HPV:Hid (pvC l (i+1)=d.1):=by show _=_;simp [pvC,List.getD,hd]
    by_cases h5:c.1≤d.1
    ·have HV:=zz (show ev=6 by rw [HE.out];exact HS2.out.1 (by rw [HPV.out];exact h5))
     have e5:decide (c.1≤d.1)=true:=by simpa using h5
     clear hc hd h5 HPV HS2
     go_wp2_with fail
     have e7:=E1.out
     go_quiet (fail)
     go_wp2_with fail
     go_ret
     exact⟨Zaa HV.out.symm,by first | exact KA.out.drewN _ | exact(KA.out.drewN _).drewN _⟩
    ·have HN:=zz (HS2.out.2 (by rw [HPV.out];exact h5))
     have e5:decide (c.1≤d.1)=false:=by simpa using h5
     clear hc hd h5 HPV HS2
     go_wp2_with fail
     have e7:=E1.out
     go_quiet (fail)
     go_wp2_with fail
     go_roundw
     case rel=> exact⟨i+1+1,HLT.out,by go_num,HN,zz (by first | exact KA.out.drewN _ | exact(KA.out.drewN _).drewN _)⟩
     case measure=> have:=HLT.out;simp [intOf];omega
  ·obtain rfl:j=n:=by omega
   have HV:=zz (show ev=0 by rw [HE.out,HJ.out,←HL.out,List.drop_length];rfl)
   go_wp2_with fail
   go_ret
   exact⟨Zaa HV.out.symm,KP.out⟩
theorem Zva:∀(l:List (Int × Int)) (p:Int),Zab p l=0→∀c∈l,1≤c.1∧c.1≤4096∧0≤c.2∧c.2≤65536
 | [],_,_,c,hc=> by simp at hc
 | d :: l,p,h,c,hc=> by
   rw [Zmv] at h
   split at h
   ·simp at h
   ·split at h
    ·simp at h
    ·rcases List.mem_cons.1 hc with rfl | hc
     ·omega
     ·exact Zva l d.1 h c hc
theorem Ze9 (l:List (Int × Int)) (h:Za7 l=0):(1≤l.length∧l.length≤8)∧∀c∈l,1≤c.1∧c.1≤4096∧0≤c.2∧c.2≤65536:=by
 unfold Za7 at h
 split at h
 ·simp at h
 ·exact⟨by omega,Zva l 0 h⟩
end Go.Proofs.YtjamiaamngalgaaGreat
