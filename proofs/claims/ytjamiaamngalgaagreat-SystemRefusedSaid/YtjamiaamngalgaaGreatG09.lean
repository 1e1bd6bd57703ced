/-
  Parts: A whole configuration is; sizing.Check of a valid; sizing.Check of a valid; The demand of a configur; A whole. No conditions beyond those of the statement.
-/
import Derived.Test.YtjamiaamngalgaaGreatG06
import Derived.Test.YtjamiaamngalgaaGreatG04
import Derived.Test.YtjamiaamngalgaaGreatG08
import Derived.Test.YtjamiaamngalgaaGreatG00
import Derived.Test.YtjamiaamngalgaaGreatG03
import Derived.Test.YtjamiaamngalgaaGreatG07
import Derived.Deep.WholeRow
set_option linter.unusedVariables false
set_option linter.unusedSimpArgs false
set_option maxRecDepth 1000000
set_option maxHeartbeats 4000000
namespace Go.Proofs.YtjamiaamngalgaaGreat
open Go.RowKit Cfp
theorem Zfu (c:Cfg) (h:Fine c) (C T:Option Addr) (n k m j:Nat) (w:World):
  Calls Tryz.prog 99 #[Value.agg (cfC c C n k T m j)] w fun e w'=> e= .returned (.int .i64 0)∧w'=w.alloc (.cells (cfC c C n k T m j) 27):=by
 have h1:=h.length
 have h2:=h.lateness
 have h3:=h.windows
 go_enter Tryz.func99,Tryz.ntmps99
 go_wp2_with fail
 go_ret
 exact⟨rfl,rfl⟩
theorem Zb5 (x a b:Int) (h0:a≤x) (h1:x≤b) (w:World):
  Calls Tryz.prog 153 #[.int .i64 x,.int .i64 a,.int .i64 b] w fun e w'=> e= .returned (.bool true)∧w=w':=by
 go_enter Tryz.func153,Tryz.ntmps153
 go_wp2_with fail
 go_ret
 exact⟨by simp,rfl⟩
theorem Zjg (c:Cfg) (h:Fine c) (C T:Option Addr) (n k m j:Nat) (w:World):
  Calls Tryz.prog 100 #[Value.agg (cfC c C n k T m j)] w fun e w'=> e= .returned (.bool true)∧w'=w.alloc (.cells (cfC c C n k T m j) 27):=by
 have h1:=h.queue
 have h2:=h.mode
 have h3:=h.slots
 have h4:=h.exact_
 have h5:=h.depth
 have h6:=h.width
 have h7:=h.top
 have h8:=h.key
 have hb1:=zz (fun W=> Zb5 c.queue 1 64 h1.1 h1.2 W)
 have hb2:=zz (fun W=> Zb5 c.slots 1 64 h3.1 h3.2 W)
 have hb3:=zz (fun W=> Zb5 c.exact_ 0 32 h4.1 h4.2 W)
 have hb4:=zz (fun W=> Zb5 c.depth 1 4 h5.1 h5.2 W)
 have hb5:=zz (fun W=> Zb5 c.width 1 256 h6.1 h6.2 W)
 have hb6:=zz (fun W=> Zb5 c.top 1 64 h7.1 h7.2 W)
 have hb7:=zz (fun W=> Zb5 c.key 1 255 h8.1 h8.2 W)
 clear h1 h3 h4 h5 h6 h7 h8
 by_cases hm:c.mode=1
 all_goals
  first
   | (have e1:(c.mode==1)=true:=by simp [hm])
   | (have e1:(c.mode==1)=false:=by simp [hm]
      have e2:(c.mode==2)=true:=by simp;omega)
  clear hm h2
  go_enter Tryz.func100,Tryz.ntmps100
  go_wp2_with fail
  refine(hb1.out _).mono ?_
  rintro e w1 ⟨rfl,rfl⟩
  go_wp2_with fail
  refine(hb2.out _).mono ?_
  rintro e w1 ⟨rfl,rfl⟩
  go_wp2_with fail
  refine(hb3.out _).mono ?_
  rintro e w1 ⟨rfl,rfl⟩
  go_wp2_with fail
  refine(hb4.out _).mono ?_
  rintro e w1 ⟨rfl,rfl⟩
  go_wp2_with fail
  refine(hb5.out _).mono ?_
  rintro e w1 ⟨rfl,rfl⟩
  go_wp2_with fail
  refine(hb6.out _).mono ?_
  rintro e w1 ⟨rfl,rfl⟩
  go_wp2_with fail
  refine(hb7.out _).mono ?_
  rintro e w1 ⟨rfl,rfl⟩
  go_wp2_with fail
  go_ret
  exact⟨rfl,rfl⟩
theorem Zn0 (l:List (Int × Int)) (h:Za7 l=0) (C:Option Addr) (n k B:Nat) (w:World) (hr:Rd w B C 2 n (clv l)) (hB:B≤w.heap.size):
  Calls Tryz.prog 50 #[.slice C n k] w fun e w'=> e= .returned (.int .i64 0)∧Keeps NO w w':=by
 obtain⟨⟨n0,n1⟩,hb⟩:=Zan l h
 have hlen:l.length=n:=by have:=hr.1;rw [Zax] at this;omega
 rw [hlen] at n0 n1
 have HL:=zz hlen
 have HR:=zz hr
 have HC:=zz hb
 have HS:=zz (Zir l h)
 have e0:((n:Int)==0)=false:=by simp;omega
 clear hlen hr hb h
 go_enter Tryz.func50,Tryz.ntmps50
 go_wp2_with fail
 go_loopw [3,4,15] (fun _ _ i wr=> ∃j:Nat,j≤n∧i= .int .i64 j∧Keeps NO w wr) (fun _ _ i _=> n-(intOf i).toNat)
 case atStart=> exact⟨0,by omega,rfl,Kz0 _ _⟩
 case round=>
  obtain⟨j,hj,rfl,kp⟩:=hrel
  by_cases hlt:j<n
  ·obtain⟨c,hc⟩:∃c,l[j]?=some c:=⟨l[j]'(by have:=HL.out;omega),by simp⟩
   have hbc:=HC.out c (List.mem_of_getElem? hc)
   obtain⟨b,off,rfl,hbB,hcell⟩:=(HR.out.kept kp (fun _ _ h=> h)).2 (by omega)
   obtain⟨g1,g2⟩:=Zbb l j c hc
   have f1:=hcell _ _ g1
   have f2:=hcell _ _ g2
   rw [←Nat.add_assoc] at f2
   have hltI:(j:Int)<(n:Int):=by omega
   have hsz:=kp.size
   have KP:=zz kp
   rcases j with _ | i
   ·simp only [Nat.zero_mul,Nat.add_zero] at f1 f2
    clear hcell g1 g2 hc kp
    go_wp2_with fail
    go_quiet (fail)
    go_wp2_with fail
    go_roundw
    case rel=> exact⟨1,by omega,by go_num,(KP.out.alloc _).drewN _⟩
    case measure=> simp [intOf];omega
   ·obtain⟨d,hd⟩:∃d,l[i]?=some d:=⟨l[i]'(by have:=HL.out;omega),by simp⟩
    have hcd:=HS.out i d c hd hc
    have f3:=hcell _ _ (Zbb l i d hd).1
    have f4:∀o,(wr.alloc o).cell? ⟨b,off+i*2,none⟩=some (.int .i64 d.1):=fun o=> ((Kz0 NO wr).alloc o).cell_some f3 (fun h=> h)
    have e1:IntKind.i64.wrap (((i+1:Nat):Int)-1)=(i:Int):=by rw [IntKind.wrap_i64];omega
    have e2:((((i+1:Nat):Int) > 0):Prop):=by omega
    have hin:(i:Int)<(n:Int):=by omega
    have E1:=zz e1
    clear hcell g1 g2 hc hd kp e1
    go_wp2_with fail
    have e1:=E1.out
    go_quiet (fail)
    go_wp2_with fail
    go_roundw
    case rel=> exact⟨i+1+1,by omega,by go_num,(KP.out.alloc _).drewN _⟩
    case measure=> simp [intOf];omega
  ·have KP:=zz kp
   clear kp
   go_wp2_with fail
   go_ret
   exact⟨rfl,KP.out⟩
open Go.RowKit Cfp
theorem Zfv (c:Cfg) (h:Fine c) (l:List (Int × Int)) (hl:Za7 l=0) (hm:Room c l) (C T:Option Addr) (n k j B:Nat) (w:World) (hr:Rd w B C 2 n (clv l)) (hB:B≤w.heap.size):
  Calls Tryz.prog 42 #[Value.agg (cfC c C n k T 16 j)] w fun e w'=> e= .returned (.int .i64 0)∧Keeps NO w w':=by
 obtain⟨p,d,hp,hd,hm1,hm2,hm3⟩:=hm
 have hlen:l.length=n:=by have:=hr.1;rw [Zax] at this;omega
 obtain⟨⟨n0,n1⟩,hb⟩:=Zan l hl
 obtain rfl:n=p+1:=by omega
 have HR:=zz hr
 have HD:=zz (Zbb l p d hd).1
 have h6:=h.width
 have h8:=h.key
 have hp7:p≤7:=by omega
 have hmx:=fun ts t x y z u w=> Zez (P:=Tryz.prog) ts t x y z u w
 have hmy:decide (d.1<max (max (max (8*c.width) 32) 24) c.key)=false:=by simp;omega
 have HY:=zz (And.intro hm1 (And.intro hm2 hm3))
 have HRtd:=zz (show Rtd c from⟨h.shards,h.spread,h.seed⟩)
 have B0:=zz (Blk.new w 27 (cfC c C (p+1) k T 16 j))
 have K0:=zz ((Kz0 NO w).alloc (.cells (cfC c C (p+1) k T 16 j) 27))
 clear hr hp hd hlen n0 n1 hb hm1 hm2 hm3
 go_enter Tryz.func42,Tryz.ntmps42
 go_wp2_with (refine Zah _ rfl B0.out rfl (by rfl) ?_;simp only [Zpt])
 refine(Zfu c h _ _ _ _ _ _ _).mono ?_
 rintro e w1 ⟨rfl,hw⟩
 have kk:Keeps NO (w.alloc (.cells (cfC c C (p+1) k T 16 j) 27)) w1:=by rw [hw];exact(Kz0 _ _).alloc _
 have K1:=zz (K0.out.trans kk)
 have B1:=zz (B0.out.kept kk (fun h=> h))
 clear hw kk K0 B0
 go_wp2_with (refine Zah _ rfl B1.out rfl (by rfl) ?_;simp only [Zpt])
 refine(Zce c HRtd.out _ _ _ _ _ _).mono ?_
 rintro e w2 ⟨rfl,hw⟩
 have kk:Keeps NO w1 w2:=by rw [hw];exact(Kz0 _ _).alloc _
 have K2:=zz (K1.out.trans kk)
 have B2:=zz (B1.out.kept kk (fun h=> h))
 clear hw kk K1 B1
 go_wp2_with (refine Zah _ rfl B2.out rfl (by rfl) ?_;simp only [Zpt])
 refine(Zjg c h _ _ _ _ _ _ _).mono ?_
 rintro e w3 ⟨rfl,hw⟩
 have kk:Keeps NO w2 w3:=by rw [hw];exact(Kz0 _ _).alloc _
 have K3:=zz (K2.out.trans kk)
 have B3:=zz (B2.out.kept kk (fun h=> h))
 clear hw kk K2 B2
 have f14:w3.cell? ⟨w.heap.size,14,none⟩=some (.slice C (p+1) k):=B3.out.cell 14
 go_wp2_with fail
 refine(Zn0 l hl _ _ _ B _ (HR.out.kept K3.out (fun _ _ h=> h)) (Nat.le_trans hB K3.out.size)).mono ?_
 rintro e w4 ⟨rfl,k4⟩
 have b4:=B3.out.kept k4 (fun h=> h)
 have k4:=K3.out.trans k4
 have f11:w4.cell? ⟨w.heap.size,11,none⟩=some (.int .i64 c.width):=b4.cell 11
 have f13:w4.cell? ⟨w.heap.size,13,none⟩=some (.int .i64 c.key):=b4.cell 13
 have f14':w4.cell? ⟨w.heap.size,14,none⟩=some (.slice C (p+1) k):=b4.cell 14
 have K4:=zz k4
 obtain⟨b,off,rfl,hbB,hcell⟩:=(HR.out.kept K4.out (fun _ _ h=> h)).2 (by omega)
 have f1:=hcell _ _ HD.out
 clear hcell k4 b4 f14 K3 B3
 go_wp2_with fail
 try go_quiet (fail)
 go_wp2_with fail
 all_goals first
  | (go_ret;first | exact⟨rfl,K4.out⟩ | exact⟨rfl,K4.out.drewN _⟩ | exact⟨rfl,K4.out.drew⟩)
  | (have hy:=HY.out;exfalso;omega)
theorem Zdv (c:Cfg) (h:Fine c) (l:List (Int × Int)) (hl:Za7 l=0) (hm:Room c l) (C T:Option Addr) (n k j B:Nat) (w:World) (hr:Rd w B C 2 n (clv l)) (hB:B≤w.heap.size):
  Calls Tryz.prog 47 #[Value.agg (cfC c C n k T 16 j)] w fun e w'=> e= .returned (.int .i64 (Za4 c))∧Keeps NO w w':=by
 have HR:=zz hr
 have h1:=h.shards
 have h2:=h.windows
 have h3:=h.slots
 have h4:=h.exact_
 have h5:=h.sw
 have h6:=h.tr
 have hw1:IntKind.i64.wrap (c.shards*c.windows)=c.shards*c.windows:=IntWalk.i64_in _ (by omega)
 have hw2:IntKind.i64.wrap (c.shards*c.windows*(c.slots+c.exact_))=c.shards*c.windows*(c.slots+c.exact_):=IntWalk.i64_in _ (by unfold Za4 at h6;omega)
 have HW1:=zz hw1
 have HW2:=zz hw2
 have bX:=zz (Blk.new w 27 (cfC c C n k T 16 j))
 clear hr hw1 hw2
 go_enter Tryz.func47,Tryz.ntmps47
 go_wp2_with (refine Zah _ rfl bX.out rfl (by rfl) ?_;simp only [Zpt])
 refine(Zfv c h l hl hm _ _ _ _ _ B _ (HR.out.kept ((Kz0 NO w).alloc _) (fun _ _ h=> h)) (Nat.le_trans hB ((Kz0 NO w).alloc _).size)).mono ?_
 rintro e w4 ⟨rfl,k4⟩
 obtain⟨b4,k4⟩:=box1 k4
 have f2:w4.cell? ⟨w.heap.size,2,none⟩=some (.int .i64 c.windows):=b4.cell 2
 have f3:w4.cell? ⟨w.heap.size,3,none⟩=some (.int .i64 c.shards):=b4.cell 3
 have f7:w4.cell? ⟨w.heap.size,7,none⟩=some (.int .i64 c.slots):=b4.cell 7
 have f8:w4.cell? ⟨w.heap.size,8,none⟩=some (.int .i64 c.exact_):=b4.cell 8
 have K4:=zz k4
 have hw1:=HW1.out
 have hw2:=HW2.out
 clear k4 b4
 go_wp2_with fail
 go_ret
 refine⟨Zaa ?_,K4.out⟩
 unfold Za4
 first | rfl | (simp only [wrap64] at *; omega)
end Go.Proofs.YtjamiaamngalgaaGreat
namespace Go.Proofs.YtjamiaamngalgaaGreat.Cfp
open Go.RowKit
def Zgr (o:List Int) (i:Nat) (n:Int):List Int:=o.set i (IntKind.i64.wrap (o.getD i 0+n))
def Zch (l:List (Int × Int)) (o:List Int) (x:Int × Int):List Int:=Zgr o (fit l x.1) x.2
theorem Zlw (l:List (Int × Int)) (o:List Int) (x:Int × Int):(Zch l o x).length=o.length:=by simp [Zch,Zgr]
theorem Zda (l:List (Int × Int)):∀(xs:List (Int × Int)) (o:List Int),(xs.foldl (Zch l) o).length=o.length
 | [],_=> rfl
 | x :: xs,o=> by rw [List.foldl_cons,Zda l xs,Zlw]
theorem Zlv (l:List (Int × Int)) (o:List Int) (x:Int × Int) (h:o.length≤fit l x.1):Zch l o x=o:=by
 unfold Zch Zgr
 rw [List.set_eq_of_length_le h]
theorem Zid (l:List (Int × Int)) (K:Int) (hK:0≤K):∀(xs:List (Int × Int)) (o:List Int) (M:Int),(∀x∈xs,0≤x.2∧x.2≤K)→0≤M→Bnd o M→M+K*xs.length≤1000000000→xs.foldl (Zch l) o=xs.foldl (give l) o
 | [],_,_,_,_,_,_=> rfl
 | x :: xs,o,M,hx,h0,hb,hm=> by
   have h1:=hx x (by simp)
   have e1:K*((xs.length:Int)+1)=K*xs.length+K:=by rw [Int.mul_add,Int.mul_one]
   have h4:0≤K*(xs.length:Int):=Int.mul_nonneg hK (by omega)
   have h2:M+K*xs.length+K≤1000000000:=by
    rw [List.length_cons] at hm;push_cast at hm;omega
   rw [List.foldl_cons,List.foldl_cons]
   have h3:Zch l o x=give l o x:=by
    unfold Zch give Zgr Zbk
    by_cases hi:fit l x.1<o.length
    ·have:=hb _ hi
     rw [show IntKind.i64.wrap (o.getD (fit l x.1) 0+x.2)=o.getD (fit l x.1) 0+x.2 from by rw [IntKind.wrap_i64];omega]
    ·rw [List.set_eq_of_length_le (by omega),List.set_eq_of_length_le (by omega)]
   rw [h3]
   refine Zid l K hK xs _ (M+K) (fun y hy=> hx y (by simp [hy])) (by omega) ?_ (by omega)
   exact hb.add _ h1.1 h1.2
theorem Zi9 (key t:Int) (h0:0≤t):∀(l:List (Int × Int)) (ls:Int),(∀x∈Zc8 key t ls l,0≤x.2∧x.2≤t)∧(Zc8 key t ls l).length≤l.length
 | [],ls=> by simp [Zc8]
 | x :: l,ls=> by
   unfold Zc8
   split
   ·simp
   ·have:=Zi9 key t h0 l (x.1+1)
    refine⟨?_,by simp;exact this.2⟩
    intro y hy
    rcases List.mem_cons.1 hy with rfl | hy
    ·dsimp only;omega
    ·exact this.1 y hy
end Go.Proofs.YtjamiaamngalgaaGreat.Cfp
namespace Go.Proofs.YtjamiaamngalgaaGreat
open Go.RowKit Cfp
theorem Zfa (c:Cfg) (h:Fine c) (l:List (Int × Int)) (hl:Za7 l=0) (hm:Room c l):
  (Zcu c l).foldl (Zch l) (List.replicate l.length 0)=Zac c l:=by
 obtain⟨p,d,hp,hd,hm1,hm2,hm3⟩:=hm
 obtain⟨⟨n0,n1⟩,hb⟩:=Zan l hl
 have h1:=h.swd
 have h2:=h.sq
 have h3:=h.tr
 have h4:=h.key
 have hk:=Zi9 c.key (Za4 c+c.shards*c.queue) (by omega) l 1
 rw [Zid l 7000 (by omega) _ _ 0 ?_ (by omega) (Bnd.zero _) ?_]
 ·have ha:Zab 0 l=0:=by
   unfold Za7 at hl
   split at hl
   ·simp at hl
   ·exact hl
  exact Zjh c l 0 (Zgp l 0 ha).1 (fun c hc=> (hb c hc).1) h4.1 (by have:=Zig hp hd hm3;omega)
 ·intro x hx
  unfold Zcu at hx
  simp only [List.mem_cons] at hx
  rcases hx with rfl | rfl | rfl | hx
  ·dsimp only;omega
  ·dsimp only;omega
  ·dsimp only;omega
  ·have:=hk.1 x hx;omega
 ·unfold Zcu
  have:=hk.2
  simp only [List.length_cons]
  omega
open Go.RowKit Cfp
theorem Zqi {ops:Array Oper} {rest:List Oper} {o:Oper} {a:Act} {w:World} {Q:Exit→Act→World→Prop} {c:Cfg} {C T:Option Addr} {n k q j:Nat} {zs:Array Value} (x y:Operand) (ho:o.op= .store 27 x y)
  (hz:zs.size=17) (hx:a.eval x= .pointer (some ⟨w.heap.size,0,none⟩)) (hy:a.eval y=Value.agg (cfC c C n k T q j)) (hw:Region.wanted o (yielded ops a.tmps)=true)
  (h:wpList Tryz.prog ops Q rest (a.put o.dst undef) (w.alloc (.cells (cfC c C n k T q j) 27))):wpList Tryz.prog ops Q (o :: rest) a (w.alloc (.cells zs 27)):=by
 have hr:=run_storeAt_new (P:=Tryz.prog) w 27 zs (cfC c C n k T q j) (by kernel_rfl) hz (by simp [Value.oneCell'])
 show if Region.wanted o (yielded ops a.tmps) then _ else _
 rw [if_pos hw]
 refine .inl ?_
 unfold Oper.wp execOp
 simp only [ho,hx,hy,Sem.run_bind,Sem.run_pure,Result.andThen_ok,hr]
 exact h
end Go.Proofs.YtjamiaamngalgaaGreat
