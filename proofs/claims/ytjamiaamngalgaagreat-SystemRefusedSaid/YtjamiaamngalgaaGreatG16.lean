/-
  Parts: The iterator over the si; sizing.Demand of a valid; sizing.Validate of a con; Whole structs in one ste; The le. No conditions beyond those of the statement.
-/
import Derived.Test.YtjamiaamngalgaaGreatG00
import Derived.Test.YtjamiaamngalgaaGreatG09
import Derived.Test.YtjamiaamngalgaaGreatG03
import Derived.RangeFuncNested
import Derived.RangeFuncBound
import Derived.RangeFuncCalls
import Derived.RangeFuncLeaves
import Derived.Shelf.Abstract
import Derived.Shelf.RegionOpen
import Derived.WalkKit
import Derived.OwnWalkIn
import Derived.TacticsInMore
import Derived.LoopNIn
import Derived.LoopIn
import Derived.RangeFuncFrom
import Derived.Test.YtjamiaamngalgaaGreatG14
import Derived.Deep.CutRange
import Derived.Test.YtjamiaamngalgaaGreatG04
import Derived.Test.YtjamiaamngalgaaGreatG01
import Derived.BigRegion
import Derived.Laws.Tables
import Derived.Maps.Own
import Derived.Test.YtjamiaamngalgaaGreatG15
set_option linter.unusedVariables false
set_option linter.unusedSimpArgs false
set_option maxRecDepth 1000000
set_option maxHeartbeats 4000000
namespace Go.Proofs.YtjamiaamngalgaaGreat
open Go.RowKit Cfp
attribute [local go_sem] Oper.semAt_some
theorem Keeps.grownBy {w w':World} (k:Keeps NO w w'):w.grownBy w' none:=
 ⟨k.os,k.tape,k.output,k.size,fun b hb _=> k.block b hb (fun h=> h)⟩
theorem Zdt {F:Fence} {n':Nat} {ops:Array Oper} {rest:List Oper} {o:Oper} {a:Act} {w:World} {Q:Exit→Act→World→Prop} {c:Cfg} {C T:Option Addr} {n k q j g:Nat} (x:Operand) (ho:o.op= .load 27 x)
  (hg:Blk w g 27 (cfC c C n k T q j)) (hx:a.eval x= .pointer (some ⟨g,0,none⟩)) (hw:Region.wanted o (yielded ops a.tmps)=true)
  (h:wpListIn F n' Tryz.prog ops Q rest (a.put o.dst (Value.agg (cfC c C n k T q j))) w):wpListIn F n' Tryz.prog ops Q (o :: rest) a w:=by
 have hr:=run_loadVar_row (P:=Tryz.prog) w g 27 27 (cfC c C n k T q j) (0,0) _ hg Tryz.underlying27 rfl (by kernel_rfl)
 show if Region.wanted o (yielded ops a.tmps) then _ else _
 rw [if_pos hw]
 unfold Oper.wpIn
 refine⟨?_,?_⟩
 ·simp [Oper.about,ho]
 ·rw [Oper.semAt_plain F _ _ (by rw [ho];intro c hc';cases hc')]
  simp only [execOp,ho,hx,Instr.loadAt,Instr.sureAddr,Sem.run_bind,Sem.run_pure,Result.andThen_ok,hr]
  exact h
def KpC (G:Nat) (W W':World):Prop:=W.heap.size≤W'.heap.size∧∀k o,k≠G→W.heap[k]?=some o→o.isCells=true→W'.heap[k]?=some o
theorem KpC.refl (G:Nat) (W:World):KpC G W W:=⟨Nat.le_refl _,fun _ _ _ h _=> h⟩
theorem KpC.trans {G:Nat} {W W1 W2:World} (h:KpC G W W1) (k:KpC G W1 W2):KpC G W W2:=⟨Nat.le_trans h.1 k.1,fun b o hb ho hc=> k.2 b o hb (h.2 b o hb ho hc) hc⟩
theorem Keeps.kp {W W1:World} (h:Keeps NO W W1) (G:Nat):KpC G W W1:=
 ⟨h.size,fun k o _ ho _=> (h.block k (Array.getElem?_eq_some_iff.1 ho).1 (fun h=> h)).trans ho⟩
theorem KpC.putObj (G:Nat) (W:World) (l:Nat) (o o':Obj) (h:W.heap[l]?=some o) (hc:o.isCells=false):KpC G W (W.putObj l o'):=by
 refine⟨by simp [World.putObj],fun k x hk hx hxc=> ?_⟩
 by_cases e:k=l
 ·subst e;rw [h] at hx;cases hx;rw [hc] at hxc;cases hxc
 ·exact(World.putObj_heap_other e).trans hx
theorem Blk.kp {G:Nat} {W W1:World} {g:Nat} {t:TypeId} {cs:Array Value} (h:Blk W g t cs) (k:KpC G W W1) (hg:g≠G):Blk W1 g t cs:=k.2 g _ hg h rfl
theorem KpC.cell {G:Nat} {W W1:World} (k:KpC G W W1) {p:Addr} {v:Value} (h:W.cell? p=some v) (hp:p.block≠G):W1.cell? p=some v:=by
 have hlt:=block_lt_of_cell h
 have ho:W.heap[p.block]?=some W.heap[p.block]:=by simp [hlt]
 have hc:W.heap[p.block].isCells=true:=by
  cases e:W.heap[p.block] <;> (first | rfl | (simp [World.cell?,ho,e] at h))
 have:=k.2 _ _ hp ho hc
 rw [World.cell?_of_block (this.trans ho.symm)]
 exact h
theorem Rd.kp {G B sz n:Nat} {A:Option Addr} {xs:List Value} {W W1:World} (h:Rd W B A sz n xs) (k:KpC G W W1) (hG:B≤G):Rd W1 B A sz n xs:=
 ⟨h.1,fun hn=> by obtain⟨b,off,e,hb,hc⟩:=h.2 hn;exact⟨b,off,e,hb,fun j u hu=> k.cell (hc j u hu) (by show b≠G;omega)⟩⟩
abbrev Zje (x:Int × Int):Array Value:= #[.int .i64 x.1,.int .i64 x.2]
theorem Zjo (key t ls:Int) (x:Int × Int) (l:List (Int × Int)) (h:ls≤key):Zc8 key t ls (x :: l)=(ls,t) :: Zc8 key t (x.1+1) l:=by
 rw [Zc8,if_neg (by omega)]
theorem Zjn (key t ls:Int) (x:Int × Int) (l:List (Int × Int)) (h:key<ls):Zc8 key t ls (x :: l)= []:=by
 rw [Zc8,if_pos h]
theorem Zl9 (F:Fence) (n':Nat) (hf:F.fn 101) (hft:F.fn 47) (hro:F.round=none) (hn:1≤n') (G lp X B:Nat) (c:Cfg) (h:Fine c) (l:List (Int × Int)) (hlb:∀c∈l,1≤c.1∧c.1≤4096∧0≤c.2∧c.2≤65536) (C T:Option Addr) (n k j:Nat) (W:World)
  (hn8:n≤8) (hSX:X≠G) (hSB:B≤G) (hGW:G<W.heap.size) (hB:B≤W.heap.size)
  (hT:∀W',Rd W' B C 2 n (clv l)→B≤W'.heap.size→CallsIn F (n'-1) Tryz.prog 47 #[Value.agg (cfC c C n k T 16 j)] W' fun e W''=> e= .returned (.int .i64 (Za4 c))∧Keeps NO W' W'')
  (hb:Blk W X 27 (cfC c C n k T 16 j)) (hr:Rd W B C 2 n (clv l)) (J Jx:List (Int × Int)→World→Prop) (hJ:∀s W1 W2,J s W1→Keeps NO W1 W2→J s W2)
  (hY:∀pre x W1,J pre W1→pre.length<(Zcu c l).length→YieldAt F (n'-1) Tryz.prog lp (Zje x) W1 fun e W'=>
   (e= .returned (.bool true)∧J (pre++ [x]) W'∧KpC G W1 W')∨(e= .returned (.bool false)∧Jx (pre++ [x]) W')) (h0:J [] W):
  CallsIn F n' Tryz.prog 101 #[.func (.yield lp) #[] #[],.pointer (some ⟨X,0,none⟩)] W fun e W'=> (∃v,e= .returned v)∧
   ((∃ys,ys=Zcu c l∧J ys W')∨(∃pre,pre <+: Zcu c l∧Jx pre W')):=by
 have hlen:l.length=n:=by have:=hr.1;rw [Zax] at this;omega
 have hsw:=h.sw
 have hswd:=h.swd
 have hsq:=h.sq
 have htr:=h.tr
 have hwd:=h.width
 have hky:=h.key
 have hw1:IntKind.i64.wrap (c.shards*c.queue)=c.shards*c.queue:=IntWalk.i64_in _ (by omega)
 have hw2:IntKind.i64.wrap (c.shards*c.windows)=c.shards*c.windows:=IntWalk.i64_in _ (by omega)
 have hw3:IntKind.i64.wrap (c.shards*c.windows*c.depth)=c.shards*c.windows*c.depth:=IntWalk.i64_in _ (by omega)
 have hw4:IntKind.i64.wrap (8*c.width)=8*c.width:=IntWalk.i64_in _ (by omega)
 have hw5:IntKind.i64.wrap (Za4 c+c.shards*c.queue)=Za4 c+c.shards*c.queue:=IntWalk.i64_in _ (by omega)
 have HN:=zz (show Zcu c l=(8*c.width,c.shards*c.windows*c.depth) :: (32,Za4 c) :: (24,c.shards*c.queue) :: Zc8 c.key (Za4 c+c.shards*c.queue) 1 l from rfl)
 obtain⟨NL,hNL⟩:∃NL,NL=Zcu c l:=⟨_,rfl⟩
 rw [←hNL] at hY HN ⊢
 have HT:=zz hT
 have HY:=zz hY
 have HJ:=zz hJ
 have HR:=zz hr
 have HX:=zz hb
 have HC:=zz hlb
 have HLn:=zz hlen
 have HSX:=zz hSX
 have HSB:=zz hSB
 obtain⟨tr,htre⟩:∃tr,tr=Za4 c:=⟨_,rfl⟩
 rw [←htre] at HT HN hw5 htr
 have q3:W.cell? ⟨X,3,none⟩=some (.int .i64 c.shards):=hb.cell 3
 have q5:W.cell? ⟨X,5,none⟩=some (.int .i64 c.queue):=hb.cell 5
 have q2:W.cell? ⟨X,2,none⟩=some (.int .i64 c.windows):=hb.cell 2
 have q11:W.cell? ⟨X,11,none⟩=some (.int .i64 c.width):=hb.cell 11
 have q10:W.cell? ⟨X,10,none⟩=some (.int .i64 c.depth):=hb.cell 10
 have H0:=zz h0
 have hN0:0<NL.length:=by rw [HN.out];simp
 have hN1:1<NL.length:=by rw [HN.out];simp
 have hN2:2<NL.length:=by rw [HN.out];simp
 have HP1:=zz (show [(8*c.width,c.shards*c.windows*c.depth)] <+: NL by rw [HN.out];exact⟨_,rfl⟩)
 have HP2:=zz (show [(8*c.width,c.shards*c.windows*c.depth),(32,tr)] <+: NL by rw [HN.out];exact⟨_,rfl⟩)
 have HP3:=zz (show [(8*c.width,c.shards*c.windows*c.depth),(32,tr),(24,c.shards*c.queue)] <+: NL by rw [HN.out];exact⟨_,rfl⟩)
 clear hJ hb hr hlb hlen hSX hSB hT hY hNL htre h0 h
 refine callsIn_of_wp Tryz.func101 rfl hf ?_ hro
 simp only [Tryz.ntmps101,List.size_toArray,List.length_cons,List.length_nil,Nat.reduceAdd,Nat.reduceSub,Array.replicate_succ,Array.replicate_zero,List.push_toArray,List.append_toArray,List.nil_append,List.cons_append]
 obtain⟨fn,tmps,assign,body,hy,hR⟩:=HY.out [] (8*c.width,c.shards*c.windows*c.depth) W H0.out (by simpa using hN0)
 dsimp only [Zje] at hy
 have HRd:=zz hR
 clear hR
 gi_wp2
 refine HRd.out.mono ?_
 rintro e W1 (⟨rfl,hJ1,hk1⟩ | ⟨rfl,hJx1⟩)
 rotate_left
 ·clear hy HRd
  gi_wp2
  all_goals (repeat (refine⟨fun _ h=> (by cases h),?_⟩;gi_wp2))
  refine bodyPost_ret (results_none rfl _ _ _) rfl ?_
  exact⟨⟨_,rfl⟩,.inr ⟨_,HP1.out,hJx1⟩⟩
 have J1:=zz hJ1
 have X1:=zz (HX.out.kp hk1 HSX.out)
 have R1:=zz (HR.out.kp hk1 HSB.out)
 have hB1:B≤W1.heap.size:=Nat.le_trans hB hk1.1
 have hG1:G<W1.heap.size:=Nat.lt_of_lt_of_le hGW hk1.1
 clear hy HRd hJ1 q3 q5 q2 q11 q10 HX HR H0
 gi_wp2_with (first | (refine Zdt _ rfl X1.out rfl (by rfl) ?_;simp only [Zpt]))
 refine(HT.out W1 R1.out hB1).mono ?_
 rintro e W2 ⟨rfl,hk2⟩
 obtain⟨fn,tmps,assign,body,hy,hR⟩:=HY.out [(8*c.width,c.shards*c.windows*c.depth)] (32,tr) W2 (HJ.out _ _ _ J1.out hk2) (by simpa using hN1)
 dsimp only [Zje] at hy
 have HRd:=zz hR
 have X2:=zz (X1.out.kept hk2 (fun h=> h))
 have R2:=zz (R1.out.kept hk2 (fun _ _ h=> h))
 have hB2:B≤W2.heap.size:=Nat.le_trans hB1 hk2.size
 have hG2:G<W2.heap.size:=Nat.lt_of_lt_of_le hG1 hk2.size
 clear hR X1 R1 J1 hk2 hk1
 gi_wp2
 refine HRd.out.mono ?_
 rintro e W3 (⟨rfl,hJ1,hk1⟩ | ⟨rfl,hJx1⟩)
 rotate_left
 ·clear hy HRd
  gi_wp2
  all_goals (repeat (refine⟨fun _ h=> (by cases h),?_⟩;gi_wp2))
  refine bodyPost_ret (results_none rfl _ _ _) rfl ?_
  exact⟨⟨_,rfl⟩,.inr ⟨_,HP2.out,hJx1⟩⟩
 have J3:=zz hJ1
 have X3:=zz (X2.out.kp hk1 HSX.out)
 have R3:=zz (R2.out.kp hk1 HSB.out)
 have hB3:B≤W3.heap.size:=Nat.le_trans hB2 hk1.1
 have hG3:G<W3.heap.size:=Nat.lt_of_lt_of_le hG2 hk1.1
 clear hy HRd hJ1 X2 R2
 obtain⟨fn,tmps,assign,body,hy,hR⟩:=HY.out [(8*c.width,c.shards*c.windows*c.depth),(32,tr)] (24,c.shards*c.queue) W3 J3.out (by simpa using hN2)
 dsimp only [Zje] at hy
 have HRd:=zz hR
 clear hR hk1 J3
 gi_wp2
 refine HRd.out.mono ?_
 rintro e W4 (⟨rfl,hJ1,hk1⟩ | ⟨rfl,hJx1⟩)
 rotate_left
 ·clear hy HRd
  gi_wp2
  all_goals (repeat (refine⟨fun _ h=> (by cases h),?_⟩;gi_wp2))
  refine bodyPost_ret (results_none rfl _ _ _) rfl ?_
  exact⟨⟨_,rfl⟩,.inr ⟨_,HP3.out,hJx1⟩⟩
 have J4:=zz hJ1
 have X4:=zz (X3.out.kp hk1 HSX.out)
 have R4:=zz (R3.out.kp hk1 HSB.out)
 have hB4:B≤W4.heap.size:=Nat.le_trans hB3 hk1.1
 have hG4:G<W4.heap.size:=Nat.lt_of_lt_of_le hG3 hk1.1
 have q14:W4.cell? ⟨X,14,none⟩=some (.slice C n k):=X4.out.cell 14
 clear hy HRd hJ1 X3 R3 hk1
 gi_wp2
 gi_loopw [4,6,42] (fun lv _ iv wr=> ∃(i:Nat) (ls:Int) (pre:List (Int × Int)),i≤n∧iv= .int .i64 i∧lv= .int .i64 ls∧1≤ls∧ls≤4097∧Hid (pre++Zc8 c.key (tr+c.shards*c.queue) ls (l.drop i)=NL)∧Hid (J pre wr)∧Hid (KpC G W4 wr)) (fun _ _ iv _=> n-(intOf iv).toNat)
 case atStart=> exact⟨0,1,[(8*c.width,c.shards*c.windows*c.depth),(32,tr),(24,c.shards*c.queue)],by omega,rfl,rfl,by omega,by omega,by show _=_;rw [HN.out];rfl,J4,zz (KpC.refl _ _)⟩
 case round=>
  obtain⟨i,ls,pre,hi,rfl,rfl,hl1,hl2,HPr,HJr,HKr⟩:=hrel
  clear J4 q14
  by_cases hlt:i<n
  ·have HLT:Hid (i+1≤n):=hlt
   have hil:i<l.length:=by rw [HLn.out];exact hlt
   obtain⟨x,hx⟩:∃x,l[i]?=some x:=⟨l[i]'hil,by simp⟩
   have hbx:=HC.out x (List.mem_of_getElem? hx)
   have Rr:=zz (R4.out.kp HKr.out HSB.out)
   obtain⟨b,off,rfl,hbB,hcell⟩:=Rr.out.2 (by omega)
   obtain⟨g1,g2⟩:=Zbb l i x hx
   have f1:=hcell _ _ g1
   have f2:=hcell _ _ g2
   rw [←Nat.add_assoc] at f2
   have hDr:=zz (show l.drop i=x :: l.drop (i+1) by
    rw [List.drop_eq_getElem_cons hil]
    congr 1
    have:=List.getElem?_eq_getElem hil
    rw [hx] at this
    exact(Option.some.inj this).symm)
   have Xr:=zz (X4.out.kp HKr.out HSX.out)
   have ka:=(Kz0 NO wr).alloc (.cells #[.int .i64 x.1,.int .i64 x.2] 35)
   have Xa:=zz (Xr.out.kept ka (fun h=> h))
   have Ra:=zz (Rr.out.kept ka (fun _ _ h=> h))
   have Ja:=zz (HJ.out _ _ _ HJr.out ka)
   have hsz:B≤wr.heap.size:=Nat.le_trans hB4 HKr.out.1
   have hGr:wr.heap.size≠G:=by have:=HKr.out.1;omega
   have q13:(wr.alloc (.cells #[.int .i64 x.1,.int .i64 x.2] 35)).cell? ⟨X,13,none⟩=some (.int .i64 c.key):=Xa.out.cell 13
   have hba:B≤(wr.alloc (.cells #[.int .i64 x.1,.int .i64 x.2] 35)).heap.size:=Nat.le_trans hsz ka.size
   have ba:=Blk.new wr 35 #[.int .i64 x.1,.int .i64 x.2]
   have Ba:=zz ba
   have HKa:=zz (HKr.out.trans (ka.kp G))
   have hiI:(i:Int)<(n:Int):=by omega
   have hi0:(0:Int)≤(i:Int):=by omega
   clear hcell g1 g2 hx ka Xr Rr HJr HKr ba
   by_cases hk:c.key<ls
   ·gi_wp2
    all_goals (repeat (refine⟨fun _ h=> (by cases h),?_⟩;gi_wp2))
    refine bodyPost_ret (results_none rfl _ _ _) rfl ?_
    exact⟨⟨_,rfl⟩,.inl ⟨_,rfl,by rw [←HPr.out,hDr.out,Zjn _ _ _ _ _ hk,List.append_nil];exact Ja.out⟩⟩
   ·trace "ROUND"
    have hkd:decide (c.key<ls)=false:=by simpa using hk
    gi_wp2_with (first | (refine Zdt _ rfl Xa.out rfl (by rfl) ?_;simp only [Zpt]))
    refine(HT.out _ Ra.out hba).mono ?_
    rintro e W5 ⟨rfl,hk5⟩
    have hN5:Hid ((pre++ [(ls,tr+c.shards*c.queue)])++Zc8 c.key (tr+c.shards*c.queue) (x.1+1) (l.drop (i+1))=NL):=by
     show _=_
     rw [←HPr.out,hDr.out,Zjo _ _ _ _ _ (by omega)];simp
    have hL5:pre.length<NL.length:=by rw [←hN5.out];simp
    obtain⟨fn,tmps,assign,body,hy,hR⟩:=HY.out pre (ls,tr+c.shards*c.queue) W5 (HJ.out _ _ _ Ja.out hk5) hL5
    dsimp only [Zje] at hy
    have HRd:=zz hR
    have X5:=zz (Xa.out.kept hk5 (fun h=> h))
    have R5:=zz (Ra.out.kept hk5 (fun _ _ h=> h))
    have B5:=zz (Ba.out.kept hk5 (fun h=> h))
    have HK5:=zz (HKa.out.trans (hk5.kp G))
    clear hR Xa Ra Ja Ba HKa hk5 q13 f1 f2
    gi_wp2
    refine HRd.out.mono ?_
    rintro e W6 (⟨rfl,hJ6,hk6⟩ | ⟨rfl,hJx6⟩)
    rotate_left
    ·clear hy HRd
     gi_wp2
     all_goals (repeat (refine⟨fun _ h=> (by cases h),?_⟩;gi_wp2))
     refine bodyPost_ret (results_none rfl _ _ _) rfl ?_
     exact⟨⟨_,rfl⟩,.inr ⟨_,by rw [←hN5.out];exact⟨_,rfl⟩,hJx6⟩⟩
    ·have hgG:wr.heap.size≠G:=hGr
     have B6:=zz (B5.out.kp hk6 hgG)
     have HK6:=zz (HK5.out.trans hk6)
     have HJ6:=zz hJ6
     have q0:W6.cell? ⟨wr.heap.size,0,none⟩=some (.int .i64 x.1):=B6.out.cell 0
     have hw6:IntKind.i64.wrap (x.1+1)=x.1+1:=IntWalk.i64_in _ (by omega)
     clear hy HRd hJ6 hk6 B5 HK5 X5 R5
     gi_wp2
     go_roundw
     case rel=> exact⟨i+1,x.1+1,_,HLT.out,by go_num,rfl,by omega,by omega,hN5,HJ6,HK6⟩
     case measure=> have:=HLT.out;simp [intOf];omega
  ·obtain rfl:i=n:=by omega
   gi_wp2
   go_end0
   exact⟨⟨_,rfl⟩,.inl ⟨_,rfl,by rw [←HPr.out,List.drop_of_length_le (by rw [HLn.out];omega),Zc8,List.append_nil];exact HJr.out⟩⟩
open Go.RowKit Cfp
attribute [local go_sem] Oper.semAt_some
theorem Zh7 (F:Fence) (n':Nat) (hf:F.fn 101) (hft:F.fn 47) (hro:F.round=none) (hn:1≤n') (G X B:Nat) (c:Cfg) (h:Fine c) (l:List (Int × Int)) (hlb:∀c∈l,1≤c.1∧c.1≤4096∧0≤c.2∧c.2≤65536) (C T:Option Addr) (n k j:Nat) (W:World)
  (hn8:n≤8) (hSX:X≠G) (hSB:B≤G) (hGW:G<W.heap.size)
  (hT:∀W',Rd W' B C 2 n (clv l)→B≤W'.heap.size→CallsIn F (n'-1) Tryz.prog 47 #[Value.agg (cfC c C n k T 16 j)] W' fun e W''=> e= .returned (.int .i64 (Za4 c))∧Keeps NO W' W'')
  (hb:Blk W X 27 (cfC c C n k T 16 j)) (hr:Rd W B C 2 n (clv l)):
  SeqStopsK F n' Tryz.prog 101 #[.pointer (some ⟨X,0,none⟩)] Zje (KpC G) (· =Zcu c l) (· <+: Zcu c l) (Zcu c l).length W:=by
 intro lp J Jx W1 hW hJ hJx hY h0
 have hX:X<W.heap.size:=hb.lt
 refine Zl9 F n' hf hft hro hn G lp X B c h l hlb C T n k j W1 hn8 hSX hSB (Nat.lt_of_lt_of_le hGW hW.size) (by have:=hW.size;omega) hT ((hW.block X hX).trans hb) (hr.keep fun b off hb=> hW.cell (p:=⟨b,off,none⟩) (by show b<W.heap.size;omega)) J Jx
  (fun s Wa Wb hs hk=> hJ s Wa Wb none hs hk.grownBy (fun r e=> by cases e)) hY h0
theorem Zo8 (F:Fence) (n':Nat) (hf:F.fn 43) (hro:F.round=none) (c:Cfg) (C T:Option Addr) (n k q j:Nat) (w:World):
  CallsIn F n' Tryz.prog 43 #[Value.agg (cfC c C n k T q j)] w fun e w'=> e= .returned (.func (.func 101) #[] #[.pointer (some ⟨w.heap.size,0,none⟩)])∧w'=w.alloc (.cells (cfC c C n k T q j) 27):=by
 refine callsIn_of_wp Tryz.func43 rfl hf ?_ hro
 simp only [Tryz.ntmps43,List.size_toArray,List.length_cons,List.length_nil,Nat.reduceAdd,Nat.reduceSub,Array.replicate_succ,Array.replicate_zero,List.push_toArray,List.append_toArray,List.nil_append,List.cons_append]
 gi_wp2
 go_ret
 exact⟨rfl,rfl⟩
structure DI (w:World) (X G O B n k j:Nat) (c:Cfg) (l:List (Int × Int)) (C T:Option Addr) (pre:List (Int × Int)) (W:World):Prop where
 nums:Nums W G (pre.foldl (Zch l) (List.replicate n 0))
 ob:Blk W O 22 #[.slice (some ⟨G,0,none⟩) n n]
 bx:Blk W X 27 (cfC c C n k T 16 j)
 rd:Rd W B C 2 n (clv l)
 kp:Keeps NO w W
theorem DI.own {w:World} {X G O B n k j Bz:Nat} {c:Cfg} {l:List (Int × Int)} {C T:Option Addr} (hz:w.heap.size≤Bz):OwnFrom Bz (DI w X G O B n k j c l C T):=by
 intro s Wa Wb row hs hg hr
 have hk:∀Z,KpC Z Wa Wb:=fun Z=> ⟨hg.size,fun b o hb ho hc=> (hg.block b (Array.getElem?_eq_some_iff.1 ho).1 (fun e=> by
  obtain⟨o',ho',hc'⟩:=(hr b e.symm).2
  rw [ho] at ho';cases ho';rw [hc] at hc';cases hc')).trans ho⟩
 exact⟨Blk.kp hs.nums (hk (G+1)) (by omega),hs.ob.kp (hk (O+1)) (by omega),hs.bx.kp (hk (X+1)) (by omega),hs.rd.kp (hk B) (Nat.le_refl _),hs.kp.grown hg (fun b e hb=> by have:=(hr b e).1;omega)⟩
theorem DI.quiet {w W W':World} {X G O B n k j:Nat} {c:Cfg} {l:List (Int × Int)} {C T:Option Addr} {pre:List (Int × Int)} (h:DI w X G O B n k j c l C T pre W) (kk:Keeps NO W W'):DI w X G O B n k j c l C T pre W':=
 ⟨h.nums.kept kk (fun h=> h),h.ob.kept kk (fun h=> h),h.bx.kept kk (fun h=> h),h.rd.kept kk (fun _ _ h=> h),h.kp.trans kk⟩
theorem DI.put {w W:World} {X G O B n k j i:Nat} {c:Cfg} {l:List (Int × Int)} {C T:Option Addr} {pre:List (Int × Int)} (h:DI w X G O B n k j c l C T pre W) (hG:w.heap.size≤G) (hX:X≠G) (hO:O≠G) (hB:B≤w.heap.size) (x:Int × Int) (hi:i=fit l x.1) (y:Int)
  (hy:y=IntKind.i64.wrap ((pre.foldl (Zch l) (List.replicate n 0)).getD i 0+x.2)):DI w X G O B n k j c l C T (pre++ [x]) (W.setCell ⟨G,i,none⟩ (.int .i64 y)):=by
 have kS:Keeps (· =G) W (W.setCell ⟨G,i,none⟩ (.int .i64 y)):=Keeps.setCell (S:=(· =G)) (p:=⟨G,i,none⟩) (Kz0 _ _) (.inl rfl) _
 refine⟨?_,h.ob.kept kS hO,h.bx.kept kS hX,h.rd.kept kS (fun b hb=> by omega),h.kp.setCell (p:=⟨G,i,none⟩) (.inr hG) _⟩
 rw [List.foldl_append,List.foldl_cons,List.foldl_nil]
 subst hi hy
 have hn:=h.nums
 generalize pre.foldl (Zch l) (List.replicate n 0)=zs at hn ⊢
 have:=Blk.set hn (fit l x.1) (.int .i64 (IntKind.i64.wrap (zs.getD (fit l x.1) 0+x.2)))
 unfold Nums Zch Zgr
 simpa [List.map_set] using this
theorem KpC.setCell (G:Nat) (W:World) (i:Nat) (v:Value):KpC G W (W.setCell ⟨G,i,none⟩ v):=by
 refine⟨by simp [World.setCell],fun k o hk ho hc=> ?_⟩
 exact(Below.heap_setCell W ⟨G,i,none⟩ v k (by exact hk)).trans ho
theorem Keeps.others {W W':World} (h:Keeps NO W W'):KeepsOthers W W':=
 ⟨h.size,fun k o hk _=> (h.block k (Array.getElem?_eq_some_iff.1 hk).1 (fun h=> h)).trans hk⟩
theorem Zj6 (F:Fence) (n':Nat) (hro:F.round=none) (hn:4≤n') (hfD:F.fn 8) (hfC:F.fn 42) (hfN:F.fn 43) (hft:F.fn 47) (hf1:F.fn 101) (c:Cfg) (h:Fine c) (l:List (Int × Int)) (hl:Za7 l=0) (hm:Room c l) (C T:Option Addr) (n k j B:Nat) (w:World)
  (hC:∀W',Rd W' B C 2 n (clv l)→B≤W'.heap.size→CallsIn F (n'-1) Tryz.prog 42 #[Value.agg (cfC c C n k T 16 j)] W' fun e W''=> e= .returned (.int .i64 0)∧Keeps NO W' W'')
  (hT:∀W',Rd W' B C 2 n (clv l)→B≤W'.heap.size→CallsIn F (n'-1-1) Tryz.prog 47 #[Value.agg (cfC c C n k T 16 j)] W' fun e W''=> e= .returned (.int .i64 (Za4 c))∧Keeps NO W' W'')
  (hr:Rd w B C 2 n (clv l)) (hB:B≤w.heap.size):
  CallsIn F n' Tryz.prog 8 #[Value.agg (cfC c C n k T 16 j)] w (Zht w n (Zac c l)):=by
 have h1:1≤n':=by omega
 have hlen:l.length=n:=by have:=hr.1;rw [Zax] at this;omega
 obtain⟨⟨n0,n1⟩,hlb⟩:=Zan l hl
 have hmk:=fun w=> Zfw n (by omega) w
 have HC:=zz hC
 have HT:=zz hT
 have HR:=zz hr
 have HLb:=zz hlb
 have HLn:=zz hlen
 have HF:=zz h
 have HND:=zz (Zfa c h l hl hm)
 have hn8:n≤8:=by omega
 have b1:=Blk.new w 27 (cfC c C n k T 16 j)
 have k1:=(Kz0 NO w).alloc (.cells (cfC c C n k T 16 j) 27)
 have B1:=zz b1
 have K1:=zz k1
 clear hC hT hr hlb hlen hl hm h n0 n1 b1 k1
 refine callsIn_of_wp_marks Tryz.func8 rfl hfD ?_ hro
 simp only [Tryz.ntmps8,List.size_toArray,List.length_cons,List.length_nil,Nat.reduceAdd,Nat.reduceSub,Array.replicate_succ,Array.replicate_zero,List.push_toArray,List.append_toArray,List.nil_append,List.cons_append]
 gi_wp2_with (first | (refine Zdt _ rfl B1.out rfl (by rfl) ?_;simp only [Zpt]))
 refine(HC.out _ (HR.out.kept K1.out (fun _ _ h=> h)) (Nat.le_trans hB K1.out.size)).mono ?_
 rintro e w2 ⟨rfl,k2⟩
 have K2:=zz (K1.out.trans k2)
 have B2:=zz (B1.out.kept k2 (fun h=> h))
 have hX2:w.heap.size<w2.heap.size:=B2.out.lt
 have q14:w2.cell? ⟨w.heap.size,14,none⟩=some (.slice C n k):=B2.out.cell 14
 obtain⟨G,hG⟩:∃G,G=w2.heap.size:=⟨_,rfl⟩
 have b3:Blk ((w2.alloc (.cells (List.replicate n (.int .i64 0)).toArray 3)).alloc (.cells #[.slice (some ⟨w2.heap.size,0,none⟩) n n] 22)) w.heap.size 27 (cfC c C n k T 16 j):=(B2.out.alloc _).alloc _
 have B3:=zz b3
 clear k2 K1 B1 b3
 gi_wp2_with (first | (refine Zdt _ rfl B3.out rfl (by rfl) ?_;simp only [Zpt]))
 refine(Zo8 F (n'-1) hfN hro c C T n k 16 j _).mono ?_
 rintro e w4 ⟨rfl,hw4⟩
 have hz4:w4.heap.size=w2.heap.size+1+1+1:=by rw [hw4];simp
 have D4:Hid (DI w w.heap.size w2.heap.size (w2.heap.size+1) B n k j c l C T [] w4):=by
  have ka:=(Kz0 NO w2).alloc (.cells (Array.replicate n (.int .i64 0)) 3)
  have kb:=ka.alloc (.cells #[.slice (some ⟨w2.heap.size,0,none⟩) n n] 22)
  have kc:=kb.alloc (.cells (cfC c C n k T 16 j) 27)
  have hw4':w4=((w2.alloc (.cells (Array.replicate n (.int .i64 0)) 3)).alloc (.cells #[.slice (some ⟨w2.heap.size,0,none⟩) n n] 22)).alloc (.cells (cfC c C n k T 16 j) 27):=by
   rw [hw4]
  rw [←hw4'] at kc
  refine⟨?_,?_,B2.out.kept kc (fun h=> h),HR.out.kept (K2.out.trans kc) (fun _ _ h=> h),K2.out.trans kc⟩
  ·have h0:=Blk.new w2 3 (Array.replicate n (.int .i64 0))
   have h1:=((h0.alloc (.cells #[.slice (some ⟨w2.heap.size,0,none⟩) n n] 22)).alloc (.cells (cfC c C n k T 16 j) 27))
   rw [←hw4'] at h1
   simpa [Nums] using h1
  ·have h0:=Blk.new_at (w2.alloc (.cells (Array.replicate n (.int .i64 0)) 3)) 22 #[.slice (some ⟨w2.heap.size,0,none⟩) n n] (w2.heap.size+1) (by simp)
   have h1:=h0.alloc (.cells (cfC c C n k T 16 j) 27)
   rw [←hw4'] at h1
   exact h1
 have Y4:Hid (Blk w4 (w2.heap.size+1+1) 27 (cfC c C n k T 16 j)):=by
  show Blk _ _ _ _
  rw [hw4]
  exact Blk.new_at _ _ _ _ (by simp)
 have hG2:w.heap.size≤w2.heap.size:=K2.out.size
 clear hw4 B3 B2 K2 q14 hmk HC HR
 gi_wp2
 generalize w2.heap.size=G at*
 clear hG
 refine wpIn_rangeFunc_ownF hro h1 (gf:=101) (lb:= #[.pointer (some ⟨G+1+1,0,none⟩)]) rfl hf1 (enters_of Tryz.func101 (by kernel_rfl) rfl)
  (Zh7 F (n'-1) hf1 hft hro (by omega) G (G+1+1) B c HF.out l HLb.out C T n k j _ hn8 (by omega) (by omega) (by omega) HT.out Y4.out D4.out.rd)
  (fun h k=> h.trans k) (fun W l o o' hl h hc _=> KpC.putObj G W l o o' h hc) (Below.refl _ _) (fun _=> rfl)
  (DI w w.heap.size G (G+1) B n k j c l C T)
  (fun _ _ _=> False)
  (DI.own (by omega))
  (fun _ _ _ _ _ hs _ _=> hs)
  D4.out
  (fun x=> { tmps:= #[Value.agg (cfC c C n k T 16 j),.pointer (some ⟨w.heap.size,0,none⟩),.slice none 0 0,.int .i64 0,.int .i64 0,.pointer (some ⟨G+1,0,none⟩),.int .i64 x.1,.int .i64 x.2,undef,undef,Value.agg (cfC c C n k T 16 j),.int .i64 0,.int .i64 0,.bool false,undef,
   .pointer (some ⟨w.heap.size,14,none⟩),.slice C n k,.int .i64 n,.slice (some ⟨G,0,none⟩) n n,Value.agg (cfC c C n k T 16 j),.func (.func 101) #[] #[.pointer (some ⟨G+1+1,0,none⟩)],.int .i64 x.1,.int .i64 x.2,
   undef,undef,undef,undef,undef,undef,undef,undef,undef,undef,undef,undef,undef,undef,undef,undef,undef,undef,undef,undef,undef],defers:= []}) ?assign ?body ?done ?stop
 case assign=>
  intro lp x W K hK
  gi_wp2
  exact hK
 case body=>
  intro lp pre x W hI hlen
  obtain⟨x1,x2⟩:=x
  have HI:=zz hI
  have q14:W.cell? ⟨w.heap.size,14,none⟩=some (.slice C n k):=hI.bx.cell 14
  have HW1:=zz (show pre++ [(x1,x2)]=pre++ [(x1,x2)] from rfl)
  clear hI hlen D4 Y4
  dsimp only
  gi_wp2
  obtain⟨wo,hwo⟩:∃wo:World,wo=W:=⟨_,rfl⟩
  gi_loopw [8,9,26] (fun _ _ iv wr=> ∃i:Nat,i≤n∧iv= .int .i64 i∧i≤fit l x1∧Hid (Keeps NO W wr)) (fun _ _ iv _=> n-(intOf iv).toNat)
  case atStart=> exact⟨0,by omega,rfl,by omega,zz (Kz0 _ _)⟩
  case round=>
   obtain⟨i,hi,rfl,hif,HKr⟩:=hrel
   have HIr:=zz (HI.out.quiet HKr.out)
   by_cases hlt:i<n
   ·have HLT:Hid (i+1≤n):=hlt
    have hil:i<l.length:=by rw [HLn.out];exact hlt
    obtain⟨x,hx⟩:∃x,l[i]?=some x:=⟨l[i]'hil,by simp⟩
    have hcl:l[i]=x:=by rw [List.getElem?_eq_getElem hil] at hx;injection hx
    obtain⟨b,off,rfl,hbB,hcell⟩:=HIr.out.rd.2 (by omega)
    obtain⟨g1,g2⟩:=Zbb l i x hx
    have f1:=hcell _ _ g1
    have f2:=hcell _ _ g2
    rw [←Nat.add_assoc] at f2
    have hiI:(i:Int)<(n:Int):=by omega
    have hi0:(0:Int)≤(i:Int):=by omega
    have ka:=(Kz0 NO wr).alloc (.cells #[.int .i64 x.1,.int .i64 x.2] 35)
    have HKa:=zz (HKr.out.trans ka)
    have HIa:=zz (HIr.out.quiet ka)
    by_cases hle:x1≤x.1
    ·have hfit:fit l x1=i:=by
      rcases Nat.lt_or_ge i (fit l x1) with h | h
      ·have:=Zc0 l x1 i h hil
       rw [hcl] at this;omega
      ·omega
     have HFt:=zz hfit
     obtain⟨zs,hzs⟩:∃zs,zs=pre.foldl (Zch l) (List.replicate n 0):=⟨_,rfl⟩
     have hzl:zs.length=n:=by rw [hzs,Zda];simp
     have hnu:=HIa.out.nums
     rw [←hzs] at hnu
     have hz:=hnu.cell i (by omega)
     have hfz:=hnu.frozen i
     obtain⟨z,hze⟩:∃z,z=zs.getD i 0:=⟨_,rfl⟩
     rw [←hze] at hz
     have qo:(wr.alloc (.cells #[.int .i64 x.1,.int .i64 x.2] 35)).cell? ⟨G+1,0,none⟩=some (.slice (some ⟨G,0,none⟩) n n):=HIa.out.ob.cell 0
     have HZE:=zz hze
     have HZS:=zz hzs
     clear hcell g1 g2 hx hcl HIr hfit hzs hze hzl hnu ka HKr hif
     gi_wp2
     refine⟨HKa.out.others.trans (KeepsOthers.setCell _ _ _),(HKa.out.kp G).trans (KpC.setCell G _ i _),HIa.out.put (by omega) (by omega) (by omega) hB (x1,x2) HFt.out.symm _ ?_⟩
     rw [←HZS.out,←HZE.out]
     first | rfl | (rw [IntKind.wrap_i64];simp only [wrap64])
    ·have hfit:i+1≤fit l x1:=by
      rcases Nat.lt_or_ge i (fit l x1) with h | h
      ·omega
      ·exfalso
       have h2:fit l x1=i:=by omega
       have:=Zeo l x1 (by omega)
       simp only [h2,hcl] at this
       omega
     have HFt:=zz hfit
     clear hcell g1 g2 hx hcl HIr HIa hfit ka HKr hif
     gi_wp2
     go_roundw
     case rel=> exact⟨i+1,HLT.out,by go_num,HFt.out,HKa⟩
     case measure=> have:=HLT.out;simp [intOf];omega
   ·obtain rfl:i=n:=by omega
    have HFt:=zz (show(pre++ [(x1,x2)]).foldl (Zch l) (List.replicate i 0)=pre.foldl (Zch l) (List.replicate i 0) by
     rw [List.foldl_append,List.foldl_cons,List.foldl_nil]
     exact Zlv _ _ _ (by rw [Zda];simpa using hif))
    gi_wp2
    exact⟨HKr.out.others,HKr.out.kp G,⟨by rw [HFt.out];exact HIr.out.nums,HIr.out.ob,HIr.out.bx,HIr.out.rd,HIr.out.kp⟩⟩
 case done=>
  rintro D ys W hD hys hI hK
  have qo:W.cell? ⟨G+1,0,none⟩=some (.slice (some ⟨G,0,none⟩) n n):=hI.ob.cell 0
  have HI:=zz hI
  have HYs:=zz hys
  have HK:=zz hK
  clear hI hys hK D4 Y4
  gi_wp2
  refine⟨by simp,.inl ⟨_,_,rfl,run_takeDeferred HK.out,?_⟩⟩
  have hkd:=KpC.putObj (G+5) W D _ (.deferred none) HK.out rfl
  have hkx:Keeps NO w (W.putObj D (.deferred none)):=HI.out.kp.grown (grownBy_putObj' W D (.deferred none)) (fun b e hb=> by cases e;omega)
  refine⟨_,results_tmp2 rfl _ _ _,G,rfl,hG2,?_,hkx⟩
  have:=Blk.kp HI.out.nums hkd (by omega)
  rw [HYs.out] at this
  have h2:=HND.out
  rw [HLn.out] at h2
  rw [h2] at this
  exact this
 case stop=>
  rintro D c' pre W _ _ h _
  exact h.elim
theorem Zeh (c:Cfg) (h:Fine c) (l:List (Int × Int)) (hl:Za7 l=0) (hm:Room c l) (C T:Option Addr) (n k j B:Nat) (w:World) (hr:Rd w B C 2 n (clv l)) (hB:B≤w.heap.size):
  Calls Tryz.prog 8 #[Value.agg (cfC c C n k T 16 j)] w (Zht w n (Zac c l)):=
 (callsIn_wide (n:=9)).1 (Zj6 Fence.wide 9 rfl (by omega) trivial trivial trivial trivial trivial c h l hl hm C T n k j B w
  (fun W' hr' hB'=> callsIn_wide.2 (Zfv c h l hl hm C T n k j B W' hr' hB'))
  (fun W' hr' hB'=> callsIn_wide.2 (Zdv c h l hl hm C T n k j B W' hr' hB')) hr hB)
open Go.RowKit Cfp
theorem Zgf (d:List Int) (l:List (Int × Int)) (i:Nat) (hd:i<d.length) (hl:i<l.length) (h:l[i].2<d[i]):Zhe d l=true:=by
 unfold Zhe
 rw [List.any_eq_true]
 refine⟨(d[i],l[i]),?_,by simpa using h⟩
 rw [List.mem_iff_getElem?]
 exact⟨i,by simp [List.getElem?_zip_eq_some,hd,hl]⟩
theorem Zgg (d:List Int) (l:List (Int × Int)) (h:∀i (hd:i<d.length) (hl:i<l.length),d[i]≤l[i].2):Zhe d l=false:=by
 unfold Zhe
 rw [List.any_eq_false]
 intro x hx
 obtain⟨i,hi⟩:=List.mem_iff_getElem?.1 hx
 rw [List.getElem?_zip_eq_some] at hi
 obtain⟨h1,h2⟩:=hi
 obtain⟨g1,e1⟩:=List.getElem?_eq_some_iff.1 h1
 obtain⟨g2,e2⟩:=List.getElem?_eq_some_iff.1 h2
 have:=h i g1 g2
 rw [e1,e2] at this
 simp;omega
def Zfc (d:List Int) (l:List (Int × Int)):Int:=if Zhe d l=true then 7 else 0
theorem Zly {d:List Int} {l:List (Int × Int)} (h:Zhe d l=true):Zfc d l=7:=if_pos h
theorem Zlz {d:List Int} {l:List (Int × Int)} (h:Zhe d l=false):Zfc d l=0:=if_neg (by simp [h])
theorem Zdh (c:Cfg) (h:Fine c) (l:List (Int × Int)) (hl:Za7 l=0) (hm:Room c l) (C T:Option Addr) (n k j B:Nat) (w:World) (hr:Rd w B C 2 n (clv l)) (hB:B≤w.heap.size):
  Calls Tryz.prog 44 #[Value.agg (cfC c C n k T 16 j)] w fun e w'=> e= .returned (.int .i64 (Zfc (Zac c l) l))∧Keeps NO w w':=by
 have HR:=zz hr
 have hlen:l.length=n:=by have:=hr.1;rw [Zax] at this;omega
 have hdl:(Zac c l).length=n:=by rw [Zaw];exact hlen
 obtain⟨⟨n0,n1⟩,hlb⟩:=Zan l hl
 have hn8:n≤8:=by omega
 have HD:=zz (fun W hr' hB'=> Zeh c h l hl hm C T n k j B W hr' hB')
 obtain⟨zs,hzs⟩:∃zs,zs=Zac c l:=⟨_,rfl⟩
 rw [←hzs] at HD hdl ⊢
 obtain⟨fv,hfv⟩:∃fv,fv=Zfc zs l:=⟨_,rfl⟩
 rw [←hfv]
 have HF:=zz hfv
 have HLn:=zz hlen
 have HDl:=zz hdl
 have bX:=zz (Blk.new w 27 (cfC c C n k T 16 j))
 have kX:=zz ((Kz0 NO w).alloc (.cells (cfC c C n k T 16 j) 27))
 clear hr hlen n0 n1 hlb hl hm h hzs hfv hdl
 go_enter Tryz.func44,Tryz.ntmps44
 go_wp2_with (refine Zah _ rfl bX.out rfl (by rfl) ?_;simp only [Zpt])
 refine(HD.out _ (HR.out.kept kX.out (fun _ _ h=> h)) (Nat.le_trans hB kX.out.size)).mono ?_
 rintro e w2 ⟨g,rfl,hg,nu,k2⟩
 have B2:=zz (bX.out.kept k2 (fun h=> h))
 have K2:=zz (kX.out.trans k2)
 have NU:=zz nu
 clear nu k2 bX kX HD hg
 go_wp2_with fail
 go_loop [5,6,17] (fun _ _ iv=> ∃i:Nat,i≤n∧iv= .int .i64 i∧Hid (∀q (h1:q<zs.length) (h2:q<l.length),q<i→zs[q]≤l[q].2)) (fun _ _ iv=> n-(intOf iv).toNat)
 case atStart=> exact⟨0,by omega,rfl,zz (fun q _ _ h=> by omega)⟩
 case round=>
  obtain⟨i,hi,rfl,HQ⟩:=hrel
  by_cases hlt:i<n
  ·have HLT:Hid (i+1≤n):=hlt
   have hil:i<l.length:=by rw [HLn.out];exact hlt
   have hiz:i<zs.length:=by rw [HDl.out];exact hlt
   have hz:=NU.out.cell i hiz
   obtain⟨z,hze⟩:∃z,z=zs.getD i 0:=⟨_,rfl⟩
   rw [←hze] at hz
   have hze':zs[i]=z:=by rw [hze];simp [List.getD,hiz]
   obtain⟨x,hx⟩:∃x,l[i]?=some x:=⟨l[i]'hil,by simp⟩
   have hcl:l[i]=x:=by rw [List.getElem?_eq_getElem hil] at hx;injection hx
   obtain⟨b,off,rfl,hbB,hcell⟩:=(HR.out.kept K2.out (fun _ _ h=> h)).2 (by omega)
   obtain⟨g1,g2⟩:=Zbb l i x hx
   have f2:=hcell _ _ g2
   rw [←Nat.add_assoc] at f2
   have q14:w2.cell? ⟨w.heap.size,14,none⟩=some (.slice (some ⟨b,off,none⟩) n k):=B2.out.cell 14
   have hiI:(i:Int)<(n:Int):=by omega
   have hi0:(0:Int)≤(i:Int):=by omega
   have HZ:=zz hze'
   have HX:=zz hcl
   clear hze hze' hx hcl hcell g1 g2
   by_cases hlt2:x.2<z
   ·have HV:=zz (show fv=7 by rw [HF.out];exact Zly (Zgf zs l i hiz hil (by rw [HZ.out,HX.out];exact hlt2)))
    go_wp2_with fail
    go_ret
    exact⟨Zaa HV.out.symm,K2.out⟩
   ·have hlt3:z≤x.2:=by omega
    go_wp2_with fail
    go_round
    case rel=>
     refine⟨i+1,HLT.out,by go_num,zz (fun q h1 h2 hq=> ?_)⟩
     rcases Nat.lt_or_ge q i with h | h
     ·exact HQ.out q h1 h2 h
     ·obtain rfl:q=i:=by omega
      rw [HZ.out,HX.out];exact hlt3
    case measure=> have:=HLT.out;simp [intOf];omega
  ·have HV:=zz (show fv=0 by rw [HF.out];exact Zlz (Zgg zs l (fun q h1 h2=> HQ.out q h1 h2 (by rw [HDl.out] at h1;omega))))
   go_wp2_with fail
   go_ret
   exact⟨Zaa HV.out.symm,K2.out⟩
open Go.RowKit Cfp
section
variable {ops:Array Oper} {rest:List Oper} {o:Oper} {a:Act} {w:World} {Q:Exit→Act→World→Prop} {T:TypeId} {g:Nat} {zs cs:Array Value}
theorem Blk.row (h:Blk w g T zs) (cs:Array Value):Blk (w.setRow g cs) g T cs:=setRow_heap w g zs cs T (0,0) h
theorem Keeps.setRow (w:World) (g:Nat) (cs:Array Value):Keeps (· =g) w (w.setRow g cs):=
 ⟨rfl,rfl,rfl,by simp,fun k hk hn=> setRow_other w g k cs hn⟩
theorem Zq5 (x y:Operand) (ho:o.op= .store T x y) (hg:Blk w g T zs) (hi:(Tryz.prog.info? T).map (·.size)=some cs.size) (hz:zs.size=cs.size) (h1:cs.all (·.oneCell')=true)
  (hx:a.eval x= .pointer (some ⟨g,0,none⟩)) (hy:a.eval y= .agg cs) (hw:Region.wanted o (yielded ops a.tmps)=true)
  (h:wpList Tryz.prog ops Q rest (a.put o.dst undef) (w.setRow g cs)):wpList Tryz.prog ops Q (o :: rest) a w:=by
 have hr:(Instr.storeAt T (.pointer (some ⟨g,0,none⟩)) (.agg cs)).run Tryz.prog w= .ok () (w.setRow g cs):=by
  simp only [Instr.storeAt,Instr.sureAddr,Sem.run_bind,Sem.run_pure,Result.andThen]
  exact run_storeVar_row _ _ T T zs cs hg hi hz h1
 show if Region.wanted o (yielded ops a.tmps) then _ else _
 rw [if_pos hw]
 refine .inl ?_
 unfold Oper.wp execOp
 simp only [ho,hx,hy,Sem.run_bind,Sem.run_pure,Result.andThen_ok,hr]
 exact h
theorem Zuh (x:Operand) (ho:o.op= .load T x) (hg:Blk w g T cs) {fs:Array Field} (hu:Tryz.prog.underlying T=some (.struct fs)) (hi:(Tryz.prog.info? T).map (·.size)=some cs.size)
  (hx:a.eval x= .pointer (some ⟨g,0,none⟩)) (hw:Region.wanted o (yielded ops a.tmps)=true)
  (h:wpList Tryz.prog ops Q rest (a.put o.dst (.agg cs)) w):wpList Tryz.prog ops Q (o :: rest) a w:=by
 show if Region.wanted o (yielded ops a.tmps) then _ else _
 rw [if_pos hw]
 exact .inl (wp_load_row T x ho g hx T _ (0,0) _ hg hu rfl hi h)
end
theorem Zfg:ElemOf Tryz.prog 24 35 2 16:=ElemOf.mk' (z:= .agg #[.int .i64 0,.int .i64 0]) Tryz.underlying24 (by kernel_rfl) rfl (by omega)
theorem Zmh:ElemOf Tryz.prog 25 23 1 8:=ElemOf.mk' (z:= .int .u64 0) Tryz.underlying25 (by kernel_rfl) rfl (by omega)
theorem Zfi (l:List (Int × Int)):∀u∈clv l,u.oneCell'=true:=by
 induction l with
 | nil=> intro u hu;simp [clv] at hu
 | cons x l ih=>
   intro u hu
   simp [clv] at hu
   rcases hu with rfl | rfl | hu
   ·rfl
   ·rfl
   ·exact ih u (by simpa [clv] using hu)
theorem Zng (l:List Int):∀u∈l.map (Value.int .u64),u.oneCell'=true:=by
 intro u hu
 obtain⟨z,_,rfl⟩:=List.mem_map.1 hu
 rfl
section
theorem Zms {w:World} {B:Nat} {A:Option Addr} {n c:Nat} {l:List (Int × Int)} (hr:Rd w B A 2 n (clv l)) (hn:n≤1000000):
  Calls Tryz.prog 102 #[.slice A n c] w fun e w'=> ∃A' c',e= .returned (.slice A' n c')∧Own w' w.heap.size 35 2 A' n c' (clv l)∧Keeps NO w w':=by
 cases A with
 | none=>
   obtain rfl:n=0:=by
    rcases Nat.eq_zero_or_pos n with h | h
    ·exact h
    ·obtain⟨b,off,e,_⟩:=hr.2 h;cases e
   have hx:(clv l)= []:=List.eq_nil_of_length_eq_zero (by have:=hr.1;omega)
   rw [hx]
   clear hr hx
   have heq:=fun w=> Lib.run_eql_slice_nil (P:=Tryz.prog) w 24 35 none 0 c 0 0 Tryz.underlying24
   go_enter Tryz.func102,Tryz.ntmps102
   go_wp2_with fail
   go_ret
   exact⟨none,0,rfl,Own.nil _ _ _ _,Kz0 _ _⟩
 | some ad=>
   have HR:=zz hr
   clear hr
   have heq:=fun w=> Lib.run_eql_slice_nil (P:=Tryz.prog) w 24 35 (some ad) n c 0 0 Tryz.underlying24
   go_enter Tryz.func102,Tryz.ntmps102
   go_wp2_with (at_builtin;refine Za5 _ Zfg rfl _ _ rfl w.heap.size _ rfl (Own.new0 _ _ 35 2 _ (by simp) (by omega)) _ (m:=n) _ rfl (HR.out.kept ((Kz0 NO w).alloc _) (fun _ _ h=> h)) (Zfi l) (by simp [maxLen];omega) (by omega) (by simp) ?_;intro A5 c5 w5 o5 k5 hA5;rw [Nat.zero_add,List.nil_append] at o5;have O5:=zz o5;have K5:=zz k5;clear o5 k5 hA5)
   go_ret
   exact⟨A5,c5,rfl,O5.out,((Kz0 _ w).alloc _).step K5.out (fun k hk h=> by have:=(Za0 _ _ _).1 h;omega)⟩
theorem Zd0 {w:World} {B:Nat} {A:Option Addr} {n c:Nat} {l:List Int} (hr:Rd w B A 1 n (l.map (Value.int .u64))) (hn:n≤1000000):
  Calls Tryz.prog 84 #[.slice A n c] w fun e w'=> ∃A' c',e= .returned (.slice A' n c')∧Own w' w.heap.size 23 1 A' n c' (l.map (Value.int .u64))∧Keeps NO w w':=by
 cases A with
 | none=>
   obtain rfl:n=0:=by
    rcases Nat.eq_zero_or_pos n with h | h
    ·exact h
    ·obtain⟨b,off,e,_⟩:=hr.2 h;cases e
   have hx:(l.map (Value.int .u64))= []:=List.eq_nil_of_length_eq_zero (by have:=hr.1;omega)
   rw [hx]
   clear hr hx
   have heq:=fun w=> Lib.run_eql_slice_nil (P:=Tryz.prog) w 25 23 none 0 c 0 0 Tryz.underlying25
   go_enter Tryz.func84,Tryz.ntmps84
   go_wp2_with fail
   go_ret
   exact⟨none,0,rfl,Own.nil _ _ _ _,Kz0 _ _⟩
 | some ad=>
   have HR:=zz hr
   clear hr
   have heq:=fun w=> Lib.run_eql_slice_nil (P:=Tryz.prog) w 25 23 (some ad) n c 0 0 Tryz.underlying25
   go_enter Tryz.func84,Tryz.ntmps84
   go_wp2_with (at_builtin;refine Za5 _ Zmh rfl _ _ rfl w.heap.size _ rfl (Own.new0 _ _ 23 1 _ (by simp) (by omega)) _ (m:=n) _ rfl (HR.out.kept ((Kz0 NO w).alloc _) (fun _ _ h=> h)) (Zng l) (by simp [maxLen];omega) (by omega) (by simp) ?_;intro A5 c5 w5 o5 k5 hA5;rw [Nat.zero_add,List.nil_append] at o5;have O5:=zz o5;have K5:=zz k5;clear o5 k5 hA5)
   go_ret
   exact⟨A5,c5,rfl,O5.out,((Kz0 _ w).alloc _).step K5.out (fun k hk h=> by have:=(Za0 _ _ _).1 h;omega)⟩
end
def Zvm (w:World) (e:Ending) (w':World):Prop:=
 ∃g M,e= .returned (.pointer (some ⟨g,0,none⟩))∧Blk w' g 213 #[.map (some M),.int .i64 0,.int .u64 0,.int .u64 0,.int .u64 0,.int .u64 0,.int .u64 0,.int .u64 0,.int .u64 0]∧w'.heap[M]?=some (.map #[] 0)∧(w.heap.size≤g∧w.heap.size≤M)∧Keeps NO w w'
theorem Zjk (w:World):Calls Tryz.prog 46 #[] w (Zvm w):=by
 have hmm:∀w,(Instr.makeMap 210 none).run Tryz.prog w= .ok (.map (some w.heap.size)) (w.alloc (.map #[] 0)):=fun w=> run_makeMap _ w
 go_enter Tryz.func46,Tryz.ntmps46
 go_wp2_with fail
 go_ret
 have k1:=(Kz0 NO w).alloc (.map #[] 0)
 exact⟨_,_,rfl,Blk.new_at _ _ _ _ (by simp),(Below.heap_alloc _ _ _ (by simp)).trans (heap_alloc_new w _),⟨by omega,by omega⟩,k1.alloc _⟩
open Go.RowKit Go.Maps
def Zb3:List (Int × Int)→Int→Int
 | [],_=> 0
 | x :: l,k=> if x.1=k then x.2 else Zb3 l k
def putD:List (Int × Int)→Int→Int→List (Int × Int)
 | [],k,v=> [(k,v)]
 | x :: l,k,v=> if x.1=k then(k,v) :: l else x :: putD l k v
def delD:List (Int × Int)→Int→List (Int × Int)
 | [],_=> []
 | x :: l,k=> if x.1=k then l else x :: delD l k
theorem Zgt (k v:Int):∀D:List (Int × Int),((∀x∈D,x.1≠k)∧Zb3 D k=0∧putD D k v=D++ [(k,v)]∧delD D k=D)∨∃i,D[i]?=some (k,Zb3 D k)∧putD D k v=D.set i (k,v)∧delD D k=D.eraseIdx i
 | []=> .inl ⟨by simp,rfl,rfl,rfl⟩
 | x :: l=> by
   by_cases h:x.1=k
   ·right
    exact⟨0,by simp [Zb3,h];rw [←h],by simp [putD,h],by simp [delD,h]⟩
   ·rcases Zgt k v l with ⟨h1,h2,h3,h4⟩ | ⟨i,h1,h2,h3⟩
    ·left
     refine⟨fun y hy=> ?_,by simp [Zb3,h,h2],by simp [putD,h,h3],by simp [delD,h,h4]⟩
     rcases List.mem_cons.1 hy with rfl | hy
     ·exact h
     ·exact h1 y hy
    ·right
     exact⟨i+1,by simp [Zb3,h,h1],by simp [putD,h,h2],by simp [delD,h,h3]⟩
abbrev ledL (D:List (Int × Int)):List (Int × Value):=D.map fun x=> (x.1,.int .u64 x.2)
structure IsLed (w:World) (B g M:Nat) (D:List (Int × Int)) (ac:Int) (rj:List Int):Prop where
 blk:Blk w g 213 (.map (some M) :: .int .i64 ac :: rj.map (.int .u64)).toArray
 map:Mp Tryz.prog 3 enI w M (ledL D)
 len:rj.length=7
 key:∀x∈D, -9223372036854775808≤x.1∧x.1<9223372036854775808
 val:∀x∈D,0≤x.2∧x.2<18446744073709551616
 le:B≤g∧B≤M
 ne:M≠g
theorem Zad (w:World) (S j:Nat) (v:Value):Keeps (· =S) w (w.setCell ⟨S,j,none⟩ v):=Keeps.setCell (S:=(· =S)) (p:=⟨S,j,none⟩) (Kz0 _ _) (.inl rfl) _
theorem Zhw {D:List (Int × Int)} (h:∀x∈D,0≤x.2∧x.2<18446744073709551616) (k:Int):0≤Zb3 D k∧Zb3 D k<18446744073709551616:=by
 rcases Zgt k 0 D with ⟨_,h2,_⟩ | ⟨i,h1,_⟩
 ·rw [h2];omega
 ·exact h _ (List.mem_of_getElem? h1)
section
variable {w w':World} {B g M:Nat} {D:List (Int × Int)} {ac:Int} {rj:List Int}
theorem IsLed.kept {S:Nat→Prop} (h:IsLed w B g M D ac rj) (k:Keeps S w w') (h1:¬S g) (h2:¬S M):IsLed w' B g M D ac rj:=
 ⟨h.blk.kept k h1,h.map.kept k h2,h.len,h.key,h.val,h.le,h.ne⟩
theorem IsLed.quiet (h:IsLed w B g M D ac rj) (k:Keeps NO w w'):IsLed w' B g M D ac rj:=h.kept k (fun h=> h) (fun h=> h)
theorem Zqm (w:World):(zeroValue 23).run Tryz.prog w= .ok (.int .u64 0) w:=by
 have hi:(Tryz.prog.info? 23).map (fun i=> (i.zero,i.size,i.bytes))=some (some (.int .u64 0),1,8):=by kernel_rfl
 obtain⟨i,h1,h2,h3,h4⟩:=info_parts hi
 simp [zeroValue,typeInfo,h1,h2]
theorem IsLed.look (h:IsLed w B g M D ac rj) (z:Int) (z0: -9223372036854775808≤z) (z1:z<9223372036854775808) (b:Bool):
  (Instr.lookup 210 (.map (some M)) (.int .i64 z) b).run Tryz.prog w= .ok (if b then .tuple #[.int .u64 (Zb3 D z),.bool (D.any (fun x=> x.1=z))] else .int .u64 (Zb3 D z)) w:=by
 rcases Zgt z 0 D with ⟨h1,h2,_⟩ | ⟨i,h1,_⟩
 ·rw [h2]
  have h3:D.any (fun x=> x.1=z)=false:=by simpa using h1
  rw [h3]
  exact h.map.look_no (int_keyed Tryz.underlying3) Tryz.underlying210 (Zqm w) (keyI Tryz.underlying3 z z0 z1) (fun x hx=> by
   obtain⟨y,hy,rfl⟩:=List.mem_map.1 hx
   intro e
   injection e with _ e
   exact h1 y hy e) b
 ·have h3:D.any (fun x=> x.1=z)=true:=by
   simp only [List.any_eq_true,decide_eq_true_eq]
   exact⟨_,List.mem_of_getElem? h1,rfl⟩
  rw [h3]
  exact h.map.look_yes (int_keyed Tryz.underlying3) Tryz.underlying210 (x:=(z,.int .u64 (Zb3 D z))) (i:=i) (by simp [h1]) b
theorem IsLed.put (h:IsLed w B g M D ac rj) (z:Int) (z0: -9223372036854775808≤z) (z1:z<9223372036854775808) (v:Int) (v0:0≤v) (v1:v<18446744073709551616):
  ∃w',(Instr.mapUpdate 210 (.map (some M)) (.int .i64 z) (.int .u64 v)).run Tryz.prog w= .ok () w'∧IsLed w' B g M (putD D z v) ac rj∧Keeps (· =M) w w':=by
 rcases Zgt z v D with ⟨h1,h2,h3,_⟩ | ⟨i,h1,h2,_⟩
 ·obtain⟨w',g1,g2,g3⟩:=h.map.put_no (int_keyed Tryz.underlying3) Tryz.underlying210 (keyI Tryz.underlying3 z z0 z1) (fun x hx=> by
   obtain⟨y,hy,rfl⟩:=List.mem_map.1 hx
   intro e
   injection e with _ e
   exact h1 y hy e) (.int .u64 v)
  refine⟨w',g1,⟨h.blk.kept g3 (fun e=> h.ne e.symm),?_,h.len,?_,?_,h.le,h.ne⟩,g3⟩
  ·rw [h3];simpa using g2
  ·rw [h3];intro x hx
   rcases List.mem_append.1 hx with hx | hx
   ·exact h.key x hx
   ·rw [List.mem_singleton.1 hx];exact⟨z0,z1⟩
  ·rw [h3];intro x hx
   rcases List.mem_append.1 hx with hx | hx
   ·exact h.val x hx
   ·rw [List.mem_singleton.1 hx];exact⟨v0,v1⟩
 ·obtain⟨w',g1,g2,g3⟩:=h.map.put_yes (int_keyed Tryz.underlying3) Tryz.underlying210 (x:=(z,.int .u64 (Zb3 D z))) (i:=i) (by simp [h1]) (.int .u64 v)
  refine⟨w',g1,⟨h.blk.kept g3 (fun e=> h.ne e.symm),?_,h.len,?_,?_,h.le,h.ne⟩,g3⟩
  ·rw [h2]
   simpa [ledL,List.map_set] using g2
  ·rw [h2];intro x hx
   rcases List.mem_or_eq_of_mem_set hx with hx | hx
   ·exact h.key x hx
   ·rw [hx];exact⟨z0,z1⟩
  ·rw [h2];intro x hx
   rcases List.mem_or_eq_of_mem_set hx with hx | hx
   ·exact h.val x hx
   ·rw [hx];exact⟨v0,v1⟩
theorem IsLed.del (h:IsLed w B g M D ac rj) (z:Int) (z0: -9223372036854775808≤z) (z1:z<9223372036854775808) (ty:TypeId):
  ∃w',(Builtin.delete_ #[210,3] ty #[.map (some M),.int .i64 z]).run Tryz.prog w= .ok (.tuple #[]) w'∧IsLed w' B g M (delD D z) ac rj∧Keeps (· =M) w w':=by
 rcases Zgt z 0 D with ⟨h1,_,_,h3⟩ | ⟨i,h1,_,h3⟩
 ·obtain⟨w',g1,g2,g3⟩:=h.map.del_no (int_keyed Tryz.underlying3) Tryz.underlying210 (keyI Tryz.underlying3 z z0 z1) (fun x hx=> by
   obtain⟨y,hy,rfl⟩:=List.mem_map.1 hx
   intro e
   injection e with _ e
   exact h1 y hy e) ty
  rw [h3]
  exact⟨w',g1,⟨h.blk.kept g3 (fun e=> h.ne e.symm),g2,h.len,h.key,h.val,h.le,h.ne⟩,g3⟩
 ·obtain⟨w',g1,g2,g3⟩:=h.map.del_yes (int_keyed Tryz.underlying3) Tryz.underlying210 (x:=(z,.int .u64 (Zb3 D z))) (i:=i) (by simp [h1]) ty
  rw [h3]
  refine⟨w',g1,⟨h.blk.kept g3 (fun e=> h.ne e.symm),by show Mp _ _ _ _ _ (List.map _ _);rw [ChangeMaps.map_eraseIdx];exact g2,h.len,fun x hx=> h.key x ((List.eraseIdx_sublist _ _).subset hx),fun x hx=> h.val x ((List.eraseIdx_sublist _ _).subset hx),h.le,h.ne⟩,g3⟩
theorem IsLed.cell0 (h:IsLed w B g M D ac rj):w.cell? ⟨g,0,none⟩=some (.map (some M)):=by rw [h.blk.cell 0];simp
theorem IsLed.cell1 (h:IsLed w B g M D ac rj):w.cell? ⟨g,1,none⟩=some (.int .i64 ac):=by rw [h.blk.cell 1];simp
theorem Zi8 (h:IsLed w B g M D ac rj) (z x:Int) (z0: -9223372036854775808≤z) (z1:z<9223372036854775808) (x0:0≤x) (x1:x<18446744073709551616):
  Calls Tryz.prog 114 #[.pointer (some ⟨g,0,none⟩),.int .i64 z,.int .u64 x] w fun e w'=> e= .returned (.bool (Sat.fits (Zb3 D z) x))∧w=w':=by
 have hl:=h.look z z0 z1 false
 simp only [if_neg Bool.false_ne_true] at hl
 have c0:=h.cell0
 have hb:=Zhw h.val z
 have HF:=zz (fun W=> Sat.fits_any (Zb3 D z) x hb.1 hb.2 x0 x1 W)
 generalize Zb3 D z=tz at*
 clear h hb
 go_enter Tryz.func114,Tryz.ntmps114
 go_wp2_with fail
 refine(HF.out _).mono ?_
 rintro e w' ⟨rfl,rfl⟩
 go_wp2_with fail
 go_ret
 exact⟨rfl,rfl⟩
theorem Zjl (h:IsLed w B g M D ac rj) (z x:Int) (z0: -9223372036854775808≤z) (z1:z<9223372036854775808) (x0:0≤x) (x1:x<18446744073709551616) (hf:Sat.fits (Zb3 D z) x=true) (hs:Zb3 D z+x<18446744073709551616) (a0:0≤ac) (a1:ac<1000000000):
  Calls Tryz.prog 117 #[.pointer (some ⟨g,0,none⟩),.int .i64 z,.int .u64 x] w fun e w'=> e= .returned (.bool true)∧IsLed w' B g M (putD D z (Zb3 D z+x)) (ac+1) rj∧Keeps (fun k=> k=g∨k=M) w w':=by
 have hl:=h.look z z0 z1 false
 simp only [if_neg Bool.false_ne_true] at hl
 have c0:=h.cell0
 have hfi:=Zi8 h z x z0 z1 x0 x1
 rw [hf] at hfi
 have HFi:=zz hfi
 clear hfi
 have hb:=Zhw h.val z
 obtain⟨w1,hp,h1,k1⟩:=h.put z z0 z1 (Zb3 D z+x) (by omega) (by omega)
 have hw:IntKind.u64.wrap (Zb3 D z+x)=Zb3 D z+x:=by rw [IntKind.wrap_u64];omega
 have H1:=zz h1
 have K1:=zz k1
 have q1:=h1.cell1
 have f1:=h1.blk.frozen 1
 obtain⟨tz,htz⟩:∃tz,tz=Zb3 D z:=⟨_,rfl⟩
 rw [←htz] at hl hb hp hw hs H1 ⊢
 clear h h1 k1 hf htz
 go_enter Tryz.func117,Tryz.ntmps117
 go_wp2_with fail
 refine(HFi.out).mono ?_
 rintro e w' ⟨rfl,rfl⟩
 go_wp2_with fail
 go_ret
 refine⟨rfl,⟨?_,H1.out.map.kept (Zad w1 g 1 _) H1.out.ne,H1.out.len,H1.out.key,H1.out.val,H1.out.le,H1.out.ne⟩,(K1.out.weak (fun k _ h=> Or.inr h)).step (Zad w1 g 1 _) (fun k _ h=> Or.inl h)⟩
 have:=H1.out.blk.set 1 (.int .i64 (ac+1))
 simpa using this
end
end Go.Proofs.YtjamiaamngalgaaGreat
