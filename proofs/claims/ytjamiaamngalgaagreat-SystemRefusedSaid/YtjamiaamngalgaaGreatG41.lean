/-
  Parts: index.Map[int] of at mos; index.Map[int] of at mos; index.Map[int] of at mos; saving of one element: N; saving. No conditions beyond those of the statement.
-/
import Derived.Test.YtjamiaamngalgaaGreatG40
import Derived.Test.YtjamiaamngalgaaGreatG01
import Derived.Test.YtjamiaamngalgaaGreatG16
import Derived.Test.YtjamiaamngalgaaGreatG15
import Derived.Test.YtjamiaamngalgaaGreatG00
set_option linter.unusedVariables false
set_option linter.unusedSimpArgs false
set_option maxRecDepth 1000000
set_option maxHeartbeats 4000000
namespace Go.Proofs.YtjamiaamngalgaaGreat
open Go.RowKit Cfp
theorem Zlm (n i:Nat):(List.replicate n (0:Int)).getD i 0=0:=by
 rw [List.getD,List.getElem?_replicate];split <;> rfl
theorem Zs4 (l:List UInt8):Hash.key (List.replicate 16 0) 0 l=0:=by
 have h1:∀b:Int,0≤b→b<256→Hash.step (List.replicate 16 0) 0 b=0:=by
  intro b h0 h1
  unfold Hash.step
  have e1:(List.replicate 16 (0:Int)).getD (b / 16).toNat 0=0:=Zlm 16 _
  have e2:(List.replicate 16 (0:Int)).getD (b % 16).toNat 0=0:=Zlm 16 _
  rw [e1,e2]
  decide+kernel
 have h2:∀l:List UInt8,Hash.fold (List.replicate 16 0) 0 l=0:=by
  intro l
  induction l with
  | nil=> rfl
  | cons c l ih=>
    show Hash.fold (List.replicate 16 0) (Hash.step (List.replicate 16 0) 0 (c.toNat:Int)) l=0
    rw [h1 _ (by omega) (by have:=c.toNat_lt;omega)];exact ih
 unfold Hash.key
 rw [if_pos (by simp),h2]
 decide+kernel
def Zs1:Option (ByteArray × Int)→Int
 | none=> 0
 | some _=> 1
def ixCs:Option (ByteArray × Int)→Array Value
 | none=> #[.bool false,.string ⟨#[]⟩,.int .i64 0,.bool false,.string ⟨#[]⟩,.int .i64 0]
 | some (k,v)=> #[.bool true,.string k,.int .i64 v,.bool false,.string ⟨#[]⟩,.int .i64 0]
structure Ix1 (w:World) (B g gt gc tc:Nat) (u:Option (ByteArray × Int)):Prop where
 blk:Blk w g 472 #[.int .i64 1,.int .i64 (Zs1 u),.slice (some ⟨gt,0,none⟩) 16 tc,.int .u64 0,.slice (some ⟨gc,0,none⟩) 2 2]
 tb:Own w B 23 1 (some ⟨gt,0,none⟩) 16 tc ((List.replicate 16 (0:Int)).map (.int .u64))
 cs:Blk w gc 510 (ixCs u)
 le:B≤g∧B≤gt∧B≤gc
section
variable {w w':World} {B g gt gc tc:Nat} {u:Option (ByteArray × Int)} {S:Nat→Prop}
theorem Ix1.kept (h:Ix1 w B g gt gc tc u) (k:Keeps S w w') (hS:¬S g∧¬S gt∧¬S gc):Ix1 w' B g gt gc tc u:=
 ⟨h.blk.kept k hS.1,h.tb.kept k (fun b hb=> by have e:=(Za0 _ _ _).1 hb;subst e;exact hS.2.1),h.cs.kept k hS.2.2,h.le⟩
theorem Ix1.quiet (h:Ix1 w B g gt gc tc u) (k:Keeps NO w w'):Ix1 w' B g gt gc tc u:=h.kept k ⟨fun h=> h,fun h=> h,fun h=> h⟩
end
theorem Zlq (w:World) (B g gt gc tc:Nat) (u:Option (ByteArray × Int)) (h:Ix1 w B g gt gc tc u) (k:ByteArray) (hk:k.size≤140737488351232):
  Calls Tryz.prog 376 #[.pointer (some ⟨g,0,none⟩),.string k] w fun e w'=> e= .returned (.int .i64 0)∧Keeps NO w w':=by
 have HK:=zz (fun q=> Hash.key_any (List.replicate 16 0) (by decide) _ 16 tc w.heap.size (w.drewN q) ((h.tb.rd (by decide)).drewN q) 0 (by omega) (by omega) k hk)
 simp only [Zs4] at HK
 have KS:=zz (fun w=> Hash.slot_any 0 2 (by omega) (by omega) (by omega) (by omega) w)
 rw [show Hash.slot 0 2=0 from by unfold Hash.slot;rw [if_neg (by omega)];rfl] at KS
 have c2:=h.blk.cell 2
 have c3:=h.blk.cell 3
 have c4:=h.blk.cell 4
 clear h
 go_enter Tryz.func376,Tryz.ntmps376
 go_wp2_with fail
 go_quiet ((first
  | (go_at_call 172;first | exact Zd7 (HK.out _) | exact Ze0 (HK.out _))
  | (go_at_call 171;first | exact Zbs (KS.out _) | exact Zas (KS.out _))))
 go_wp2_with fail
 go_ret
 exact⟨rfl,(Kz0 _ w).drewN _⟩
theorem Zlr (w:World) (B g gt gc tc:Nat) (h:Ix1 w B g gt gc tc none) (k:ByteArray) (hk:k.size≤140737488351232):
  Calls Tryz.prog 366 #[.pointer (some ⟨g,0,none⟩),.string k] w fun e w'=> e= .returned (.tuple #[.int .i64 0,.bool false])∧Keeps NO w w':=by
 have HO:=zz (Zlq w B g gt gc tc none h k hk)
 have HH:=zz h
 clear h
 go_enter Tryz.func366,Tryz.ntmps366
 go_wp2_with fail
 refine HO.out.mono ?_
 rintro e w1 ⟨rfl,k1⟩
 have K1:=zz k1
 have H1:=HH.out.quiet k1
 have c4:=H1.blk.cell 4
 have d0:=H1.cs.cell 0
 dsimp only [ixCs] at d0
 clear k1 HO HH H1
 go_wp2_with fail
 go_loopw [6] (fun a wr=> a= .int .i64 0∧wr=w1) (fun _ _=> 0)
 case atStart=> exact⟨rfl,rfl⟩
 case round=>
  obtain⟨rfl,rfl⟩:=hrel
  go_wp2_with fail
  go_ret2
  exact⟨rfl,K1.out⟩
theorem Zsc (w:World) (B g gt gc tc:Nat) (k:ByteArray) (v:Int) (h:Ix1 w B g gt gc tc (some (k,v))) (hk:k.size≤140737488351232):
  Calls Tryz.prog 366 #[.pointer (some ⟨g,0,none⟩),.string k] w fun e w'=> e= .returned (.tuple #[.int .i64 0,.bool true])∧Keeps NO w w':=by
 have HO:=zz (Zlq w B g gt gc tc _ h k hk)
 have HH:=zz h
 clear h
 go_enter Tryz.func366,Tryz.ntmps366
 go_wp2_with fail
 refine HO.out.mono ?_
 rintro e w1 ⟨rfl,k1⟩
 have K1:=zz k1
 have H1:=HH.out.quiet k1
 have c4:=H1.blk.cell 4
 have d0:=H1.cs.cell 0
 have d1:=H1.cs.cell 1
 dsimp only [ixCs] at d0 d1
 clear k1 HO HH H1
 go_wp2_with fail
 go_loopw [6] (fun a wr=> a= .int .i64 0∧wr=w1) (fun _ _=> 0)
 case atStart=> exact⟨rfl,rfl⟩
 case round=>
  obtain⟨rfl,rfl⟩:=hrel
  go_wp2_with fail
  go_ret2
  exact⟨rfl,K1.out⟩
theorem Zur (w:World) (B g gt gc tc:Nat) (h:Ix1 w B g gt gc tc none) (k:ByteArray) (hk:k.size≤140737488351232):
  Calls Tryz.prog 359 #[.pointer (some ⟨g,0,none⟩),.string k] w fun e w'=> e= .returned (.tuple #[.int .i64 0,.bool false])∧Keeps NO w w':=by
 have HO:=zz (Zlr w B g gt gc tc h k hk)
 clear h
 go_enter Tryz.func359,Tryz.ntmps359
 go_wp2_with fail
 refine HO.out.mono ?_
 rintro e w1 ⟨rfl,k1⟩
 have K1:=zz k1
 clear k1 HO
 go_wp2_with fail
 go_ret2
 exact⟨rfl,K1.out⟩
theorem Zq9 (w:World) (B g gt gc tc:Nat) (k:ByteArray) (v:Int) (h:Ix1 w B g gt gc tc (some (k,v))) (hk:k.size≤140737488351232):
  Calls Tryz.prog 359 #[.pointer (some ⟨g,0,none⟩),.string k] w fun e w'=> e= .returned (.tuple #[.int .i64 v,.bool true])∧Keeps NO w w':=by
 have HO:=zz (Zsc w B g gt gc tc k v h hk)
 have HH:=zz h
 clear h
 go_enter Tryz.func359,Tryz.ntmps359
 go_wp2_with fail
 refine HO.out.mono ?_
 rintro e w1 ⟨rfl,k1⟩
 have K1:=zz k1
 have H1:=HH.out.quiet k1
 have c4:=H1.blk.cell 4
 have d2:=H1.cs.cell 2
 dsimp only [ixCs] at d2
 clear k1 HO HH H1
 go_wp2_with fail
 go_ret2
 exact⟨rfl,K1.out⟩
theorem Zun (w:World) (B g gt gc tc:Nat) (h:Ix1 w B g gt gc tc none) (k:ByteArray) (hk:k.size≤140737488351232) (v:Int):
  Calls Tryz.prog 373 #[.pointer (some ⟨g,0,none⟩),.string k,.int .i64 v] w fun e w'=> e= .returned (.int .i64 0)∧Ix1 w' B g gt gc tc (some (k,v))∧Keeps (fun b=> b=g∨b=gc) w w':=by
 have HO:=zz (Zlr w B g gt gc tc h k hk)
 have HH:=zz h
 clear h
 go_enter Tryz.func373,Tryz.ntmps373
 go_wp2_with fail
 refine HO.out.mono ?_
 rintro e w1 ⟨rfl,k1⟩
 have K1:=zz k1
 have H1:=zz (HH.out.quiet k1)
 clear k1 HO HH
 have c0:=H1.out.blk.cell 0
 have c1:=H1.out.blk.cell 1
 dsimp only [Zs1] at c1
 go_wp2_with fail
 go_quiet (fail)
 have H2:=zz (H1.out.quiet ((Kz0 NO w1).drewN nq))
 have K2:=zz (K1.out.trans ((Kz0 NO w1).drewN nq))
 clear c0 c1 H1 K1
 generalize w1.drewN nq=w2 at*
 have c1:=H2.out.blk.cell 1
 have c4:=H2.out.blk.cell 4
 have f1:=H2.out.blk.frozen 1
 have d0:=H2.out.cs.cell 0
 have d1:=H2.out.cs.cell 1
 have d2:=H2.out.cs.cell 2
 have z0:=H2.out.cs.frozen 0
 have z1:=H2.out.cs.frozen 1
 have z2:=H2.out.cs.frozen 2
 have hne:g≠gc:=H2.out.blk.ne H2.out.cs (by decide)
 have hnt:gt≠g:=H2.out.tb.ne_blk H2.out.blk (by decide) (by exact(Za0 _ _ _).2 rfl)
 have hnt2:gt≠gc:=H2.out.tb.ne_blk H2.out.cs (by decide) (by exact(Za0 _ _ _).2 rfl)
 dsimp only [ixCs,Zs1] at d0 d1 d2 c1
 go_wp2_with fail
 go_ret
 have kA:=(Kz0 (· =g) w2).setCell (p:=⟨g,1,none⟩) (.inl rfl) (.int .i64 1)
 have kB:=(((Kz0 (· =gc) (w2.setCell ⟨g,1,none⟩ (.int .i64 1))).setCell (p:=⟨gc,0,none⟩) (.inl rfl) (.bool true)).setCell (p:=⟨gc,1,none⟩) (.inl rfl) (.string k)).setCell (p:=⟨gc,2,none⟩) (.inl rfl) (.int .i64 v)
 refine⟨rfl,⟨?_,?_,?_,H2.out.le⟩,?_⟩
 ·exact(H2.out.blk.set 1 (.int .i64 1)).kept kB hne
 ·exact(H2.out.tb.kept kA (fun b hb=> by have e:=(Za0 _ _ _).1 hb;subst e;exact hnt)).kept kB (fun b hb=> by have e:=(Za0 _ _ _).1 hb;subst e;exact hnt2)
 ·exact(((H2.out.cs.kept kA (Ne.symm hne)).set 0 (.bool true)).set 1 (.string k)).set 2 (.int .i64 v)
 ·exact(K2.out.weak (S':=fun b=> b=g∨b=gc) (fun _ _ h=> h.elim)).trans ((kA.weak (fun _ _ h=> .inl h)).trans (kB.weak (fun _ _ h=> .inr h)))
open Go.RowKit Cfp
theorem Zup (w:World) (B0:Nat) (hB0:B0≤w.heap.size) (T:Option Addr) (tk:Nat) (hT:Rd w B0 T 1 16 ((List.replicate 16 (0:Int)).map (.int .u64))):
  Calls Tryz.prog 286 #[.int .i64 1,.slice T 16 tk,.int .u64 0] w fun e w'=> ∃g gt gc tc,e= .returned (.tuple #[.pointer (some ⟨g,0,none⟩),.int .i64 0])∧Ix1 w' w.heap.size g gt gc tc none∧Keeps NO w w':=by
 have hmk:∀w,(Instr.makeSlice 470 (.int .i64 2) (.int .i64 2)).run Tryz.prog w= .ok (.slice (some ⟨w.heap.size,0,none⟩) 2 2) (w.alloc (.cells (ixCs none) 510)):=fun _=> by kernel_rfl
 have HCl:=zz (fun W (kW:Keeps NO w W)=> Zd0 (l:=List.replicate 16 0) (c:=tk) (hT.kept kW (fun _ _ h=> h)))
 have HT:=zz hT
 clear hT
 have e2:IntKind.i64.wrap 2=2:=by decide
 go_enter Tryz.func286,Tryz.ntmps286
 go_wp2_with (go_at_call 133;refine(Hash.check_16 _ _ _).mono ?_;rintro e w' ⟨rfl,rfl⟩)
 go_region_with ((go_at_call 84;refine(HCl.out _ (by first | exact(Kz0 _ _).drew | exact((Kz0 _ _).drew).alloc _ | exact((Kz0 _ _).drew).drew.alloc _ | exact((Kz0 _ _).drew.alloc _).drew) (by omega)).mono ?_;rintro e w5 ⟨A5,c5,rfl,o5,k5⟩;have O5:=zz o5;have K5:=zz k5;clear o5 k5))
 ·go_wp2_with fail
  go_ret2
  obtain⟨g5,rfl,l5,m5⟩:=Own.some_ O5.out (by omega)
  have kA:=(Kz0 NO w5).alloc (.cells (ixCs none) 510)
  have kB:=(Kz0 NO (w5.alloc (.cells (ixCs none) 510))).alloc (.cells #[.int .i64 1,.int .i64 0,.slice (some ⟨g5,0,none⟩) 16 c5,.int .u64 0,.slice (some ⟨w5.heap.size,0,none⟩) 2 2] 472)
  refine⟨_,g5,w5.heap.size,c5,rfl,⟨?_,?_,(Blk.new w5 _ _).kept kB (fun h=> h),?_⟩,(((Kz0 _ w).drew).trans K5.out).trans (kA.trans kB)⟩
  ·exact Blk.new_at _ _ _ _ (by simp)
  ·exact(O5.out.base_le (by simp)).kept (kA.trans kB) (fun _ _ h=> h)
  ·have:=K5.out.size
   simp at l5 this ⊢
   omega
 ·go_wp2_with fail
  go_ret2
  obtain⟨g5,rfl,l5,m5⟩:=Own.some_ O5.out (by omega)
  have kA:=(Kz0 NO w.drew).alloc (.cells (ixCs none) 510)
  have kB:=(Kz0 NO w5).alloc (.cells #[.int .i64 1,.int .i64 0,.slice (some ⟨g5,0,none⟩) 16 c5,.int .u64 0,.slice (some ⟨w.heap.size,0,none⟩) 2 2] 472)
  refine⟨_,g5,w.heap.size,c5,rfl,⟨?_,?_,?_,?_⟩,?_⟩
  ·exact Blk.new_at _ _ _ _ (by simp)
  ·exact(O5.out.base_le (by simp)).kept kB (fun _ _ h=> h)
  ·exact((Blk.new w.drew _ _).kept K5.out (fun h=> h)).kept kB (fun h=> h)
  ·have:=K5.out.size
   simp at l5 this ⊢
   omega
  ·exact(((Kz0 _ w).drew).trans kA).trans (K5.out.trans kB)
open Go.RowKit Cfp
theorem Zsz:ElemOf Tryz.prog 190 9 1 16:=ElemOf.mk' (z:= .string ⟨#[]⟩) Tryz.underlying190 (by kernel_rfl) rfl (by omega)
theorem Zsb (w:World) (B g gt gc tc:Nat) (h:Ix1 w B g gt gc tc none):
  Calls Tryz.prog 363 #[.pointer (some ⟨g,0,none⟩)] w fun e w'=> e= .returned (.slice none 0 0)∧Keeps NO w w':=by
 have HH:=zz h
 have c4:=h.blk.cell 4
 clear h
 go_enter Tryz.func363,Tryz.ntmps363
 go_wp2_with fail
 go_loopw [3,13] (fun o i wr=> o= .slice none 0 0∧(∃n:Nat,n≤2∧i= .int .i64 n)∧Keeps NO w wr) (fun _ i _=> 2-(intOf i).toNat)
 case atStart=> exact⟨rfl,⟨0,by omega,rfl⟩,Kz0 _ _⟩
 case round=>
  obtain⟨rfl,⟨n,hn,rfl⟩,kr⟩:=hrel
  have KR:=zz kr
  have H1:=HH.out.quiet kr
  have hgl:gc<wr.heap.size:=H1.cs.lt
  have d0:=H1.cs.cell 0
  have d1:=H1.cs.cell 1
  have d2:=H1.cs.cell 2
  have d3:=H1.cs.cell 3
  have d4:=H1.cs.cell 4
  have d5:=H1.cs.cell 5
  dsimp only [ixCs] at d0 d1 d2 d3 d4 d5
  clear H1 HH c4 kr
  rcases(show n=0∨n=1∨n=2 by omega) with rfl | rfl | rfl
  ·go_wp2_with fail
   go_roundw
   case rel=> exact⟨rfl,⟨1,by omega,rfl⟩,KR.out.alloc _⟩
   case measure=> simp [intOf]
  ·go_wp2_with fail
   go_roundw
   case rel=> exact⟨rfl,⟨2,by omega,rfl⟩,KR.out.alloc _⟩
   case measure=> simp [intOf]
  ·go_wp2_with fail
   refine(Zh1 wr none 0 0 (by omega)).mono ?_
   rintro e w2 ⟨rfl,rfl⟩
   go_wp2_with fail
   go_ret
   exact⟨rfl,KR.out⟩
theorem Zsa (w:World) (B g gt gc tc:Nat) (k:ByteArray) (v:Int) (h:Ix1 w B g gt gc tc (some (k,v))):
  Calls Tryz.prog 363 #[.pointer (some ⟨g,0,none⟩)] w fun e w'=> ∃A c,e= .returned (.slice A 1 c)∧Own w' w.heap.size 9 1 A 1 c [.string k]∧Keeps NO w w':=by
 have HH:=zz h
 have c4:=h.blk.cell 4
 clear h
 go_enter Tryz.func363,Tryz.ntmps363
 go_wp2_with fail
 go_loopw [3,13] (fun o i wr=> ((o= .slice none 0 0∧i= .int .i64 0)∨∃(n:Nat) (A:Option Addr) (c:Nat),1≤n∧n≤2∧i= .int .i64 n∧o= .slice A 1 c∧Own wr w.heap.size 9 1 A 1 c [.string k])∧Keeps NO w wr) (fun _ i _=> 2-(intOf i).toNat)
 case atStart=> exact⟨.inl ⟨rfl,rfl⟩,Kz0 _ _⟩
 case round=>
  obtain⟨hor,kr⟩:=hrel
  have KR:=zz kr
  have H1:=HH.out.quiet kr
  have hgl:gc<wr.heap.size:=H1.cs.lt
  have hsz:=kr.size
  have d0:=H1.cs.cell 0
  have d1:=H1.cs.cell 1
  have d2:=H1.cs.cell 2
  have d3:=H1.cs.cell 3
  have d4:=H1.cs.cell 4
  have d5:=H1.cs.cell 5
  dsimp only [ixCs] at d0 d1 d2 d3 d4 d5
  clear H1 HH c4 kr
  rcases hor with ⟨rfl,rfl⟩ | ⟨n,A,c,h1,h2,rfl,rfl,ho⟩
  ·have hwx:Hid (∃wx,wx=wr.alloc (.cells #[.bool true,.string k,.int .i64 v] 510)∧Keeps NO w wx):=zz ⟨_,rfl,KR.out.alloc _⟩
   go_wp2_with (at_builtin;refine Zgv _ Zsz (by omega) rfl (.tmp 19) (.tmp 22) rfl w.heap.size [] rfl (Own.nil _ _ _ _) _ (m:=1) [.string k] rfl (by omega) (by exact Blk.rd (xs:= [.string k]) (Blk.new_at _ _ _ _ (by simp)) rfl) (by simp [Value.oneCell']) (by simp only [maxLen];omega) (by omega) (by simp;omega) ?_;intro A6 c6 w6 o6 k6 hA6 _;have O6:=zz o6;have K6:=zz (((KR.out.alloc _).alloc _).step k6 (fun b hb e=> by obtain⟨_,h,_⟩:=e;cases h));clear o6 k6 hA6)
   go_roundw
   case rel=> exact⟨.inr ⟨1,A6,c6,by omega,by omega,rfl,rfl,O6.out⟩,K6.out⟩
   case measure=> simp [intOf]
  ·have HO:=zz ho
   clear ho
   rcases(show n=1∨n=2 by omega) with rfl | rfl
   ·go_wp2_with fail
    go_roundw
    case rel=> exact⟨.inr ⟨2,A,c,by omega,by omega,rfl,rfl,HO.out.kept ((Kz0 NO wr).alloc _) (fun _ _ h=> h)⟩,KR.out.alloc _⟩
    case measure=> simp [intOf]
   ·go_wp2_with fail
    refine(Zh1 wr A 1 c (by omega)).mono ?_
    rintro e w2 ⟨rfl,rfl⟩
    go_wp2_with fail
    go_ret
    exact⟨A,c,rfl,HO.out,KR.out⟩
open Go.RowKit Cfp
def svE:Option (ByteArray × Int)→Array Value
 | none=> #[.string ⟨#[]⟩,.int .u64 0,.int .u64 0]
 | some (k,v)=> #[.string k,.int .u64 v,.int .u64 0]
def svI:Option (ByteArray × Int)→Option (ByteArray × Int)
 | none=> none
 | some (k,_)=> some (k,0)
structure SvP where
 s:Nat
 g:Nat
 gb:Nat
 gp:Nat
 x:Nat
 gt:Nat
 gc:Nat
 tc:Nat
 ge:Nat
def SvF (p:SvP) (b:Nat):Prop:=b=p.s∨(b=p.g∨b=p.gb∨b=p.gp)∨(b=p.x∨b=p.gc)∨b=p.ge
structure Sv1 (w:World) (B B':Nat) (p:SvP) (u:Option (ByteArray × Int)) (t:Int):Prop where
 blk:Blk w p.s 431 #[.pointer (some ⟨p.g,0,none⟩),.pointer (some ⟨p.x,0,none⟩),.int .i64 1,.slice (some ⟨p.ge,0,none⟩) 1 1,.int .u64 0,.int .u64 t]
 rk:u=none→Rk1 w B p.g p.gb p.gp
 ix:Ix1 w B p.x p.gt p.gc p.tc (svI u)
 en:Blk w p.ge 263 (svE u)
 le:B≤p.s∧B≤p.g∧B≤p.gb∧B≤p.gp∧B≤p.ge
 lt:p.s<B'∧p.g<B'∧p.gb<B'∧p.gp<B'∧p.x<B'∧p.gt<B'∧p.gc<B'∧p.ge<B'
section
variable {w w':World} {B B':Nat} {p:SvP} {u:Option (ByteArray × Int)} {t:Int} {S:Nat→Prop}
theorem Sv1.kept (h:Sv1 w B B' p u t) (k:Keeps S w w') (hS:∀b,B≤b→b<B'→¬S b):Sv1 w' B B' p u t:=by
 obtain⟨a1,a2,a3,a4,a5⟩:=h.le
 obtain⟨b1,b2,b3,b4,b5,b6,b7,b8⟩:=h.lt
 obtain⟨c1,c2,c3⟩:=h.ix.le
 exact⟨h.blk.kept k (hS _ a1 b1),fun e=> (h.rk e).kept k ⟨hS _ a2 b2,hS _ a3 b3,hS _ a4 b4⟩,h.ix.kept k ⟨hS _ c1 b5,hS _ c2 b6,hS _ c3 b7⟩,h.en.kept k (hS _ a5 b8),h.le,h.lt⟩
theorem Sv1.quiet (h:Sv1 w B B' p u t) (k:Keeps NO w w'):Sv1 w' B B' p u t:=h.kept k (fun _ _ _ h=> h)
end
theorem Ztx (w:World):Calls Tryz.prog 223 #[.int .i64 1] w fun e w'=> ∃p,e= .returned (.tuple #[.pointer (some ⟨p.s,0,none⟩),.int .i64 0])∧Sv1 w' w.heap.size w'.heap.size p none 0∧Keeps NO w w':=by
 have hmk:∀w,(Instr.makeSlice 25 (.int .i64 16) (.int .i64 16)).run Tryz.prog w= .ok (.slice (some ⟨w.heap.size,0,none⟩) 16 16) (w.alloc (.cells (Array.replicate 16 (.int .u64 0)) 23)):=fun _=> by kernel_rfl
 have hme:∀w,(Instr.makeSlice 75 (.int .i64 1) (.int .i64 1)).run Tryz.prog w= .ok (.slice (some ⟨w.heap.size,0,none⟩) 1 1) (w.alloc (.cells (svE none) 263)):=fun _=> by kernel_rfl
 go_enter Tryz.func223,Tryz.ntmps223
 go_wp2_with fail
 refine(Zu2 w).mono ?_
 rintro e w1 ⟨g,gb,gp,rfl,h1,k1⟩
 have H1:=zz h1
 have K1:=zz k1
 have hs1:=k1.size
 clear h1 k1
 go_wp2_with fail
 have kT:=(Kz0 NO w1).alloc (.cells (Array.replicate 16 (.int .u64 0)) 23)
 have hbT:=Blk.new w1 23 (Array.replicate 16 (.int .u64 0))
 have HN:=zz (Zup (w1.alloc (.cells (Array.replicate 16 (.int .u64 0)) 23)) (w1.heap.size+1) (by simp) (some ⟨w1.heap.size,0,none⟩) 16 (Blk.rd (xs:=(List.replicate 16 (0:Int)).map (.int .u64)) hbT rfl |>.more (by simp)))
 refine HN.out.mono ?_
 rintro e w2 ⟨x,gt,gc,tc,rfl,h2,k2⟩
 have H2:=zz h2
 have K2:=zz (kT.trans k2)
 have hs2:=K2.out.size
 have hs3:w1.heap.size+1≤w2.heap.size:=by have:=k2.size;simpa using this
 clear h2 k2 kT hbT HN hmk
 go_wp2_with fail
 go_ret2
 have kA:=(Kz0 NO w2).alloc (.cells (svE none) 263)
 have kB:=(Kz0 NO (w2.alloc (.cells (svE none) 263))).alloc (.cells #[.pointer (some ⟨g,0,none⟩),.pointer (some ⟨x,0,none⟩),.int .i64 1,.slice (some ⟨w2.heap.size,0,none⟩) 1 1,.int .u64 0,.int .u64 0] 431)
 have hr:=(H1.out.kept K2.out ⟨fun h=> h,fun h=> h,fun h=> h⟩)
 obtain⟨l1,l2,l3⟩:=H1.out.le
 obtain⟨m1,m2,m3⟩:=H2.out.le
 have n1:=hr.blk.lt
 have n2:gb<w2.heap.size:=by obtain⟨cs,h⟩:=hr.lb;exact h.lt
 have n3:=hr.pl.lt
 have n4:=H2.out.blk.lt
 have n5:gt<w2.heap.size:=(H2.out.tb.inB ((Za0 _ _ _).2 rfl)).2
 have n6:=H2.out.cs.lt
 simp at m1 m2 m3
 refine⟨⟨w2.heap.size+1,g,gb,gp,x,gt,gc,tc,w2.heap.size⟩,rfl,⟨?_,fun _=> hr.kept (kA.trans kB) ⟨fun h=> h,fun h=> h,fun h=> h⟩,?_,(Blk.new w2 _ _).kept kB (fun h=> h),?_,?_⟩,(K1.out.trans K2.out).trans (kA.trans kB)⟩
 ·exact Blk.new_at _ _ _ _ (by simp)
 ·have h3:=H2.out.quiet (kA.trans kB)
  exact⟨h3.blk,h3.tb.base_le (by simp;omega),h3.cs,by simp;omega⟩
 ·simp;omega
 ·simp;omega
open Go.RowKit Cfp
theorem nor3 {b g h p:Nat} (h1:b≠g) (h2:b≠h) (h3:b≠p):¬(b=g∨b=h∨b=p):=by
 rintro(e | e | e)
 ·exact h1 e
 ·exact h2 e
 ·exact h3 e
theorem Zm1 {B B' s g gb gp b:Nat} (h1:B≤g∧B≤gb∧B≤gp) (h2:g<B'∧gb<B'∧gp<B') (h3:s≠g∧s≠gb∧s≠gp) (e:b=g∨b=gb∨b=gp):B≤b∧b<B'∧b≠s:=by
 omega
theorem Ztu (w:World) (B B':Nat) (p:SvP) (t:Int) (h:Sv1 w B B' p none t) (hB:B≤w.heap.size) (k:ByteArray) (hk:k.size≤140737488351232) (v:Int) (v0:0≤v) (v1:v≤9223372036854775808):
  Calls Tryz.prog 362 #[.pointer (some ⟨p.s,0,none⟩),.int .i64 0,.agg #[.string k,.int .u64 v,.int .u64 0]] w fun e w'=> e= .returned (.tuple #[])∧Ix1 w' B p.x p.gt p.gc p.tc (some (k,0))∧Blk w' p.ge 263 (svE (some (k,v)))∧Keeps (fun b=> B≤b∧b<B'∧b≠p.s∧SvF p b) w w':=by
 obtain⟨s,g,gb,gp,x,gt,gc,tc,ge⟩:=p
 have hX:=Blk.new w 263 #[.string k,.int .u64 v,.int .u64 0]
 have kX:=(Kz0 NO w).alloc (.cells #[.string k,.int .u64 v,.int .u64 0] 263)
 have HH:=zz (h.quiet kX)
 have HX:=zz hX
 have hXB:B≤w.heap.size:=hB
 have hgX:Hid (B≤w.heap.size):=zz hB
 have HK:=zz kX
 have hgw:ge<w.heap.size:=h.en.lt
 have HL:=zz h.lt
 have hsw:s<w.heap.size:=h.blk.lt
 clear h hX kX hXB hB
 go_enter Tryz.func362,Tryz.ntmps362
 go_wp2_with fail
 have HS:=zz (HH.out.blk.lt)
 generalize w.alloc _=wa at*
 have HXg:=zz (fun b (hb:b<B') (hB:B≤b)=> hb)
 generalize hXX:w.heap.size=X at*
 have hXg:=hgX.out
 have hne:ge≠s:=HH.out.en.ne HH.out.blk (by decide)
 have hneX:ge≠X:=by omega
 have hsX:s≠X:=by omega
 have c0:=HH.out.blk.cell 0
 have c1:=HH.out.blk.cell 1
 have c3:=HH.out.blk.cell 3
 have x0:=HX.out.cell 0
 have x1:=HX.out.cell 1
 have x2:=HX.out.cell 2
 have e0:=HH.out.en.cell 0
 have e1:=HH.out.en.cell 1
 have e2:=HH.out.en.cell 2
 have f0:=HH.out.en.frozen 0
 have f1:=HH.out.en.frozen 1
 have f2:=HH.out.en.frozen 2
 dsimp only [svE] at e0 e1 e2 f0 f1 f2
 go_region
 have kE:=(((Kz0 (· =ge) wa).setCell (p:=⟨ge,0,none⟩) (.inl rfl) (.string k)).setCell (p:=⟨ge,1,none⟩) (.inl rfl) (.int .u64 v)).setCell (p:=⟨ge,2,none⟩) (.inl rfl) (.int .u64 0) |>.drew
 have hE:Blk (((wa.setCell ⟨ge,0,none⟩ (.string k)).setCell ⟨ge,1,none⟩ (.int .u64 v)).setCell ⟨ge,2,none⟩ (.int .u64 0)).drew ge 263 (svE (some (k,v))):=((HH.out.en.set 0 (.string k)).set 1 (.int .u64 v)).set 2 (.int .u64 0)
 have hr0:=HH.out.rk rfl
 have n1:g≠ge:=hr0.blk.ne HH.out.en (by decide)
 have n2:gb≠ge:=by obtain⟨cs,h2⟩:=hr0.lb;exact h2.ne HH.out.en (by decide)
 have n3:gp≠ge:=hr0.pl.ne HH.out.en (by decide)
 have n4:x≠ge:=HH.out.ix.blk.ne HH.out.en (by decide)
 have n5:gt≠ge:=HH.out.ix.tb.ne_blk HH.out.en (by decide) ((Za0 _ _ _).2 rfl)
 have n6:gc≠ge:=HH.out.ix.cs.ne HH.out.en (by decide)
 have HR:=zz (hr0.kept kE ⟨n1,n2,n3⟩)
 have HI:=zz (HH.out.ix.kept kE ⟨n4,n5,n6⟩)
 have HSb:=zz (HH.out.blk.kept kE (Ne.symm hne))
 have HE:=zz hE
 have HX1:=zz (HX.out.kept kE (fun e=> hneX e.symm))
 have HLE:=zz HH.out.le
 have K1:=zz ((HK.out.weak (S':=fun b=> B≤b∧b<B'∧b≠s∧SvF ⟨s,g,gb,gp,x,gt,gc,tc,ge⟩ b) (fun _ _ h=> h.elim)).step kE (fun b hb e=> by subst e;exact⟨HH.out.le.2.2.2.2,HL.out.2.2.2.2.2.2.2,hne,.inr (.inr (.inr rfl))⟩))
 clear kE hE hr0 n1 n2 n3 n4 n5 n6 HS HH HX c0 c1 c3 x0 x1 x2 e0 e1 e2 f0 f1 f2 HK
 generalize World.drew _=w1 at*
 have hev:IntKind.u64.wrap v=v:=by rw [IntKind.wrap_u64];omega
 have HIn:=zz (fun W (kW:Keeps NO w1 W)=> Zku W B g gb gp (HR.out.kept kW ⟨fun h=> h,fun h=> h,fun h=> h⟩) (by have:=HSb.out.lt;have:=kW.size;have:=HX1.out.lt;omega) v v0 v1)
 have HN:=zz (show s≠g∧s≠gb∧s≠gp∧X≠g∧X≠gb∧X≠gp from by
  refine⟨HSb.out.ne HR.out.blk (by decide),?_,HSb.out.ne HR.out.pl (by decide),HX1.out.ne HR.out.blk (by decide),?_,HX1.out.ne HR.out.pl (by decide)⟩
  ·obtain⟨cs,h2⟩:=HR.out.lb;exact HSb.out.ne h2 (by decide)
  ·obtain⟨cs,h2⟩:=HR.out.lb;exact HX1.out.ne h2 (by decide))
 have HN2:=zz (show ge≠g∧ge≠gb∧ge≠gp∧x≠g∧x≠gb∧x≠gp∧gt≠g∧gt≠gb∧gt≠gp∧gc≠g∧gc≠gb∧gc≠gp from by
  obtain⟨cs,h2⟩:=HR.out.lb
  exact⟨HE.out.ne HR.out.blk (by decide),HE.out.ne h2 (by decide),HE.out.ne HR.out.pl (by decide),HI.out.blk.ne HR.out.blk (by decide),HI.out.blk.ne h2 (by decide),HI.out.blk.ne HR.out.pl (by decide),
   HI.out.tb.ne_blk HR.out.blk (by decide) ((Za0 _ _ _).2 rfl),HI.out.tb.ne_blk h2 (by decide) ((Za0 _ _ _).2 rfl),HI.out.tb.ne_blk HR.out.pl (by decide) ((Za0 _ _ _).2 rfl),HI.out.cs.ne HR.out.blk (by decide),HI.out.cs.ne h2 (by decide),HI.out.cs.ne HR.out.pl (by decide)⟩)
 go_wp2_with fail
 refine wp_region_held_drew (S:=fun W=> Blk W s 431 #[.pointer (some ⟨g,0,none⟩),.pointer (some ⟨x,0,none⟩),.int .i64 1,.slice (some ⟨ge,0,none⟩) 1 1,.int .u64 0,.int .u64 t]∧Blk W X 263 #[.string k,.int .u64 v,.int .u64 0]) (by kernel_rfl) ⟨HSb.out.kept (S:=fun _=> False) (Kz0 _ w1).drew (fun h=> h),HX1.out.kept (S:=fun _=> False) (Kz0 _ w1).drew (fun h=> h)⟩ (fun hHeld=> ?_)
 refine tkA 0 ?_
 refine tkA 1 ?_
 refine tkA 2 ?_
 refine tkA 3 ?_
 refine tkA 4 ?_ (hy:=by intro w hSw; (try dsimp only at hSw); (have q1:=hSw.1.cell 0);clear hSw;go_simp;try (with_reducible rfl))
 refine tkA 5 ?_
 refine tkA 6 ?_
 refine tkA 7 ?_ (hy:=by intro w hSw; (try dsimp only at hSw); (have q1:=hSw.2.cell 1);clear hSw;go_simp;try (with_reducible rfl))
 refine tkA 8 ?_
 refine tkA 9 ?_ (hy:=by intro w hSw; (try dsimp only at hSw); (have q1:=hSw.2.cell 2);clear hSw;go_simp;try (with_reducible rfl))
 refine tkA 10 ?_
 refine rd1 11 (fun K hK=> ?_)
 go_simp
 go_at_call 372
 refine(HIn.out _ ((Kz0 _ w1).drew)).mono ?_
 rintro e w2 ⟨rfl,k2⟩
 have hn:=HN.out
 have hn2:=HN2.out
 have kD:=(Kz0 NO w1).drew
 obtain⟨a1,a2,a3,a4,a5,a6⟩:=hn
 obtain⟨b1,b2,b3,b4,b5,b6,b7,b8,b9,b10,b11,b12⟩:=hn2
 have HSb2:=zz ((HSb.out.kept kD (fun h=> h)).kept k2 (nor3 a1 a2 a3))
 have HX2:=zz ((HX1.out.kept kD (fun h=> h)).kept k2 (nor3 a4 a5 a6))
 have HE2:=zz ((HE.out.kept kD (fun h=> h)).kept k2 (nor3 b1 b2 b3))
 have HI2:=zz ((HI.out.quiet kD).kept k2 ⟨nor3 b4 b5 b6,nor3 b7 b8 b9,nor3 b10 b11 b12⟩)
 have K2:=zz ((K1.out.trans (kD.weak (fun _ _ h=> h.elim))).step k2 (fun b hb e=> ⟨(Zm1 ⟨HLE.out.2.1,HLE.out.2.2.1,HLE.out.2.2.2.1⟩ ⟨HL.out.2.1,HL.out.2.2.1,HL.out.2.2.2.1⟩ ⟨a1,a2,a3⟩ e).1,(Zm1 ⟨HLE.out.2.1,HLE.out.2.2.1,HLE.out.2.2.2.1⟩ ⟨HL.out.2.1,HL.out.2.2.1,HL.out.2.2.2.1⟩ ⟨a1,a2,a3⟩ e).2.1,(Zm1 ⟨HLE.out.2.1,HLE.out.2.2.1,HLE.out.2.2.2.1⟩ ⟨HL.out.2.1,HL.out.2.2.1,HL.out.2.2.2.1⟩ ⟨a1,a2,a3⟩ e).2.2,.inr (.inl e)⟩))
 clear k2 kD a1 a2 a3 a4 a5 a6 b1 b2 b3 b4 b5 b6 b7 b8 b9 b10 b11 b12 HSb HX1 HE HI K1 HIn HR HN2
 try go_wp2_with fail
 refine hK.out _ _ (⟨HSb2.out,HX2.out⟩) (fun hHeld=> ?_)
 clear hK K
 (try simp only [Zpt])
 refine wpAnyH_done (by kernel_rfl) ?_ _
 have HPu:=zz (fun W (kW:Keeps NO w2 W)=> Zun W B x gt gc tc (HI2.out.quiet kW) k hk 0)
 have m1:s≠x:=HSb2.out.ne HI2.out.blk (by decide)
 have m2:s≠gc:=HSb2.out.ne HI2.out.cs (by decide)
 have m3:X≠x:=HX2.out.ne HI2.out.blk (by decide)
 have m4:X≠gc:=HX2.out.ne HI2.out.cs (by decide)
 have m5:ge≠x:=HE2.out.ne HI2.out.blk (by decide)
 have m6:ge≠gc:=HE2.out.ne HI2.out.cs (by decide)
 have HM:=zz (And.intro m1 (And.intro m2 (And.intro m3 (And.intro m4 (And.intro m5 m6)))))
 have HXL:=zz HI2.out.le
 clear m1 m2 m3 m4 m5 m6
 go_wp2_with fail
 have kD:=zz ((Kz0 NO w2).drew)
 refine wp_region_held_drew (S:=fun W=> Blk W s 431 #[.pointer (some ⟨g,0,none⟩),.pointer (some ⟨x,0,none⟩),.int .i64 1,.slice (some ⟨ge,0,none⟩) 1 1,.int .u64 0,.int .u64 t]∧Blk W X 263 #[.string k,.int .u64 v,.int .u64 0]) (by kernel_rfl) ⟨HSb2.out.kept kD.out (fun h=> h),HX2.out.kept kD.out (fun h=> h)⟩ (fun hHeld=> ?_)
 refine tkA 0 ?_
 refine tkA 1 ?_
 refine tkA 2 ?_
 refine tkA 3 ?_
 refine tkA 4 ?_ (hy:=by intro w hSw; (try dsimp only at hSw); (have q1:=hSw.1.cell 1);clear hSw;go_simp;try (with_reducible rfl))
 refine tkA 5 ?_
 refine tkA 6 ?_ (hy:=by intro w hSw; (try dsimp only at hSw); (have q1:=hSw.2.cell 0);clear hSw;go_simp;try (with_reducible rfl))
 refine tkA 7 ?_
 generalize w2.drew=wd at*
 refine rd1 8 (fun K hK=> ?_)
 go_simp
 go_at_call 373
 refine(HPu.out _ kD.out).mono ?_
 rintro e w3 ⟨rfl,h3,k3⟩
 obtain⟨m1,m2,m3,m4,m5,m6⟩:=HM.out
 have HSb3:=zz ((HSb2.out.kept kD.out (fun h=> h)).kept k3 (fun e=> e.elim m1 m2))
 have HX3:=zz ((HX2.out.kept kD.out (fun h=> h)).kept k3 (fun e=> e.elim m3 m4))
 have HE3:=zz ((HE2.out.kept kD.out (fun h=> h)).kept k3 (fun e=> e.elim m5 m6))
 have HI3:=zz h3
 have K3:=zz ((K2.out.trans (kD.out.weak (fun _ _ h=> h.elim))).step k3 (fun b hb e=> by
  rcases e with rfl | rfl
  ·exact⟨HXL.out.1,HL.out.2.2.2.2.1,Ne.symm m1,.inr (.inr (.inl (.inl rfl)))⟩
  ·exact⟨HXL.out.2.2,HL.out.2.2.2.2.2.2.1,Ne.symm m2,.inr (.inr (.inl (.inr rfl)))⟩))
 clear m1 m2 m3 m4 m5 m6 h3 k3 HPu HSb2 HX2 HE2 HI2 K2
 try go_wp2_with fail
 refine hK.out _ _ (⟨HSb3.out,HX3.out⟩) (fun hHeld=> ?_)
 clear hK K
 (try simp only [Zpt])
 refine wpAnyH_done (by kernel_rfl) ?_ _
 go_wp2_with fail
 go_end0
 exact⟨rfl,HI3.out,HE3.out,K3.out⟩
end Go.Proofs.YtjamiaamngalgaaGreat
