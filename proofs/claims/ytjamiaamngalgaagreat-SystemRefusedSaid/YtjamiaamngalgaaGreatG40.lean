/-
  Parts: Zhs of numbered nodes: N; ranks of one element: Ne. No conditions beyond those of the statement.
-/
import Derived.Test.YtjamiaamngalgaaGreatG04
import Derived.Test.YtjamiaamngalgaaGreatG39
set_option linter.unusedVariables false
set_option linter.unusedSimpArgs false
set_option maxRecDepth 1000000
set_option maxHeartbeats 4000000
namespace Go.Proofs.YtjamiaamngalgaaGreat
open Go.RowKit Cfp
theorem Zro (w:World) (n:Int) (n0:1≤n) (n1:n≤8192) (B:Nat) (hB:B≤w.heap.size):
  Calls Tryz.prog 384 #[.int .i64 n] w fun e w'=> e= .returned (.tuple #[.pointer (some ⟨w.heap.size,0,none⟩),.int .i64 0])∧Ls 530 3 1 inV w' B w.heap.size (Zd8 Int n) (· =w.heap.size)∧Keeps NO w w':=by
 go_enter Tryz.func384,Tryz.ntmps384
 go_wp2_with fail
 go_ret2
 refine⟨rfl,⟨none,none,none,none,0,0,0,0,⟨hB,Blk.new w _ _,Own.nil _ _ _ _,Own.nil _ _ _ _,Own.nil _ _ _ _,Own.nil _ _ _ _,fun b hb=> absurd hb (Zaj b),fun b hb=> absurd hb (Zaj b)⟩,fun b hb=> ?_⟩,(Kz0 _ _).alloc _⟩
 rcases hb with e | e | e | e | e
 ·exact e
 ·exact absurd e (Zaj b)
 ·exact absurd e (Zaj b)
 ·exact absurd e (Zaj b)
 ·exact absurd e (Zaj b)
theorem Zuc (w:World) (n:Int) (n0:1≤n) (n1:n≤8192) (B:Nat) (hB:B≤w.heap.size):
  Calls Tryz.prog 317 #[.int .i64 n] w fun e w'=> e= .returned (.tuple #[.pointer (some ⟨w.heap.size,0,none⟩),.int .i64 0])∧Ls 487 466 2 bkC w' B w.heap.size (Zd8 (Int × Option Addr) n) (· =w.heap.size)∧Keeps NO w w':=by
 go_enter Tryz.func317,Tryz.ntmps317
 go_wp2_with fail
 go_ret2
 refine⟨rfl,⟨none,none,none,none,0,0,0,0,⟨hB,Blk.new w _ _,Own.nil _ _ _ _,Own.nil _ _ _ _,Own.nil _ _ _ _,Own.nil _ _ _ _,fun b hb=> absurd hb (Zaj b),fun b hb=> absurd hb (Zaj b)⟩,fun b hb=> ?_⟩,(Kz0 _ _).alloc _⟩
 rcases hb with e | e | e | e | e
 ·exact e
 ·exact absurd e (Zaj b)
 ·exact absurd e (Zaj b)
 ·exact absurd e (Zaj b)
 ·exact absurd e (Zaj b)
theorem Zp1 (w:World) (B g:Nat) (s:LsS (Int × Option Addr)) (F:Nat→Prop) (h:Ls 487 466 2 bkC w B g s F):
  Calls Tryz.prog 382 #[.pointer (some ⟨g,0,none⟩)] w fun e w'=> e= .returned (.int .i64 s.first)∧w=w':=by
 obtain⟨UA,NA,PA,VA,uc,nc,pc,vp,h,_⟩:=h
 have c2:=h.blk.cell 2
 clear h
 go_enter Tryz.func382,Tryz.ntmps382
 go_wp2_with fail
 go_ret
 exact⟨rfl,rfl⟩
theorem Zus (w:World) (B g:Nat) (s:LsS (Int × Option Addr)) (F:Nat→Prop) (h:Ls 487 466 2 bkC w B g s F) (hs:s.used.length≤8192) (i:Nat) (hi:s.used[i]?=some true):
  Calls Tryz.prog 390 #[.pointer (some ⟨g,0,none⟩),.int .i64 i] w fun e w'=> e= .returned (.bool true)∧w=w':=by
 obtain⟨UA,NA,PA,VA,uc,nc,pc,vp,h,_⟩:=h
 have hlt:=(List.getElem?_eq_some_iff.1 hi).1
 obtain⟨GU,rfl,_,_⟩:=h.us.some_ (by omega)
 have f1:w.cell? ⟨GU,i,none⟩=some (.bool true):=(h.us.cell i (by omega)).trans (by simp [hi])
 have c4:=h.blk.cell 4
 simp only [lsC,List.getElem?_toArray,List.getElem?_cons_zero,List.getElem?_cons_succ] at c4
 obtain⟨m,hm⟩:∃m,m=s.used.length:=⟨_,rfl⟩
 rw [←hm] at c4 hlt hs
 have hiI:decide ((i:Int)<(m:Int))=true:=by simp;omega
 have hi0:decide ((0:Int)≤(i:Int))=true:=by simp
 have hj0:(0:Int)≤(i:Int):=by omega
 have hiN:(i:Int)<(m:Int):=by omega
 clear h hi hm
 go_enter Tryz.func390,Tryz.ntmps390
 go_wp2_with fail
 go_ret
 exact⟨rfl,rfl⟩
theorem Zne (w:World) (B g:Nat) (s:LsS (Int × Option Addr)) (F:Nat→Prop) (h:Ls 487 466 2 bkC w B g s F) (hs:s.used.length≤8192) (i:Nat) (x:Int × Option Addr) (hi:s.used[i]?=some true) (hx:s.vals[i]?=some x):
  Calls Tryz.prog 377 #[.pointer (some ⟨g,0,none⟩),.int .i64 i] w fun e w'=> e= .returned (.tuple #[.agg #[.int .u64 x.1,.pointer x.2],.int .i64 0])∧Keeps NO w w':=by
 have HH:=zz (fun W (kW:Keeps NO w W)=> Zus W B g s F (h.quiet kW) hs i hi)
 obtain⟨UA,NA,PA,VA,uc,nc,pc,vp,h,_⟩:=h
 have hlt:=(List.getElem?_eq_some_iff.1 hi).1
 obtain⟨GV,rfl,_,_⟩:=h.vs.some_ (by omega)
 have e0:(s.vals.flatMap bkC)[i*2]?=some (.int .u64 x.1):=by have:=Zag bkC 2 (fun _=> rfl) s.vals i 0 x hx (by omega);simpa using this
 have e1:(s.vals.flatMap bkC)[i*2+1]?=some (.pointer x.2):=by have:=Zag bkC 2 (fun _=> rfl) s.vals i 1 x hx (by omega);simpa using this
 have f0:=(h.vs.cell (i*2) (by omega)).trans e0
 have f1:=(h.vs.cell (i*2+1) (by omega)).trans e1
 have c7:=h.blk.cell 7
 simp only [lsC,List.getElem?_toArray,List.getElem?_cons_zero,List.getElem?_cons_succ] at c7
 have hGl:GV<w.heap.size:=(h.vs.inB ((Za0 _ _ _).2 rfl)).2
 have hgl:g<w.heap.size:=h.blk.lt
 obtain⟨m,hm⟩:∃m,m=s.used.length:=⟨_,rfl⟩
 rw [←hm] at c7 hlt hs
 have hj0:(0:Int)≤(i:Int):=by omega
 have hiN:(i:Int)<(m:Int):=by omega
 clear h hi hm hx e0 e1
 go_enter Tryz.func377,Tryz.ntmps377
 go_wp2_with fail
 refine(HH.out _ ((Kz0 _ w).alloc _)).mono ?_
 rintro e w1 ⟨rfl,rfl⟩
 go_wp2_with fail
 have b9:=Blk.new w 466 #[.int .u64 x.1,.pointer x.2]
 have r0:=b9.cell 0
 have r1:=b9.cell 1
 simp only [Zpg] at r0 r1
 refine bodyPost_ret (v:= .tuple #[.agg #[.int .u64 x.1,.pointer x.2],.int .i64 0]) (by simp [results,Tryz.results377,go_sem,r0,r1]) rfl ?_
 exact⟨rfl,(Kz0 _ _).alloc _⟩
theorem Zrk (w:World) (B g:Nat) (s:LsS (Int × Option Addr)) (F:Nat→Prop) (h:Ls 487 466 2 bkC w B g s F) (hn:s.used.length≤8191) (hB:B≤w.heap.size) (hlen:s.len<s.n) (hl0:0≤s.len) (hl1:s.n≤8192) (hf:s.first= -1) (v:Int × Option Addr) (hFl:∀b,F b→b<w.heap.size):
  Calls Tryz.prog 385 #[.pointer (some ⟨g,0,none⟩),.agg #[.int .u64 v.1,.pointer v.2]] w (Zeu 487 466 2 bkC w B g (s.put11 (0,none) v) F (.tuple #[.int .i64 (Zb0 s.used),.int .i64 0])):=by
 have kX:=(Kz0 NO w).alloc (.cells #[.int .u64 v.1,.pointer v.2] 466)
 have HX:=zz (Blk.new w 466 #[.int .u64 v.1,.pointer v.2])
 have HI:=zz (fun W (kW:Keeps NO w W)=> Zuo W B g s F (h.quiet kW) hn (by have:=kW.size;omega) hlen hl0 hl1 v (fun b hb=> by have:=hFl b hb;have:=kW.size;omega))
 have hgc:∀W,Keeps NO w W→W.cell? ⟨g,2,none⟩=some (.int .i64 (-1)):=fun W kW=> by
  obtain⟨UA,NA,PA,VA,uc,nc,pc,vp,h,_⟩:=h.quiet kW
  have:=h.blk.cell 2
  rw [←hf]
  simpa [lsC] using this
 have HG:=zz hgc
 have KX:=zz kX
 clear kX h hgc hFl hf
 go_enter Tryz.func385,Tryz.ntmps385
 go_upto_region 3 with fail
 generalize w.alloc _=w1 at*
 generalize w.heap.size=X at*
 have KD:=zz (KX.out.drew)
 refine Zat (fun k=> k==6) (S:=fun W=> W.cell? ⟨g,2,none⟩=some (.int .i64 (-1))∧Blk W X 466 #[.int .u64 v.1,.pointer v.2]) (by kernel_rfl) ⟨HG.out _ KD.out,HX.out.kept (S:=fun _=> False) (Kz0 _ w1).drew (fun h=> h)⟩ (fun hHeld=> ?_)
 refine tkB 0 ?_
 refine tkB 1 ?_
 refine tkB 2 ?_
 refine tkB 3 ?_
 refine tkB 4 ?_ (hy:=by intro w hSw; (try dsimp only at hSw); (have q1:=hSw.1);clear hSw;go_simp;try (with_reducible rfl))
 refine tkB 5 ?_ (hy:=by intro w hSw; (try dsimp only at hSw); (have q1:=hSw.2.cell 0;have q2:=hSw.2.cell 1);clear hSw;go_simp;try (with_reducible rfl))
 generalize w1.drew=wd at*
 refine Za2 (rs:= [6]) (by kernel_rfl) (by simp) (AllL.last rfl rfl (fun K hK=> ?_) AllL.nil)
 go_simp
 refine(HI.out _ KD.out).mono ?_
 rintro e w3 ⟨rfl,l3,k3⟩
 have HL:=zz l3
 have K3:=zz ((KD.out.weak (S':=F) (fun _ _ h=> h.elim)).trans k3)
 have hsd:=KD.out.size
 clear l3 k3
 try go_wp2_with fail
 refine hK.out _ _ ?_
 clear hK K
 (try simp only [Zpt])
 refine tkF 7 ?_
 refine tkF 8 ?_
 refine tkF 9 ?_
 refine tkF 10 ?_
 refine Zau (by kernel_rfl) ?_ _
 go_wp2_with fail
 go_ret2
 exact⟨rfl,HL.out.more (fun b hb=> hb.imp id (fun h=> by omega)),K3.out⟩
theorem Znz (w:World) (B g:Nat) (s:LsS Int) (F:Nat→Prop) (h:Ls 530 3 1 inV w B g s F) (hn:s.used.length≤8191) (hB:B≤w.heap.size) (hlen:s.len<s.n) (hl0:0≤s.len) (hl1:s.n≤8192) (hf:s.last= -1) (v:Int):
  Calls Tryz.prog 387 #[.pointer (some ⟨g,0,none⟩),.int .i64 v] w (Zeu 530 3 1 inV w B g (s.put11 0 v) F (.tuple #[.int .i64 (Zb0 s.used),.int .i64 0])):=by
 have HI:=zz (Zs6 w B g s F h hn hB hlen hl0 hl1 v)
 obtain⟨UA,NA,PA,VA,uc,nc,pc,vp,h,_⟩:=h
 have c3:=h.blk.cell 3
 simp only [lsC,List.getElem?_toArray,List.getElem?_cons_zero,List.getElem?_cons_succ,hf] at c3
 clear h hf
 go_enter Tryz.func387,Tryz.ntmps387
 go_wp2_with fail
 refine HI.out.mono ?_
 rintro e w1 ⟨rfl,l1,k1⟩
 have HL:=zz l1
 have K1:=zz k1
 clear l1 k1
 go_wp2_with fail
 go_ret2
 exact⟨rfl,HL.out,K1.out⟩
open Go.RowKit Cfp
abbrev LsB (w:World) (B g:Nat) (s:LsS (Int × Option Addr)) (F:Nat→Prop):Prop:=Ls 487 466 2 bkC w B g s F
structure Rk1 (w:World) (B g gb gp:Nat):Prop where
 blk:Blk w g 469 #[.int .i64 1,.int .i64 0,.pointer (some ⟨gb,0,none⟩),.slice (some ⟨gp,0,none⟩) 1 1]
 ls:LsB w B gb (Zd8 _ 1) (· =gb)
 pl:Blk w gp 513 #[.bool false,.int .i64 0,.int .i64 0]
 le:B≤g∧B≤gb∧B≤gp
section
variable {w w':World} {B g gb gp:Nat} {S:Nat→Prop}
theorem Rk1.lb (h:Rk1 w B g gb gp):∃cs,Blk w gb 487 cs:=by
 obtain⟨_,_,_,_,_,_,_,_,h1,_⟩:=h.ls
 exact⟨_,h1.blk⟩
theorem Rk1.kept (h:Rk1 w B g gb gp) (k:Keeps S w w') (hS:¬S g∧¬S gb∧¬S gp):Rk1 w' B g gb gp:=
 ⟨h.blk.kept k hS.1,h.ls.kept k (fun b hb=> by rw [hb];exact hS.2.1),h.pl.kept k hS.2.2,h.le⟩
end
theorem Zu2 (w:World):Calls Tryz.prog 285 #[.int .i64 1] w fun e w'=> ∃g gb gp,e= .returned (.tuple #[.pointer (some ⟨g,0,none⟩),.int .i64 0])∧Rk1 w' w.heap.size g gb gp∧Keeps NO w w':=by
 have hmk:∀w,(Instr.makeSlice 467 (.int .i64 1) (.int .i64 1)).run Tryz.prog w= .ok (.slice (some ⟨w.heap.size,0,none⟩) 1 1) (w.alloc (.cells #[.bool false,.int .i64 0,.int .i64 0] 513)):=fun _=> by kernel_rfl
 go_enter Tryz.func285,Tryz.ntmps285
 go_wp2_with fail
 refine(Zuc w 1 (by omega) (by omega) w.heap.size (Nat.le_refl _)).mono ?_
 rintro e w1 ⟨rfl,l1,k1⟩
 have HL:=zz l1
 have K1:=zz k1
 have hs1:w.heap.size<w1.heap.size:=by
  obtain⟨_,_,_,_,_,_,_,_,h1,_⟩:=l1
  exact h1.blk.lt
 clear l1 k1
 go_wp2_with fail
 go_ret2
 have kA:=(Kz0 NO w1).alloc (.cells #[.bool false,.int .i64 0,.int .i64 0] 513)
 have kB:=(Kz0 NO (w1.alloc (.cells #[.bool false,.int .i64 0,.int .i64 0] 513))).alloc (.cells #[.int .i64 1,.int .i64 0,.pointer (some ⟨w.heap.size,0,none⟩),.slice (some ⟨w1.heap.size,0,none⟩) 1 1] 469)
 refine⟨w1.heap.size+1,w.heap.size,w1.heap.size,rfl,⟨?_,HL.out.quiet (kA.trans kB),(Blk.new w1 _ _).kept kB (fun h=> h),by omega,Nat.le_refl _,by omega⟩,K1.out.trans (kA.trans kB)⟩
 exact Blk.new_at _ _ _ _ (by simp)
theorem Zvx (w:World) (B g gb:Nat) (s:LsS (Int × Option Addr)) (F:Nat→Prop) (h:LsB w B gb s F) (hs:s.used.length≤8192) (i:Nat) (x:Int × Option Addr) (hi:s.used[i]?=some true) (hx:s.vals[i]?=some x) (hc:w.cell? ⟨g,2,none⟩=some (.pointer (some ⟨gb,0,none⟩))):
  Calls Tryz.prog 368 #[.pointer (some ⟨g,0,none⟩),.int .i64 i] w fun e w'=> e= .returned (.agg #[.int .u64 x.1,.pointer x.2])∧Keeps NO w w':=by
 have kX:=(Kz0 NO w).alloc (.cells #[.int .u64 0,.pointer none] 466)
 have HX:=zz (Blk.new w 466 #[.int .u64 0,.pointer none])
 have HV:=zz (fun W (kW:Keeps NO w W)=> Zne W B gb s F (h.quiet kW) hs i x hi hx)
 have hgl:g<w.heap.size:=block_lt_of_cell hc
 have K0:=zz kX
 clear h hi hx kX
 go_enter Tryz.func368,Tryz.ntmps368
 go_wp2_with fail
 refine(HV.out _ K0.out).mono ?_
 rintro e w1 ⟨rfl,k1⟩
 have HX1:=zz (HX.out.kept k1 (fun h=> h))
 have K1:=zz (K0.out.trans k1)
 have HKS:Hid (∀W a b,Keeps NO w W→Keeps NO w ((W.setCell ⟨w.heap.size,0,none⟩ a).setCell ⟨w.heap.size,1,none⟩ b)):=zz (fun W a b k=> (k.setCell (p:=⟨w.heap.size,0,none⟩) (.inr (Nat.le_refl _)) a).setCell (p:=⟨w.heap.size,1,none⟩) (.inr (Nat.le_refl _)) b)
 clear k1 HX K0 HV
 generalize w.heap.size=X at*
 go_upto_region 2 with fail
 have kA:=(Kz0 NO w1).alloc (.cells #[.int .u64 x.1,.pointer x.2] 466)
 have HX2:=zz (HX1.out.kept kA (fun h=> h))
 have HY:=zz (Blk.new w1 466 #[.int .u64 x.1,.pointer x.2])
 have K2:=zz (K1.out.trans kA)
 have hXl:X<w1.heap.size:=HX1.out.lt
 clear kA HX1 K1
 generalize w1.alloc _=w2 at*
 generalize w1.heap.size=Y at*
 have y0:=HY.out.cell 0
 have y1:=HY.out.cell 1
 have x0:=HX2.out.cell 0
 have x1:=HX2.out.cell 1
 have f0:=HX2.out.frozen 0
 have f1:=HX2.out.frozen 1
 go_wp2_with fail
 have b9:=(HX2.out.set 0 (.int .u64 x.1)).set 1 (.pointer x.2)
 have r0:=b9.cell 0
 have r1:=b9.cell 1
 simp only [List.setIfInBounds_toArray,List.set_cons_zero,List.set_cons_succ,List.getElem?_toArray,List.getElem?_cons_zero,List.getElem?_cons_succ] at r0 r1
 refine bodyPost_ret (v:= .agg #[.int .u64 x.1,.pointer x.2]) (by simp [results,Tryz.results368,go_sem,r0,r1]) rfl ?_
 exact⟨rfl,HKS.out _ _ _ K2.out⟩
theorem Zu3 (w:World) (B g gb gp:Nat) (h:Rk1 w B g gb gp):Calls Tryz.prog 367 #[.pointer (some ⟨g,0,none⟩),.int .i64 0] w fun e w'=> e= .returned (.bool false)∧w=w':=by
 have c0:=h.blk.cell 0
 have c3:=h.blk.cell 3
 have p0:=h.pl.cell 0
 clear h
 go_enter Tryz.func367,Tryz.ntmps367
 go_wp2_with fail
 go_ret
 exact⟨rfl,rfl⟩
theorem Zu0 (w:World) (B g gb gp:Nat) (h:Rk1 w B g gb gp) (hB:B≤w.heap.size) (ct:Int) (c0:0≤ct) (c1:ct<18446744073709551616):
  Calls Tryz.prog 370 #[.pointer (some ⟨g,0,none⟩),.int .i64 0,.int .u64 ct,.int .i64 (-1)] w fun e w'=> e= .returned (.int .i64 0)∧Keeps (fun b=> b=g∨b=gb∨b=gp) w w':=by
 have hgb:=h.lb
 have hn1:g≠gb:=by obtain⟨cs,h2⟩:=hgb;exact h.blk.ne h2 (by decide)
 have hn2:g≠gp:=h.blk.ne h.pl (by decide)
 have hn3:gp≠gb:=by obtain⟨cs,h2⟩:=hgb;exact h.pl.ne h2 (by decide)
 have hgl:g<w.heap.size:=h.blk.lt
 have hgpl:gp<w.heap.size:=h.pl.lt
 have hgbl:gb<w.heap.size:=by obtain⟨cs,h2⟩:=hgb;exact h2.lt
 have HFi:=zz (Zp1 w B gb _ _ h.ls)
 have c2:=h.blk.cell 2
 have q0:=h.blk.cell 0
 have HH:=zz h
 clear h hgb
 go_enter Tryz.func370,Tryz.ntmps370
 go_wp2_with fail
 refine HFi.out.mono ?_
 rintro e w1 ⟨rfl,rfl⟩
 dsimp only [Zd8]
 go_wp2_with fail
 go_loopw [3,9] (fun b a wr=> b= .int .i64 (-1)∧a= .int .i64 (-1)∧wr=w) (fun _ _ _=> 0)
 case atStart=> exact⟨rfl,rfl,rfl⟩
 case round=>
  obtain⟨rfl,rfl,rfl⟩:=hrel
  go_wp2_with fail
  refine(Zro wr 1 (by omega) (by omega) B hB).mono ?_
  rintro e w2 ⟨rfl,li,k2⟩
  obtain⟨gi,hgi⟩:∃gi,gi=wr.heap.size:=⟨_,rfl⟩
  rw [←hgi] at li ⊢
  have HGi:=zz hgi
  have HLi:=zz li
  have H2:=zz (HH.out.kept k2 ⟨fun h=> h,fun h=> h,fun h=> h⟩)
  have K2:=zz k2
  have hs2:=k2.size
  clear li k2 hgi HFi c2 q0 HH
  go_upto_region 12 with fail
  have kX:=(Kz0 NO w2).alloc (.cells #[.int .u64 ct,.pointer (some ⟨gi,0,none⟩)] 466)
  have HX:=zz (Blk.new w2 466 #[.int .u64 ct,.pointer (some ⟨gi,0,none⟩)])
  have H3:=zz (H2.out.kept kX ⟨fun h=> h,fun h=> h,fun h=> h⟩)
  have HLi:=zz (HLi.out.quiet kX)
  have K3:=zz (K2.out.trans kX)
  clear kX H2 K2
  generalize w2.alloc _=w3 at*
  generalize w2.heap.size=X at*
  have KD:=zz ((Kz0 NO w3).drew)
  have HD:=zz (H3.out.kept KD.out ⟨fun h=> h,fun h=> h,fun h=> h⟩)
  have HLi:=zz (HLi.out.quiet KD.out)
  have K3:=zz (K3.out.trans KD.out)
  have HPu:Hid (Calls Tryz.prog 385 #[.pointer (some ⟨gb,0,none⟩),.agg #[.int .u64 ct,.pointer (some ⟨gi,0,none⟩)]] w3.drew fun e w'=> e= .returned (.tuple #[.int .i64 0,.int .i64 0])∧LsB w' B gb ((Zd8 _ 1).put11 (0,none) (ct,some ⟨gi,0,none⟩)) (fun b=> b=gb∨w3.drew.heap.size≤b)∧Keeps (· =gb) w3.drew w'):=
   zz ((Zrk w3.drew B gb _ _ HD.out.ls (by simp [Zd8]) (by have:=K3.out.size;omega) (by simp [Zd8]) (by simp [Zd8]) (by simp [Zd8]) rfl (ct,some ⟨gi,0,none⟩) (fun b hb=> by subst hb;have:=K3.out.size;omega)).mono (fun e w' h=> ⟨h.1,h.2.1,h.2.2⟩))
  refine Zat (fun k=> k==5) (S:=fun W=> W.cell? ⟨g,2,none⟩=some (.pointer (some ⟨gb,0,none⟩))∧Blk W X 466 #[.int .u64 ct,.pointer (some ⟨gi,0,none⟩)]) (by kernel_rfl) ⟨HD.out.blk.cell 2,HX.out.kept KD.out (fun h=> h)⟩ (fun hHeld=> ?_)
  refine tkB 0 ?_
  refine tkB 1 ?_
  refine tkB 2 ?_
  refine tkB 3 ?_ (hy:=by intro w hSw; (try dsimp only at hSw); (have q1:=hSw.1);clear hSw;go_simp;try (with_reducible rfl))
  refine tkB 4 ?_ (hy:=by intro w hSw; (try dsimp only at hSw); (have q1:=hSw.2.cell 0;have q2:=hSw.2.cell 1);clear hSw;go_simp;try (with_reducible rfl))
  clear KD H3 HX
  generalize w3.drew=wd at*
  refine Za2 (rs:= [5]) (by kernel_rfl) (by simp) (AllL.last rfl rfl (fun K hK=> ?_) AllL.nil)
  go_simp
  refine HPu.out.mono ?_
  rintro e w5 ⟨rfl,l5,k5⟩
  have hne1:gi≠gb:=by have:=HGi.out;omega
  have HLb:=zz l5
  have HLi:=zz (HLi.out.kept k5 (fun b hb=> by rw [hb];exact hne1))
  have HR5:=zz (HD.out.blk.kept k5 hn1)
  have HP5:=zz (HD.out.pl.kept k5 hn3)
  have K5:=zz ((K3.out.weak (S':=fun b=> b=g∨b=gb∨b=gp) (fun _ _ h=> h.elim)).step k5 (fun b hb e=> .inr (.inl e)))
  have hs5:=K5.out.size
  clear l5 k5 HPu HD K3
  try go_wp2_with fail
  refine hK.out _ _ ?_
  clear hK K
  (try simp only [Zpt])
  refine tkF 6 ?_
  refine tkF 7 ?_
  refine tkF 8 ?_
  refine tkF 9 ?_
  refine tkF 10 ?_
  refine Zau (by kernel_rfl) ?_ _
  have HOf:=zz (Zvx w5 B g gb _ _ HLb.out (show 1≤8192 by omega) 0 (ct,some ⟨gi,0,none⟩) rfl rfl (HR5.out.cell 2))
  go_wp2_with fail
  refine HOf.out.mono ?_
  rintro e w6 ⟨rfl,k6⟩
  have HLi:=zz (HLi.out.quiet k6)
  have HR6:=zz (HR5.out.kept k6 (fun h=> h))
  have HP6:=zz (HP5.out.kept k6 (fun h=> h))
  have K6:=zz (K5.out.step0 k6)
  have hs6:=K6.out.size
  clear k6 HOf HLb HR5 HP5 K5
  have hfd:∀w,(Instr.field 466 (.agg #[.int .u64 ct,.pointer (some ⟨gi,0,none⟩)]) 1).run Tryz.prog w= .ok (.pointer (some ⟨gi,0,none⟩)) w:=fun _=> by kernel_rfl
  have HPi:Hid (Calls Tryz.prog 387 #[.pointer (some ⟨gi,0,none⟩),.int .i64 0] w6 fun e w'=> e= .returned (.tuple #[.int .i64 0,.int .i64 0])∧Keeps (· =gi) w6 w'):=
   zz ((Znz w6 B gi _ _ HLi.out (by simp [Zd8]) (by omega) (by simp [Zd8]) (by simp [Zd8]) (by simp [Zd8]) rfl 0).mono (fun e w' h=> ⟨h.1,h.2.2⟩))
  go_wp2_with fail
  refine HPi.out.mono ?_
  rintro e w7 ⟨rfl,k7⟩
  have hgg:g≠gi:=by have:=HGi.out;have:=hn1;intro e;subst e;omega
  have hgp:gp≠gi:=by have:=HGi.out;intro e;subst e;omega
  have HR7:=zz (HR6.out.kept k7 hgg)
  have HP7:=zz (HP6.out.kept k7 hgp)
  have K7:=zz (K6.out.step k7 (fun b hb e=> by have:=HGi.out;omega))
  clear k7 HPi HLi HR6 HP6 K6 hfd
  have p0:=HP7.out.cell 0
  have p1:=HP7.out.cell 1
  have p2:=HP7.out.cell 2
  have z0:=HP7.out.frozen 0
  have z1:=HP7.out.frozen 1
  have z2:=HP7.out.frozen 2
  have r1:=HR7.out.cell 1
  have r3:=HR7.out.cell 3
  have y1:=HR7.out.frozen 1
  go_wp2_with fail
  go_ret
  exact⟨rfl,(((K7.out.setCell (p:=⟨gp,0,none⟩) (.inl (.inr (.inr rfl))) _).setCell (p:=⟨gp,1,none⟩) (.inl (.inr (.inr rfl))) _).setCell (p:=⟨gp,2,none⟩) (.inl (.inr (.inr rfl))) _).setCell (p:=⟨g,1,none⟩) (.inl (.inl rfl)) _⟩
theorem Zku (w:World) (B g gb gp:Nat) (h:Rk1 w B g gb gp) (hB:B≤w.heap.size) (ct:Int) (c0:0≤ct) (c1:ct≤9223372036854775808):
  Calls Tryz.prog 372 #[.pointer (some ⟨g,0,none⟩),.int .i64 0,.int .u64 ct] w fun e w'=> e= .returned (.int .i64 0)∧Keeps (fun b=> b=g∨b=gb∨b=gp) w w':=by
 have HP:=zz (Zu0 w B g gb gp h hB ct c0 (by omega))
 have HH:=zz (Zu3 w B g gb gp h)
 have q0:=h.blk.cell 0
 have e1:decide (9223372036854775808<ct)=false:=by simp;omega
 clear h
 go_enter Tryz.func372,Tryz.ntmps372
 go_wp2_with fail
 refine HH.out.mono ?_
 rintro e w1 ⟨rfl,rfl⟩
 go_wp2_with fail
 refine HP.out.mono ?_
 rintro e w1 ⟨rfl,k1⟩
 have K1:=zz k1
 clear k1 HP HH
 go_wp2_with fail
 go_ret
 exact⟨rfl,K1.out⟩
end Go.Proofs.YtjamiaamngalgaaGreat
