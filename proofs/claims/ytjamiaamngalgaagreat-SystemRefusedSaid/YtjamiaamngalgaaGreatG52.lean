/-
  Parts: cluster.Tick of one shar; script.tick of one shard; script.typed, script.Do; Type tests of a script's; script. No conditions beyond those of the statement.
-/
import Derived.Test.YtjamiaamngalgaaGreatG00
import Derived.Test.YtjamiaamngalgaaGreatG51
import Derived.Test.YtjamiaamngalgaaGreatG33
import Derived.Test.YtjamiaamngalgaaGreatG35
set_option linter.unusedVariables false
set_option linter.unusedSimpArgs false
set_option maxRecDepth 1000000
set_option maxHeartbeats 4000000
namespace Go.Proofs.YtjamiaamngalgaaGreat
open Go.RowKit Go.Maps Cfp
def TkF (kc:Nat) (mb:MB) (MT ML:Nat) (w:World) (b:Nat):Prop:=ClF mb MT ML w b∨b=kc
section
variable {w w' w0:World} {kc:Nat} {mb:MB} {MT ML B:Nat} {S:Nat→Prop}
theorem TkF.quiet (h:Keeps NO w w'):Keeps (TkF kc mb MT ML w) w w':=h.weak (fun _ _ h=> h.elim)
theorem TkF.step (h:Keeps (TkF kc mb MT ML w0) w0 w) (k:Keeps S w w') (hs:∀b,b<w0.heap.size→S b→TkF kc mb MT ML w b):Keeps (TkF kc mb MT ML w0) w0 w':=by
 refine h.step k (fun b hb hS=> ?_)
 by_cases hn:TkF kc mb MT ML w0 b
 ·exact hn
 ·rcases hs b hb hS with ((h1 | h1) | h1) | h1
  ·exact .inl (.inl (.inl (h1.same (h.block b hb hn))))
  ·exact .inl (.inl (.inr h1))
  ·exact .inl (.inr h1)
  ·exact .inr h1
end
theorem Zv3:ElemOf Tryz.prog 85 91 7 88:=ElemOf.mk' (z:= .agg #[.int .i64 0,.int .u64 0,.slice none 0 0,.int .u64 0,.int .i64 0,.int .u64 0,.slice none 0 0]) Tryz.underlying85 (by kernel_rfl) rfl (by omega)
def Zgs (kc:Nat) (mb:MB) (MT ML:Nat) (w:World) (key:ByteArray) (e:Ending) (w':World):Prop:=
 ∃A cA GL cL GJ cJ,e= .returned (.tuple #[.slice A 1 cA,.int .i64 0])∧Own w' w.heap.size 91 7 A 1 cA (rpC 0 5 (some ⟨GL,0,none⟩) 1 cL 0 1 0 (some ⟨GJ,0,none⟩) 7 cJ).toList∧Own w' w.heap.size 139 3 (some ⟨GL,0,none⟩) 1 cL [.string key,.int .u64 5,.int .u64 5]∧Own w' w.heap.size 23 1 (some ⟨GJ,0,none⟩) 7 cJ ((List.replicate 7 (0:Int)).map (.int .u64))∧Keeps (TkF kc mb MT ML w) w w'
theorem Zt7 (w:World) (mb:MB) (MT kc SB cap led ML BL:Nat) (c:Cfg) (hf:Fine c) (hlow:Zcv c 5=5) (C T:Option Addr) (n k j:Nat) (ar:Value) (st:Option Addr) (sn sc:Nat) (skip:Int) (br:Bool) (ac v0:Int) (rj:List Int) (key:ByteArray)
  (hb:Blk w kc 123 (cluC c C T n k j ar (some ⟨SB,0,none⟩) 1 cap led st sn sc skip br 0)) (hl:IsLed w BL led ML [(0,v0)] ac rj)
  (HC:∀W,Keeps (· =kc) w W→Blk W kc 123 (cluC c C T n k j ar (some ⟨SB,0,none⟩) 1 cap led st sn sc skip br 5)→Calls Tryz.prog 74 #[.pointer (some ⟨kc,0,none⟩),.int .i64 0,.slice none 0 0] W (Zql mb MT ML W key)):
  Calls Tryz.prog 29 #[.pointer (some ⟨kc,0,none⟩),.int .i64 5,.slice none 0 0] w (Zgs kc mb MT ML w key):=by
 have HB:=zz hb
 have HL:=zz hl
 have HCl:=zz HC
 have hlk:kc≠led:=hb.ne hl.blk (by decide)
 have hMk:=hl.map.ne_blk hb
 have hMl:=hl.ne
 have c23:=hb.cell 23
 have f23:=hb.frozen 23
 have hkc:=hb.lt
 clear hb hl HC
 go_enter Tryz.func29,Tryz.ntmps29
 go_wp2_with fail
 go_step3
 go_upto_region 6 with fail
 simp only [show max (0:Int) 5=5 from by decide]
 have kS:Keeps (· =kc) w (w.setCell ⟨kc,23,none⟩ (.int .i64 5)):=(Kz0 (· =kc) _).setCell (p:=⟨kc,23,none⟩) (.inl rfl) _
 have HB1:=zz (show Blk (w.setCell ⟨kc,23,none⟩ (.int .i64 5)) kc 123 (cluC c C T n k j ar (some ⟨SB,0,none⟩) 1 cap led st sn sc skip br 5) from HB.out.set 23 _)
 have HL1:=zz (HL.out.kept kS (fun e=> hlk e.symm) hMk)
 have K1:=zz (show Keeps (· =kc) w (w.setCell ⟨kc,23,none⟩ (.int .i64 5)) from kS)
 clear kS c23 f23 HB HL
 generalize w.setCell _ _=w1 at*
 have HB2:=zz (HB1.out.kept ((Kz0 NO w1).drew) (fun h=> h))
 have HL2:=zz (HL1.out.quiet ((Kz0 NO w1).drew))
 have K2:=zz (K1.out.drew)
 clear HB1 HL1 K1
 refine wp_region_held_drew (S:=fun W=> Blk W kc 123 (cluC c C T n k j ar (some ⟨SB,0,none⟩) 1 cap led st sn sc skip br 5)) (by kernel_rfl) HB2.out (fun hHeld=> ?_)
 refine tkA 0 ?_
 refine tkA 1 ?_
 refine tkA 2 ?_
 refine wpAnyH_take (i:=3) (v:=_) rfl (by kernel_rfl) (by kernel_rfl) (by kernel_rfl) (fun _ _ _ h=> h) (Zal (c:=c) (C:=C) (T:=T) (n:=n) (k:=k) (q:=16) (j:=j) (g:=kc) (off:=0) (.tmp 31) rfl (fun _ h=> (Zcz h)) (by simp [Act.eval,Act.put]) (by kernel_rfl)) (by assumption) ?_
 (try simp only [Zpt])
 refine tkA 4 ?_
 refine tkA 5 ?_
 refine tkA 6 ?_
 refine tkA 7 ?_ (hy:=by intro w hSw; (try dsimp only at hSw); (have q1:=hSw.cell 23);clear hSw;go_simp;try (with_reducible rfl))
 generalize w1.drew=w2 at*
 refine rd1 8 (fun K hK=> ?_)
 go_simp
 go_at_call 73
 refine(Zmp c hf C T n k 16 j 5 w2 (by omega) (by omega)).mono ?_
 rintro e w3 ⟨rfl,k3⟩
 rw [hlow]
 have HB3:=zz (HB2.out.kept k3 (fun h=> h))
 have HL3:=zz (HL2.out.quiet k3)
 have K3:=zz (K2.out.step k3 (fun _ _ h=> h.elim))
 clear k3 HB2 HL2 K2
 try go_wp2_with fail
 refine hK.out _ _ (HB3.out) (fun hHeld=> ?_)
 clear hK K
 (try simp only [Zpt])
 refine tkA 9 ?_
 refine wpAnyH_done (by kernel_rfl) ?_ _
 have c19:=HB3.out.cell 19
 have HW:=zz (Zh9 HL3.out (by simp))
 go_wp2_with fail
 go_step3
 go_wp2_with fail
 refine HW.out.mono ?_
 rintro e w4 ⟨A,cA,rfl,oA,k4⟩
 have HA:=zz (show Own w4 w3.heap.size 3 1 A 1 cA [.int .i64 0] from by
  have h:=oA
  rw [show srtZ ([((0:Int),v0)].map (·.1))= [0] from by simp [srtZ]] at h
  exact h)
 have HB4:=zz (HB3.out.kept k4 (fun h=> h))
 have K4:=zz (K3.out.step k4 (fun _ _ h=> h.elim))
 clear k4 oA HW HB3 HL3 K3 c19
 obtain⟨gA,rfl,_,_⟩:=HA.out.some_ (by omega)
 go_wp2_with fail
 go_loopw [9,44] (fun rv iv wr=> (iv= .int .i64 0∧rv= .slice none 0 0∧wr=w4)∨(iv= .int .i64 1∧∃A cA,rv= .slice A 1 cA∧Hid (∃GL cL GJ cJ,Own wr w.heap.size 91 7 A 1 cA (rpC 0 5 (some ⟨GL,0,none⟩) 1 cL 0 1 0 (some ⟨GJ,0,none⟩) 7 cJ).toList∧Own wr w.heap.size 139 3 (some ⟨GL,0,none⟩) 1 cL [.string key,.int .u64 5,.int .u64 5]∧Own wr w.heap.size 23 1 (some ⟨GJ,0,none⟩) 7 cJ ((List.replicate 7 (0:Int)).map (.int .u64))∧Keeps (TkF kc mb MT ML w) w wr))) (fun _ iv _=> 1-(intOf iv).toNat)
 case atStart=> exact .inl ⟨rfl,rfl,rfl⟩
 case round=>
  rcases hrel with ⟨rfl,rfl,rfl⟩ | ⟨rfl,A2,cA2,rfl,HQ⟩
  ·obtain⟨wo,rfl⟩:∃wo:World,wo=wr:=⟨_,rfl⟩
   have a0:=HA.out.cell 0 (by omega)
   have HC5:=zz (HCl.out wo K4.out HB4.out)
   go_wp2_with fail
   refine HC5.out.mono ?_
   rintro e w5 ⟨GL,cL,GJ,cJ,rfl,ol,oj,k5⟩
   have hle:=K4.out.size
   have OL:=zz (ol.base_le (show w.heap.size≤_ from hle))
   have OJ:=zz (oj.base_le (show w.heap.size≤_ from hle))
   have K5:=zz (TkF.step (kc:=kc) (mb:=mb) (MT:=MT) (ML:=ML) (K4.out.weak (S':=TkF kc mb MT ML w) (fun _ _ h=> .inr h)) k5 (fun b _ h=> .inl h))
   have hw5:=K5.out.size
   clear ol oj k5 HC5 HB4 K4 HA a0 hle
   go_wp2_with (at_builtin;refine Za5 _ Zv3 rfl (.tmp 51) (.tmp 56) rfl w.heap.size [] rfl (Own.nil _ _ _ _) _ (m:=1) (rpC 0 5 (some ⟨GL,0,none⟩) 1 cL 0 1 0 (some ⟨GJ,0,none⟩) 7 cJ).toList rfl (by exact Blk.rd (sz:=7) (xs:=(rpC 0 5 (some ⟨GL,0,none⟩) 1 cL 0 1 0 (some ⟨GJ,0,none⟩) 7 cJ).toList) (Blk.new_at _ _ _ _ (by simp)) rfl) (by simp [Value.oneCell']) (by simp only [maxLen];omega) (by omega) (by simp;omega) ?_;intro A6 c6 w6 o6 k6 hA6;have O6:=zz o6;have K6:=zz (((Kz0 NO w5).alloc (.cells (rpC 0 5 (some ⟨GL,0,none⟩) 1 cL 0 1 0 (some ⟨GJ,0,none⟩) 7 cJ) 91)).step k6 (fun b hb e=> by obtain⟨_,h,_⟩:=e;cases h));clear o6 k6 hA6)
   have HQ:=zz (show∃GL cL GJ cJ,Own w6 w.heap.size 91 7 A6 1 c6 (rpC 0 5 (some ⟨GL,0,none⟩) 1 cL 0 1 0 (some ⟨GJ,0,none⟩) 7 cJ).toList∧Own w6 w.heap.size 139 3 (some ⟨GL,0,none⟩) 1 cL [.string key,.int .u64 5,.int .u64 5]∧Own w6 w.heap.size 23 1 (some ⟨GJ,0,none⟩) 7 cJ ((List.replicate 7 (0:Int)).map (.int .u64))∧Keeps (TkF kc mb MT ML w) w w6 from
    ⟨GL,cL,GJ,cJ,O6.out,OL.out.kept K6.out (fun _ _ h=> h),OJ.out.kept K6.out (fun _ _ h=> h),TkF.step K5.out K6.out (fun _ _ h=> h.elim)⟩)
   clear O6 OL OJ K5 K6
   go_roundw
   case rel=> exact .inr ⟨rfl,A6,c6,rfl,HQ⟩
   case measure=> simp [intOf]
  ·clear HB4 K4 HA HCl
   go_wp2_with fail
   try rw [Exit.noGoto_ret]
   go_ret2
   obtain⟨GL,cL,GJ,cJ,h1,h2,h3,h4⟩:=HQ.out
   exact⟨A2,cA2,GL,cL,GJ,cJ,rfl,h1,h2,h3,h4⟩
open Go.RowKit Go.Maps Cfp
abbrev opC (kd:Int) (fA:Option Addr) (fn fc:Nat) (t lo:Int) (key:ByteArray) (zA:Option Addr) (zn zc:Nat):Array Value:= #[.int .i64 kd,.slice fA fn fc,.int .i64 t,.int .i64 lo,.string key,.slice zA zn zc]
abbrev opV (kd:Int) (fA:Option Addr) (fn fc:Nat) (t lo:Int) (key:ByteArray) (zA:Option Addr) (zn zc:Nat):Value:= .agg #[.int .i64 kd,.slice fA fn fc,.int .i64 t,.int .i64 lo,.string key,.slice zA zn zc]
abbrev rsC (vA:Option Addr) (vn vc:Nat) (rA:Option Addr) (rn rc:Nat) (er:Int):Array Value:= #[.slice vA vn vc,.slice rA rn rc,.bool false,.int .u64 0,.int .u64 0,.bool false,.int .u64 0,.int .i64 er]
theorem Zv6:ElemOf Tryz.prog 133 57 1 24:=ElemOf.mk' (z:= .slice none 0 0) Tryz.underlying133 (by kernel_rfl) rfl (by omega)
theorem Zkp {w:World} {R:Nat} {cs:Array Value} (h:Blk w R 135 cs) (vA:Option Addr) (vn vc:Nat) (rA:Option Addr) (rn rc:Nat) (er:Int) (hcs:cs.size=8:=by rfl):
  Blk ((((((((w.setCell ⟨R,0,none⟩ (.slice vA vn vc)).setCell ⟨R,1,none⟩ (.slice rA rn rc)).setCell ⟨R,2,none⟩ (.bool false)).setCell ⟨R,3,none⟩ (.int .u64 0)).setCell ⟨R,4,none⟩ (.int .u64 0)).setCell ⟨R,5,none⟩ (.bool false)).setCell ⟨R,6,none⟩ (.int .u64 0)).setCell ⟨R,7,none⟩ (.int .i64 er)) R 135 (rsC vA vn vc rA rn rc er)∧Keeps (· =R) w ((((((((w.setCell ⟨R,0,none⟩ (.slice vA vn vc)).setCell ⟨R,1,none⟩ (.slice rA rn rc)).setCell ⟨R,2,none⟩ (.bool false)).setCell ⟨R,3,none⟩ (.int .u64 0)).setCell ⟨R,4,none⟩ (.int .u64 0)).setCell ⟨R,5,none⟩ (.bool false)).setCell ⟨R,6,none⟩ (.int .u64 0)).setCell ⟨R,7,none⟩ (.int .i64 er)):=by
 obtain⟨l⟩:=cs
 match l,hcs with
 | [_,_,_,_,_,_,_,_],_=>
   have hh:=((((((((h.set 0 (.slice vA vn vc)).set 1 (.slice rA rn rc)).set 2 (.bool false)).set 3 (.int .u64 0)).set 4 (.int .u64 0)).set 5 (.bool false)).set 6 (.int .u64 0)).set 7 (.int .i64 er))
   simp only [List.setIfInBounds_toArray,List.set_cons_zero,List.set_cons_succ] at hh
   exact⟨hh,(((((((((Kz0 (· =R) w).setCell (p:=⟨R,0,none⟩) (.inl rfl) (.slice vA vn vc)).setCell (p:=⟨R,1,none⟩) (.inl rfl) (.slice rA rn rc)).setCell (p:=⟨R,2,none⟩) (.inl rfl) (.bool false)).setCell (p:=⟨R,3,none⟩) (.inl rfl) (.int .u64 0)).setCell (p:=⟨R,4,none⟩) (.inl rfl) (.int .u64 0)).setCell (p:=⟨R,5,none⟩) (.inl rfl) (.bool false)).setCell (p:=⟨R,6,none⟩) (.inl rfl) (.int .u64 0)).setCell (p:=⟨R,7,none⟩) (.inl rfl) (.int .i64 er))⟩
theorem TkF.not {w:World} {kc:Nat} {mb:MB} {MT ML b:Nat} {t:TypeId} {cs:Array Value} (h:Blk w b t cs) (ho:Zd3 t) (h1:b≠kc) (h2:b≠MT) (h3:b≠ML):¬TkF kc mb MT ML w b:=by
 rintro((e | e) | e)
 ·exact StF.not h h2 ho e
 ·exact h3 e
 ·exact h1 e
def Zn4 (kc:Nat) (mb:MB) (MT ML:Nat) (w:World) (key:ByteArray) (e:Ending) (w':World):Prop:=
 ∃A cA A2 n2 c2,e= .returned (.agg (rsC none 0 0 A 1 cA 0))∧Own w' w.heap.size 57 1 A 1 cA [.slice A2 n2 c2]∧Own w' w.heap.size 5 1 A2 n2 c2 ((repB key).map by8)∧Keeps (TkF kc mb MT ML w) w w'
theorem Zr4 (w:World) (mb:MB) (MT kc ML:Nat) (key:ByteArray) (hke:(key.toList== [])=false) (hk:key.size≤255) (lo:Int) (kk:ByteArray) (kd:Int) (fA:Option Addr) (fn fc:Nat) (hM:MT<w.heap.size∧ML<w.heap.size∧kc<w.heap.size)
  (HT:∀W,Keeps NO w W→Calls Tryz.prog 29 #[.pointer (some ⟨kc,0,none⟩),.int .i64 5,.slice none 0 0] W (Zgs kc mb MT ML W key)):
  Calls Tryz.prog 155 #[.pointer (some ⟨kc,0,none⟩),opV kd fA fn fc 5 lo kk none 0 0] w (Zn4 kc mb MT ML w key):=by
 have kR:=((Kz0 NO w).alloc (.cells (opC kd fA fn fc 5 lo kk none 0 0) 131)).alloc (.cells (rsC none 0 0 none 0 0 0) 135)
 have HO1:=zz ((Blk.new w 131 (opC kd fA fn fc 5 lo kk none 0 0)).alloc (.cells (rsC none 0 0 none 0 0 0) 135))
 have HR1:=zz (show Blk ((w.alloc (.cells (opC kd fA fn fc 5 lo kk none 0 0) 131)).alloc (.cells (rsC none 0 0 none 0 0 0) 135)) (w.heap.size+1) 135 (rsC none 0 0 none 0 0 0) from Blk.new_at _ _ _ _ (by simp))
 have HTi:=zz (fun W kW=> HT W (kR.trans kW))
 have K1:=zz kR
 clear kR HT
 go_enter Tryz.func155,Tryz.ntmps155
 go_upto_region 1 with fail
 obtain⟨R,hR⟩:∃R,R=w.heap.size+1:=⟨_,rfl⟩
 have HRw:=zz (show w.heap.size<R from by omega)
 rw [←hR] at HR1 ⊢
 generalize World.alloc (World.alloc w _) _=w1 at*
 clear hR
 have c2:=HO1.out.cell 2
 have c5:=HO1.out.cell 5
 go_wp2_with fail
 refine(HTi.out w1 (Kz0 _ _)).mono ?_
 rintro e w2 ⟨A,cA,GL,cL,GJ,cJ,rfl,oA,oL,oJ,k2⟩
 have hrw:=HRw.out
 have HR2:=zz (HR1.out.kept k2 (TkF.not HR1.out (by decide) (by omega) (by omega) (by omega)))
 have hw1:=K1.out.size
 have OA:=zz (oA.base_le (show w.heap.size≤_ from hw1))
 have OL:=zz oL
 have OJ:=zz oJ
 have K2:=zz (TkF.step (TkF.quiet (kc:=kc) (mb:=mb) (MT:=MT) (ML:=ML) K1.out) k2 (fun b _ h=> h))
 clear oA oL oJ k2 HR1 HO1 c2 c5 K1 HTi
 have f7:=HR2.out.frozen 7
 have g7:=HR2.out.cell 7
 go_upto_region 3 with fail
 have kS:Keeps (· =R) w2 (w2.setCell ⟨R,7,none⟩ (.int .i64 0)):=(Kz0 (· =R) _).setCell (p:=⟨R,7,none⟩) (.inl rfl) _
 have HR3:=zz (show Blk (w2.setCell ⟨R,7,none⟩ (.int .i64 0)) R 135 (rsC none 0 0 none 0 0 0) from HR2.out.set 7 _)
 obtain⟨gA,rfl,hga,_⟩:=OA.out.some_ (by omega)
 have OA3:=zz (OA.out.kept kS (fun b hb e=> OA.out.ne_blk HR2.out (by decide) hb e))
 have OJ3:=zz (OJ.out.kept kS (fun b hb e=> OJ.out.ne_blk HR2.out (by decide) hb e))
 have OL3:=zz (OL.out.kept kS (fun b hb e=> OL.out.ne_blk HR2.out (by decide) hb e))
 have K3:=zz (TkF.step K2.out kS (fun b hb e=> by omega))
 clear kS f7 g7 HR2 OA OJ OL K2
 generalize w2.setCell _ _=w3 at*
 go_upto_region 4 with fail
 go_loopw [24] (fun iv wr=> (iv= .int .i64 0∧wr=w3)∨(iv= .int .i64 1∧Hid (∃A cA A2 n2 c2,Blk wr R 135 (rsC none 0 0 A 1 cA 0)∧Own wr w.heap.size 57 1 A 1 cA [.slice A2 n2 c2]∧Own wr w.heap.size 5 1 A2 n2 c2 ((repB key).map by8)∧Keeps (TkF kc mb MT ML w) w wr))) (fun iv _=> 1-(intOf iv).toNat)
 case atStart=> exact .inl ⟨rfl,rfl⟩
 case round=>
  rcases hrel with ⟨rfl,rfl⟩ | ⟨rfl,HQ⟩
  ·obtain⟨wo,rfl⟩:∃wo:World,wo=wr:=⟨_,rfl⟩
   have a0:=OA3.out.cell 0 (by omega)
   have a1:=OA3.out.cell 1 (by omega)
   have a2:=OA3.out.cell 2 (by omega)
   have a3:=OA3.out.cell 3 (by omega)
   have a4:=OA3.out.cell 4 (by omega)
   have a5:=OA3.out.cell 5 (by omega)
   have a6:=OA3.out.cell 6 (by omega)
   simp only [Zpg] at a0 a1 a2 a3 a4 a5 a6
   go_upto_region 6 with fail
   have kA:=(Kz0 NO wo).alloc (.cells (rpC 0 5 (some ⟨GL,0,none⟩) 1 cL 0 1 0 (some ⟨GJ,0,none⟩) 7 cJ) 91)
   have HN:=zz (Blk.new wo 91 (rpC 0 5 (some ⟨GL,0,none⟩) 1 cL 0 1 0 (some ⟨GJ,0,none⟩) 7 cJ))
   have HR4:=zz (HR3.out.kept kA (fun h=> h))
   have OL4:=zz (OL3.out.kept kA (fun _ _ h=> h))
   have OJ4:=zz (OJ3.out.kept kA (fun _ _ h=> h))
   have K4:=zz (TkF.step K3.out kA (fun _ _ h=> h.elim))
   clear kA HR3 OL3 OJ3 OA3 K3 a0 a1 a2 a3 a4 a5 a6
   generalize wo.alloc _=w4 at*
   generalize wo.heap.size=Y at*
   have p0:=HN.out.cell 0
   have p1:=HN.out.cell 1
   have p2:=HN.out.cell 2
   have p3:=HN.out.cell 3
   have p4:=HN.out.cell 4
   have p5:=HN.out.cell 5
   have p6:=HN.out.cell 6
   have HEn:=zz (Zu5 w4 GL 0 cL GJ cJ _ key ⟨OL4.out.cell 0 (by omega),OL4.out.cell 1 (by omega),OL4.out.cell 2 (by omega)⟩ OJ4.out hke hk)
   go_wp2_with fail
   refine HEn.out.mono ?_
   rintro e w5 ⟨A2,n2,c2,rfl,o2,k5⟩
   have hw4:=K4.out.size
   have O2:=zz (o2.base_le (show w.heap.size≤_ from hw4))
   have HR5:=zz (HR4.out.kept k5 (fun h=> h))
   have K5:=zz (TkF.step K4.out k5 (fun _ _ h=> h.elim))
   have hw5:=K5.out.size
   clear o2 k5 HN HR4 OL4 OJ4 K4 p0 p1 p2 p3 p4 p5 p6 HEn
   have g1:=HR5.out.cell 1
   go_wp2_with (at_builtin;refine Za5 _ Zv6 rfl (.tmp 38) (.tmp 40) rfl w.heap.size [] rfl (Own.nil _ _ _ _) _ (m:=1) [.slice A2 n2 c2] rfl (by exact Blk.rd (sz:=1) (xs:= [.slice A2 n2 c2]) (Blk.new_at _ _ _ _ (by simp)) rfl) (by simp [Value.oneCell']) (by simp only [maxLen];omega) (by omega) (by simp;omega) ?_;intro A6 c6 w6 o6 k6 hA6;have O6:=zz o6;have K6:=zz (((Kz0 NO w5).alloc (.cells #[.slice A2 n2 c2] 57)).step k6 (fun b hb e=> by obtain⟨_,h,_⟩:=e;cases h));have HR6:=zz (HR5.out.kept K6.out (fun h=> h));have f1:=HR6.out.frozen 1;have g1':=HR6.out.cell 1;clear o6 k6 hA6 g1)
   have kS:Keeps (· =R) w6 (w6.setCell ⟨R,1,none⟩ (.slice A6 1 c6)):=(Kz0 (· =R) _).setCell (p:=⟨R,1,none⟩) (.inl rfl) _
   have HQ:=zz (show∃A cA A2 n2 c2,Blk (w6.setCell ⟨R,1,none⟩ (.slice A6 1 c6)) R 135 (rsC none 0 0 A 1 cA 0)∧Own (w6.setCell ⟨R,1,none⟩ (.slice A6 1 c6)) w.heap.size 57 1 A 1 cA [.slice A2 n2 c2]∧Own (w6.setCell ⟨R,1,none⟩ (.slice A6 1 c6)) w.heap.size 5 1 A2 n2 c2 ((repB key).map by8)∧Keeps (TkF kc mb MT ML w) w (w6.setCell ⟨R,1,none⟩ (.slice A6 1 c6)) from
    ⟨A6,c6,A2,n2,c2,HR6.out.set 1 _,O6.out.kept kS (fun b hb e=> O6.out.ne_blk HR6.out (by decide) hb e),(O2.out.kept K6.out (fun _ _ h=> h)).kept kS (fun b hb e=> (O2.out.kept K6.out (fun _ _ h=> h)).ne_blk HR6.out (by decide) hb e),TkF.step (TkF.step K5.out K6.out (fun _ _ h=> h.elim)) kS (fun b hb e=> by omega)⟩)
   clear kS f1 g1' O6 K6 HR6 O2 HR5 K5
   go_roundw
   case rel=> exact .inr ⟨rfl,HQ⟩
   case measure=> simp [intOf]
  ·obtain⟨A,cA,A2,n2,c2,hR,o1,o2,kk⟩:=HQ.out
   have HR9:=zz hR
   have O1:=zz o1
   have O2:=zz o2
   have K9:=zz kk
   clear HQ hR o1 o2 kk HR3 OA3 OL3 OJ3 K3
   have y0:=HR9.out.frozen 0
   have y1:=HR9.out.frozen 1
   have y2:=HR9.out.frozen 2
   have y3:=HR9.out.frozen 3
   have y4:=HR9.out.frozen 4
   have y5:=HR9.out.frozen 5
   have y6:=HR9.out.frozen 6
   have y7:=HR9.out.frozen 7
   have r0:=HR9.out.cell 0
   have r1:=HR9.out.cell 1
   have r2:=HR9.out.cell 2
   have r3:=HR9.out.cell 3
   have r4:=HR9.out.cell 4
   have r5:=HR9.out.cell 5
   have r6:=HR9.out.cell 6
   have r7:=HR9.out.cell 7
   go_wp2_with fail
   have hST:=Zkp HR9.out none 0 0 A 1 cA 0
   have s0:=hST.1.cell 0
   have s1:=hST.1.cell 1
   have s2:=hST.1.cell 2
   have s3:=hST.1.cell 3
   have s4:=hST.1.cell 4
   have s5:=hST.1.cell 5
   have s6:=hST.1.cell 6
   have s7:=hST.1.cell 7
   simp only [Zpg] at s0 s1 s2 s3 s4 s5 s6 s7
   refine bodyPost_ret (v:= .agg (rsC none 0 0 A 1 cA 0)) (by simp [results,Tryz.results155,go_sem,s0,s1,s2,s3,s4,s5,s6,s7]) rfl ?_
   exact⟨A,cA,A2,n2,c2,rfl,O1.out.kept hST.2 (fun b hb e=> O1.out.ne_blk HR9.out (by decide) hb e),O2.out.kept hST.2 (fun b hb e=> O2.out.ne_blk HR9.out (by decide) hb e),TkF.step K9.out hST.2 (fun b hb e=> by omega)⟩
open Go.RowKit Go.Maps Cfp
theorem Zqp (w:World) (fA:Option Addr) (fn fc:Nat) (t lo:Int) (kk:ByteArray) (zA:Option Addr) (zn zc:Nat):
  Calls Tryz.prog 154 #[opV 2 fA fn fc t lo kk zA zn zc] w fun e w'=> e= .returned (.iface 282 (opV 2 fA fn fc t lo kk zA zn zc))∧Keeps NO w w':=by
 have k1:=(Kz0 NO w).alloc (.cells (opC 2 fA fn fc t lo kk zA zn zc) 131)
 have HO:=zz (Blk.new w 131 (opC 2 fA fn fc t lo kk zA zn zc))
 have K1:=zz k1
 clear k1
 go_enter Tryz.func154,Tryz.ntmps154
 go_upto_region 1 with fail
 generalize w.alloc _=w1 at*
 generalize w.heap.size=X at*
 have c0:=HO.out.cell 0
 have c1:=HO.out.cell 1
 have c2:=HO.out.cell 2
 have c3:=HO.out.cell 3
 have c4:=HO.out.cell 4
 have c5:=HO.out.cell 5
 go_wp2_with fail
 go_ret
 exact⟨rfl,K1.out⟩
theorem Zqq (w:World) (fA:Option Addr) (fn fc:Nat) (t lo:Int) (kk:ByteArray) (zA:Option Addr) (zn zc:Nat):
  Calls Tryz.prog 154 #[opV 1 fA fn fc t lo kk zA zn zc] w fun e w'=> e= .returned (.iface 280 (.agg #[.slice fA fn fc]))∧Keeps NO w w':=by
 have k1:=(Kz0 NO w).alloc (.cells (opC 1 fA fn fc t lo kk zA zn zc) 131)
 have HO:=zz (Blk.new w 131 (opC 1 fA fn fc t lo kk zA zn zc))
 have K1:=zz k1
 clear k1
 go_enter Tryz.func154,Tryz.ntmps154
 go_upto_region 1 with fail
 generalize w.alloc _=w1 at*
 generalize w.heap.size=X at*
 have c0:=HO.out.cell 0
 have c1:=HO.out.cell 1
 go_wp2_with fail
 go_ret
 exact⟨rfl,K1.out⟩
open Go.RowKit Go.Maps Cfp
theorem Zvt (v:Value) (w:World):(Instr.typeAssert (.iface 282 v) 20 280 true).run Tryz.prog w= .ok (.tuple #[.agg #[.slice none 0 0],.bool false]) w:=by
 have hz:(Tryz.prog.info? 280).map (fun i=> i.zero)=some (some (.agg #[.slice none 0 0])):=by kernel_rfl
 obtain⟨i,h1,h2⟩:=Option.map_eq_some_iff.1 hz
 simp [Instr.typeAssert,run_underlying Tryz.underlying280,go_sem,Result.andThen,zeroValue,typeInfo,h1,h2]
theorem ta_1 (v:Value) (w:World):(Instr.typeAssert (.iface 280 v) 20 280 true).run Tryz.prog w= .ok (.tuple #[v,.bool true]) w:=by
 simp [Instr.typeAssert,run_underlying Tryz.underlying280,go_sem,Result.andThen]
theorem ta_2 (v:Value) (w:World):(Instr.typeAssert (.iface 282 v) 20 282 true).run Tryz.prog w= .ok (.tuple #[v,.bool true]) w:=by
 simp [Instr.typeAssert,run_underlying Tryz.underlying282,go_sem,Result.andThen]
open Go.RowKit Go.Maps Cfp
theorem do_2 (w:World) (mb:MB) (MT kc ML:Nat) (key:ByteArray) (hke:(key.toList== [])=false) (hk:key.size≤255) (lo:Int) (kk:ByteArray) (fA:Option Addr) (fn fc:Nat) (hM:MT<w.heap.size∧ML<w.heap.size∧kc<w.heap.size)
  (HT:∀W,Keeps NO w W→Calls Tryz.prog 29 #[.pointer (some ⟨kc,0,none⟩),.int .i64 5,.slice none 0 0] W (Zgs kc mb MT ML W key)):
  Calls Tryz.prog 103 #[.pointer (some ⟨kc,0,none⟩),opV 2 fA fn fc 5 lo kk none 0 0] w (Zn4 kc mb MT ML w key):=by
 have kR:=((Kz0 NO w).alloc (.cells (opC 2 fA fn fc 5 lo kk none 0 0) 131)).alloc (.cells (rsC none 0 0 none 0 0 0) 135)
 have HO1:=zz ((Blk.new w 131 (opC 2 fA fn fc 5 lo kk none 0 0)).alloc (.cells (rsC none 0 0 none 0 0 0) 135))
 have HR1:=zz (show Blk ((w.alloc (.cells (opC 2 fA fn fc 5 lo kk none 0 0) 131)).alloc (.cells (rsC none 0 0 none 0 0 0) 135)) (w.heap.size+1) 135 (rsC none 0 0 none 0 0 0) from Blk.new_at _ _ _ _ (by simp))
 have HTi:=zz (fun W kW=> HT W (kR.trans kW))
 have K1:=zz kR
 clear kR HT
 go_enter Tryz.func103,Tryz.ntmps103
 go_upto_region 1 with fail
 obtain⟨R,hR⟩:∃R,R=w.heap.size+1:=⟨_,rfl⟩
 have HRw:=zz (show w.heap.size<R from by omega)
 rw [←hR] at HR1 ⊢
 generalize World.alloc (World.alloc w _) _=w1 at*
 clear hR
 have o0:=HO1.out.cell 0
 have o1:=HO1.out.cell 1
 have o2:=HO1.out.cell 2
 have o3:=HO1.out.cell 3
 have o4:=HO1.out.cell 4
 have o5:=HO1.out.cell 5
 go_wp2_with fail
 refine(Zqp w1 fA fn fc 5 lo kk none 0 0).mono ?_
 rintro e w2 ⟨rfl,k2⟩
 have HR2:=zz (HR1.out.kept k2 (fun h=> h))
 have HTi2:=zz (fun W kW=> HTi.out W (k2.trans kW))
 have K2:=zz (K1.out.trans k2)
 clear k2 HR1 HO1 K1 HTi o0 o1 o2 o3 o4 o5
 have hta1:=fun w=> Zvt (opV 2 fA fn fc 5 lo kk none 0 0) w
 have hta2:=fun w=> ta_2 (opV 2 fA fn fc 5 lo kk none 0 0) w
 go_upto_region 11 with fail
 have kA:=(Kz0 NO w2).alloc (.cells (opC 2 fA fn fc 5 lo kk none 0 0) 282)
 have HO3:=zz (Blk.new w2 282 (opC 2 fA fn fc 5 lo kk none 0 0))
 have HR3:=zz (HR2.out.kept kA (fun h=> h))
 have HTi3:=zz (fun W kW=> HTi2.out W (kA.trans kW))
 have K3:=zz (K2.out.trans kA)
 clear kA HR2 HTi2 K2 hta1 hta2
 generalize w2.alloc _=w3 at*
 generalize w2.heap.size=Y at*
 have o0:=HO3.out.cell 0
 have o1:=HO3.out.cell 1
 have o2:=HO3.out.cell 2
 have o3:=HO3.out.cell 3
 have o4:=HO3.out.cell 4
 have o5:=HO3.out.cell 5
 have hrw:=HRw.out
 have hw3:=K3.out.size
 have HTk:=zz (Zr4 w3 mb MT kc ML key hke hk lo kk 2 fA fn fc (by omega) HTi3.out)
 go_wp2_with fail
 refine HTk.out.mono ?_
 rintro e w4 ⟨A,cA,A2,n2,c2,rfl,p1,p2,k4⟩
 have P1:=zz (p1.base_le (show w.heap.size≤_ from hw3))
 have P2:=zz (p2.base_le (show w.heap.size≤_ from hw3))
 have HR4:=zz (HR3.out.kept k4 (TkF.not HR3.out (by decide) (by omega) (by omega) (by omega)))
 have K4:=zz (TkF.step (TkF.quiet (kc:=kc) (mb:=mb) (MT:=MT) (ML:=ML) K3.out) k4 (fun b _ h=> h))
 clear p1 p2 k4 HTk HR3 K3 HO3 HTi3 o0 o1 o2 o3 o4 o5
 have y0:=HR4.out.frozen 0
 have y1:=HR4.out.frozen 1
 have y2:=HR4.out.frozen 2
 have y3:=HR4.out.frozen 3
 have y4:=HR4.out.frozen 4
 have y5:=HR4.out.frozen 5
 have y6:=HR4.out.frozen 6
 have y7:=HR4.out.frozen 7
 have r0:=HR4.out.cell 0
 have r1:=HR4.out.cell 1
 have r2:=HR4.out.cell 2
 have r3:=HR4.out.cell 3
 have r4:=HR4.out.cell 4
 have r5:=HR4.out.cell 5
 have r6:=HR4.out.cell 6
 have r7:=HR4.out.cell 7
 go_upto_region 21 with fail
 have hST:=Zkp HR4.out none 0 0 A 1 cA 0
 have HR5:=zz hST.1
 have P3:=zz (P1.out.kept hST.2 (fun b hb e=> P1.out.ne_blk HR4.out (by decide) hb e))
 have P4:=zz (P2.out.kept hST.2 (fun b hb e=> P2.out.ne_blk HR4.out (by decide) hb e))
 have K5:=zz (TkF.step K4.out hST.2 (fun b hb e=> by omega))
 clear hST P1 P2 K4 y0 y1 y2 y3 y4 y5 y6 y7 r0 r1 r2 r3 r4 r5 r6 r7
 generalize World.setCell (World.setCell (World.setCell (World.setCell (World.setCell (World.setCell (World.setCell (World.setCell w4 _ _) _ _) _ _) _ _) _ _) _ _) _ _) _ _=w5 at*
 clear HR4
 have y0:=HR5.out.frozen 0
 have y1:=HR5.out.frozen 1
 have y2:=HR5.out.frozen 2
 have y3:=HR5.out.frozen 3
 have y4:=HR5.out.frozen 4
 have y5:=HR5.out.frozen 5
 have y6:=HR5.out.frozen 6
 have y7:=HR5.out.frozen 7
 have r0:=HR5.out.cell 0
 have r1:=HR5.out.cell 1
 have r2:=HR5.out.cell 2
 have r3:=HR5.out.cell 3
 have r4:=HR5.out.cell 4
 have r5:=HR5.out.cell 5
 have r6:=HR5.out.cell 6
 have r7:=HR5.out.cell 7
 go_wp2_with fail
 simp only [Zpg] at r0 r1 r2 r3 r4 r5 r6 r7
 refine bodyPost_ret (v:= .agg (rsC none 0 0 A 1 cA 0)) (by simp [results,Tryz.results103,go_sem,r0,r1,r2,r3,r4,r5,r6,r7]) rfl ?_
 exact⟨A,cA,A2,n2,c2,rfl,P3.out,P4.out,K5.out⟩
def Zwa (w:World) (kc:Nat) (Pr:World→Prop) (e:Ending) (w':World):Prop:=
 ∃A co,e= .returned (.agg (rsC A 1 co none 0 0 0))∧Own w' w.heap.size 3 1 A 1 co [.int .i64 0]∧Pr w'∧Keeps (FJ kc w) w w'
theorem do_1 (w:World) (kc:Nat) (t lo:Int) (kk:ByteArray) (fA:Option Addr) (fn fc:Nat) (zA:Option Addr) (zn zc:Nat) (hkc:kc<w.heap.size) (Pr:World→Prop)
  (HPr:∀W W' r cs,Pr W→Blk W r 135 cs→w.heap.size≤r→Keeps (· =r) W W'→Pr W')
  (HF:∀W,Keeps NO w W→Calls Tryz.prog 17 #[.pointer (some ⟨kc,0,none⟩),.slice fA fn fc] W fun e w'=> ∃A co,e= .returned (.slice A 1 co)∧Own w' W.heap.size 3 1 A 1 co [.int .i64 0]∧Pr w'∧Keeps (FJ kc W) W w'):
  Calls Tryz.prog 103 #[.pointer (some ⟨kc,0,none⟩),opV 1 fA fn fc t lo kk zA zn zc] w (Zwa w kc Pr):=by
 have kR:=((Kz0 NO w).alloc (.cells (opC 1 fA fn fc t lo kk zA zn zc) 131)).alloc (.cells (rsC none 0 0 none 0 0 0) 135)
 have HO1:=zz ((Blk.new w 131 (opC 1 fA fn fc t lo kk zA zn zc)).alloc (.cells (rsC none 0 0 none 0 0 0) 135))
 have HR1:=zz (show Blk ((w.alloc (.cells (opC 1 fA fn fc t lo kk zA zn zc) 131)).alloc (.cells (rsC none 0 0 none 0 0 0) 135)) (w.heap.size+1) 135 (rsC none 0 0 none 0 0 0) from Blk.new_at _ _ _ _ (by simp))
 have HFe:=zz (fun W kW=> HF W (kR.trans kW))
 have K1:=zz kR
 have HPq:=zz HPr
 clear kR HF HPr
 go_enter Tryz.func103,Tryz.ntmps103
 go_upto_region 1 with fail
 obtain⟨R,hR⟩:∃R,R=w.heap.size+1:=⟨_,rfl⟩
 have HRw:=zz (show w.heap.size<R from by omega)
 rw [←hR] at HR1 ⊢
 generalize World.alloc (World.alloc w _) _=w1 at*
 clear hR
 have o0:=HO1.out.cell 0
 have o1:=HO1.out.cell 1
 have o2:=HO1.out.cell 2
 have o3:=HO1.out.cell 3
 have o4:=HO1.out.cell 4
 have o5:=HO1.out.cell 5
 go_wp2_with fail
 refine(Zqq w1 fA fn fc t lo kk zA zn zc).mono ?_
 rintro e w2 ⟨rfl,k2⟩
 have HR2:=zz (HR1.out.kept k2 (fun h=> h))
 have HFe2:=zz (fun W kW=> HFe.out W (k2.trans kW))
 have K2:=zz (K1.out.trans k2)
 clear k2 HR1 HO1 K1 HFe o0 o1 o2 o3 o4 o5
 have hta1:=fun w=> ta_1 (.agg #[.slice fA fn fc]) w
 go_upto_region 8 with fail
 have kA:=(Kz0 NO w2).alloc (.cells #[.slice fA fn fc] 280)
 have HO3:=zz (Blk.new w2 280 #[.slice fA fn fc])
 have HR3:=zz (HR2.out.kept kA (fun h=> h))
 have HFe3:=zz (fun W kW=> HFe2.out W (kA.trans kW))
 have K3:=zz (K2.out.trans kA)
 clear kA HR2 HFe2 K2 hta1
 generalize w2.alloc _=w3 at*
 generalize w2.heap.size=Y at*
 have o0:=HO3.out.cell 0
 have hrw:=HRw.out
 have hw3:=K3.out.size
 go_wp2_with fail
 refine(HFe3.out w3 (Kz0 _ _)).mono ?_
 rintro e w4 ⟨A,co,rfl,p1,hp,k4⟩
 have P1:=zz (p1.base_le (show w.heap.size≤_ from hw3))
 have HR4:=zz (HR3.out.kept k4 (FJ.not HR3.out (by omega) (by decide) (by decide)))
 have K4:=zz (FJ.trans (FJ.quiet (kc:=kc) K3.out) k4)
 have HPp:=zz hp
 clear p1 k4 HR3 K3 HO3 HFe3 o0 hp
 have y0:=HR4.out.frozen 0
 have r0:=HR4.out.cell 0
 go_upto_region 21 with fail
 have kS:Keeps (· =R) w4 (w4.setCell ⟨R,0,none⟩ (.slice A 1 co)):=(Kz0 (· =R) _).setCell (p:=⟨R,0,none⟩) (.inl rfl) _
 have HR5:=zz (show Blk (w4.setCell ⟨R,0,none⟩ (.slice A 1 co)) R 135 (rsC A 1 co none 0 0 0) from HR4.out.set 0 _)
 have P3:=zz (P1.out.kept kS (fun b hb e=> P1.out.ne_blk HR4.out (by decide) hb e))
 have HP5:=zz (HPq.out _ _ R _ HPp.out HR4.out (by omega) kS)
 have K5:=zz (K4.out.step kS (fun b hb e=> by omega))
 clear kS P1 K4 y0 r0 HPp HR4
 generalize World.setCell w4 _ _=w5 at*
 have y0:=HR5.out.frozen 0
 have y1:=HR5.out.frozen 1
 have y2:=HR5.out.frozen 2
 have y3:=HR5.out.frozen 3
 have y4:=HR5.out.frozen 4
 have y5:=HR5.out.frozen 5
 have y6:=HR5.out.frozen 6
 have y7:=HR5.out.frozen 7
 have r0:=HR5.out.cell 0
 have r1:=HR5.out.cell 1
 have r2:=HR5.out.cell 2
 have r3:=HR5.out.cell 3
 have r4:=HR5.out.cell 4
 have r5:=HR5.out.cell 5
 have r6:=HR5.out.cell 6
 have r7:=HR5.out.cell 7
 go_wp2_with fail
 have hST:=Zkp HR5.out A 1 co none 0 0 0
 have s0:=hST.1.cell 0
 have s1:=hST.1.cell 1
 have s2:=hST.1.cell 2
 have s3:=hST.1.cell 3
 have s4:=hST.1.cell 4
 have s5:=hST.1.cell 5
 have s6:=hST.1.cell 6
 have s7:=hST.1.cell 7
 simp only [Zpg] at s0 s1 s2 s3 s4 s5 s6 s7
 refine bodyPost_ret (v:= .agg (rsC A 1 co none 0 0 0)) (by simp [results,Tryz.results103,go_sem,s0,s1,s2,s3,s4,s5,s6,s7]) rfl ?_
 exact⟨A,co,rfl,P3.out.kept hST.2 (fun b hb e=> P3.out.ne_blk HR5.out (by decide) hb e),HPq.out _ _ R _ HP5.out HR5.out (by omega) hST.2,K5.out.step hST.2 (fun b hb e=> by omega)⟩
end Go.Proofs.YtjamiaamngalgaaGreat
