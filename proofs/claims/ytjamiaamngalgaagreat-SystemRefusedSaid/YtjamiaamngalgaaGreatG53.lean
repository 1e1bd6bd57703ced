/-
  Parts: script.Run of a frame an; The cluster of the examp; The example's cluster: i; The example's cluster ju; The ex. No conditions beyond those of the statement.
-/
import Derived.Test.YtjamiaamngalgaaGreatG00
import Derived.Test.YtjamiaamngalgaaGreatG52
import Derived.Test.YtjamiaamngalgaaGreatG23
import Derived.Test.YtjamiaamngalgaaGreatG47
import Derived.Test.YtjamiaamngalgaaGreatG35
import Derived.Test.YtjamiaamngalgaaGreatG14
import Derived.Test.YtjamiaamngalgaaGreatG13
set_option linter.unusedVariables false
set_option linter.unusedSimpArgs false
set_option maxRecDepth 1000000
set_option maxHeartbeats 4000000
namespace Go.Proofs.YtjamiaamngalgaaGreat
open Go.RowKit Go.Maps Cfp
theorem TkF.ge {kc MT ML b B:Nat} {mb:MB} {w:World} (h:TkF kc mb MT ML w b) (h1:B≤mb.base) (h2:B≤MT) (h3:B≤ML) (h4:B≤kc):B≤b:=by
 rcases h with (((h | h) | h) | h) | h
 ·rcases h with ⟨h,_⟩ | ⟨h,_⟩
  ·omega
  ·omega
 ·obtain⟨h,_⟩:=h
  omega
 ·omega
 ·omega
 ·omega
theorem Zqe:ElemOf Tryz.prog 127 135 8 96:=ElemOf.mk' (z:= .agg #[.slice none 0 0,.slice none 0 0,.bool false,.int .u64 0,.int .u64 0,.bool false,.int .u64 0,.int .i64 0]) Tryz.underlying127 (by kernel_rfl) rfl (by omega)
abbrev opsC (fA:Option Addr) (fn fc:Nat) (k1 k2:ByteArray):Array Value:= #[.int .i64 1,.slice fA fn fc,.int .i64 0,.int .i64 0,.string k1,.slice none 0 0,.int .i64 2,.slice none 0 0,.int .i64 5,.int .i64 0,.string k2,.slice none 0 0]
def Ran1 (w:World) (key:ByteArray) (e:Ending) (w':World):Prop:=
 ∃G cG A co RA cA A2 n2 c2,e= .returned (.tuple #[.slice (some ⟨G,0,none⟩) 2 cG,.int .i64 0])∧Own w' w.heap.size 135 8 (some ⟨G,0,none⟩) 2 cG ((rsC A 1 co none 0 0 0).toList++(rsC none 0 0 RA 1 cA 0).toList)∧Own w' w.heap.size 57 1 RA 1 cA [.slice A2 n2 c2]∧Own w' w.heap.size 5 1 A2 n2 c2 ((repB key).map by8)∧Keeps NO w w'
theorem Zvv (w:World) (c:Cfg) (C T:Option Addr) (n k j:Nat) (key:ByteArray) (hke:(key.toList== [])=false) (hk:key.size≤255) (ob oc:Nat) (k1 k2:ByteArray) (fA:Option Addr) (fn fc:Nat)
  (hops:Blk w ob 131 (opsC fA fn fc k1 k2)) (PF:Nat→World→Prop)
  (HN:∀W,Keeps NO w W→Calls Tryz.prog 9 #[Value.agg (cfC c C n k T 16 j)] W fun e w'=> ∃kc,e= .returned (.tuple #[.pointer (some ⟨kc,0,none⟩),.int .i64 0])∧w.heap.size≤kc∧kc<w'.heap.size∧Keeps NO W w'∧
   (∀W1,Keeps NO w' W1→Calls Tryz.prog 17 #[.pointer (some ⟨kc,0,none⟩),.slice fA fn fc] W1 fun e w2=> ∃A co,e= .returned (.slice A 1 co)∧Own w2 W1.heap.size 3 1 A 1 co [.int .i64 0]∧PF kc w2∧Keeps (FJ kc W1) W1 w2))
  (HPr:∀kc W W' r cs,PF kc W→Blk W r 135 cs→w.heap.size≤r→Keeps (· =r) W W'→PF kc W')
  (HPq:∀kc W W',PF kc W→Keeps NO W W'→PF kc W')
  (HPt:∀kc W,PF kc W→Keeps NO w W∧∃mb MT ML,(MT<W.heap.size∧ML<W.heap.size∧kc<W.heap.size)∧(w.heap.size≤mb.base∧w.heap.size≤MT∧w.heap.size≤ML∧w.heap.size≤kc)∧(∀b t cs,Blk W b t cs→b≠MT∧b≠ML)∧(∃cs,Blk W kc 123 cs)∧∀W',Keeps NO W W'→Calls Tryz.prog 29 #[.pointer (some ⟨kc,0,none⟩),.int .i64 5,.slice none 0 0] W' (Zgs kc mb MT ML W' key)):
  Calls Tryz.prog 48 #[Value.agg (cfC c C n k T 16 j),.slice (some ⟨ob,0,none⟩) 2 oc] w (Ran1 w key):=by
 have kX:=(Kz0 NO w).alloc (.cells (cfC c C n k T 16 j) 27)
 have BX:=zz (Blk.new w 27 (cfC c C n k T 16 j))
 have HO1:=zz (hops.kept kX (fun h=> h))
 have HNe:=zz (HN _ kX)
 have HPr:=zz HPr
 have HPq:=zz HPq
 have HPt:=zz HPt
 have K1:=zz kX
 have hob:=hops.lt
 clear kX HN hops
 go_enter Tryz.func48,Tryz.ntmps48
 go_upto_region 1 with fail
 obtain⟨X,hX⟩:∃X,X=w.heap.size:=⟨_,rfl⟩
 rw [←hX] at BX ⊢
 clear hX
 generalize w.alloc _=w1 at*
 have hobw:ob<w1.heap.size:=HO1.out.lt
 go_wp2_with (refine Zah _ rfl BX.out rfl (by rfl) ?_;simp only [Zpt])
 refine HNe.out.mono ?_
 rintro e w2 ⟨kc,rfl,hkc0,hkc,k2,hfd⟩
 have HO2:=zz (HO1.out.kept k2 (fun h=> h))
 have K2:=zz (K1.out.trans k2)
 have HFd:=zz hfd
 clear k2 hfd HNe BX HO1 K1
 go_upto_region 8 with fail
 go_loopw [8,24] (fun ov iv wr=> (iv= .int .i64 0∧ov= .slice none 0 0∧wr=w2)∨(iv= .int .i64 1∧∃G cG A co,ov= .slice (some ⟨G,0,none⟩) 1 cG∧Hid (Own wr w.heap.size 135 8 (some ⟨G,0,none⟩) 1 cG (rsC A 1 co none 0 0 0).toList∧PF kc wr∧Blk wr ob 131 (opsC fA fn fc k1 k2)))∨
  (iv= .int .i64 2∧∃G cG,ov= .slice (some ⟨G,0,none⟩) 2 cG∧Hid (∃A co RA cA A2 n2 c2,Own wr w.heap.size 135 8 (some ⟨G,0,none⟩) 2 cG ((rsC A 1 co none 0 0 0).toList++(rsC none 0 0 RA 1 cA 0).toList)∧Own wr w.heap.size 57 1 RA 1 cA [.slice A2 n2 c2]∧Own wr w.heap.size 5 1 A2 n2 c2 ((repB key).map by8)∧Keeps NO w wr))) (fun _ iv _=> 2-(intOf iv).toNat)
 case atStart=> exact .inl ⟨rfl,rfl,rfl⟩
 case round=>
  rcases hrel with ⟨rfl,rfl,rfl⟩ | ⟨rfl,G,cG,A,co,rfl,HQ⟩ | ⟨rfl,G,cG,rfl,HQ⟩
  ·obtain⟨wo,rfl⟩:∃wo:World,wo=wr:=⟨_,rfl⟩
   have o0:=HO2.out.cell 0
   have o1:=HO2.out.cell 1
   have o2:=HO2.out.cell 2
   have o3:=HO2.out.cell 3
   have o4:=HO2.out.cell 4
   have o5:=HO2.out.cell 5
   go_upto_region 10 with fail
   have kA:=(Kz0 NO wo).alloc (.cells (opC 1 fA fn fc 0 0 k1 none 0 0) 131)
   have HZ:=zz (Blk.new wo 131 (opC 1 fA fn fc 0 0 k1 none 0 0))
   have HO3:=zz (HO2.out.kept kA (fun h=> h))
   have K3:=zz (K2.out.trans kA)
   have HFe:=zz (fun W (kW:Keeps NO _ W)=> HFd.out W (kA.trans kW))
   have hkc3:=Nat.lt_of_lt_of_le hkc kA.size
   clear kA HO2 K2 o0 o1 o2 o3 o4 o5 HFd
   generalize wo.alloc _=w3 at*
   generalize wo.heap.size=Z at*
   have o0:=HZ.out.cell 0
   have o1:=HZ.out.cell 1
   have o2:=HZ.out.cell 2
   have o3:=HZ.out.cell 3
   have o4:=HZ.out.cell 4
   have o5:=HZ.out.cell 5
   have hw3:=K3.out.size
   have hobk:ob≠kc:=by omega
   have HDo:=zz (do_1 w3 kc 0 0 k1 fA fn fc none 0 0 hkc3 (PF kc) (fun W W' r cs h1 h2 h3 h4=> HPr.out kc W W' r cs h1 h2 (by omega) h4) HFe.out)
   go_wp2_with fail
   refine HDo.out.mono ?_
   rintro e w4 ⟨A,co,rfl,_,hpf,k4⟩
   have HO4:=zz (HO3.out.kept k4 (FJ.not HO3.out hobk (by decide) (by decide)))
   have HP4:=zz hpf
   have hw4:=k4.size
   clear k4 hpf HDo HO3 K3 HZ HFe o0 o1 o2 o3 o4 o5
   go_wp2_with (at_builtin;refine Za5 _ Zqe rfl (.tmp 28) (.tmp 32) rfl w.heap.size [] rfl (Own.nil _ _ _ _) _ (m:=1) (rsC A 1 co none 0 0 0).toList rfl (by exact Blk.rd (sz:=8) (xs:=(rsC A 1 co none 0 0 0).toList) (Blk.new_at _ _ _ _ (by simp)) rfl) (by simp [Value.oneCell']) (by simp only [maxLen];omega) (by omega) (by simp;omega) ?_;intro A6 c6 w6 o6 k6 hA6;have O6:=zz o6;have K6:=zz (((Kz0 NO w4).alloc (.cells (rsC A 1 co none 0 0 0) 135)).step k6 (fun b hb e=> by obtain⟨_,h,_⟩:=e;cases h));clear o6 k6 hA6)
   obtain⟨G,rfl,_,_⟩:=O6.out.some_ (by omega)
   have HQ:=zz (And.intro O6.out (And.intro (HPq.out kc _ _ HP4.out K6.out) (HO4.out.kept K6.out (fun h=> h))))
   clear O6 K6 HP4 HO4
   go_roundw
   case rel=> exact .inr (.inl ⟨rfl,G,c6,A,co,rfl,HQ⟩)
   case measure=> simp [intOf]
  ·obtain⟨wo,rfl⟩:∃wo:World,wo=wr:=⟨_,rfl⟩
   have O1:=zz HQ.out.1
   have HP1:=zz HQ.out.2.1
   have HO2':=zz HQ.out.2.2
   clear HQ HO2 K2
   obtain⟨kk,mb,MT,ML,hM,hBs,hbk,⟨csk,hck⟩,htk⟩:=HPt.out kc wo HP1.out
   have HTk:=zz htk
   have HCk:=zz hck
   have Kw:=zz kk
   have HBk:=zz hbk
   clear kk htk hck hbk
   have o0:=HO2'.out.cell 6
   have o1:=HO2'.out.cell 7
   have o2:=HO2'.out.cell 8
   have o3:=HO2'.out.cell 9
   have o4:=HO2'.out.cell 10
   have o5:=HO2'.out.cell 11
   go_upto_region 10 with fail
   have kA:=(Kz0 NO wo).alloc (.cells (opC 2 none 0 0 5 0 k2 none 0 0) 131)
   have HZ:=zz (Blk.new wo 131 (opC 2 none 0 0 5 0 k2 none 0 0))
   have K3:=zz (Kw.out.trans kA)
   have HTe:=zz (fun W (kW:Keeps NO _ W)=> HTk.out W (kA.trans kW))
   have O3:=zz (O1.out.kept kA (fun _ _ h=> h))
   have hGn:Hid (G≠kc∧G≠MT∧G≠ML):=zz (by
    obtain⟨cs',h2⟩:=O1.out.blk ((Za0 _ _ _).2 rfl)
    exact⟨h2.ne HCk.out (by decide),HBk.out _ _ _ h2⟩)
   have hsz:=kA.size
   clear kA HO2' Kw o0 o1 o2 o3 o4 o5 HTk O1 HP1 HCk HBk
   generalize wo.alloc _=w3 at*
   generalize wo.heap.size=Z at*
   have o0:=HZ.out.cell 0
   have o1:=HZ.out.cell 1
   have o2:=HZ.out.cell 2
   have o3:=HZ.out.cell 3
   have o4:=HZ.out.cell 4
   have o5:=HZ.out.cell 5
   have hw3:=K3.out.size
   have HDo:=zz (do_2 w3 mb MT kc ML key hke hk 0 k2 none 0 0 (by omega) HTe.out)
   go_wp2_with fail
   refine HDo.out.mono ?_
   rintro e w4 ⟨RA,cA,A2,n2,c2,rfl,p1,p2,k4⟩
   have P1:=zz (p1.base_le (show w.heap.size≤_ from hw3))
   have P2:=zz (p2.base_le (show w.heap.size≤_ from hw3))
   have O4:=zz (O3.out.kept k4 (fun b hb=> by
    obtain⟨cs',h2⟩:=O3.out.blk hb
    have:=(Za0 _ _ _).1 hb
    subst this
    exact TkF.not h2 (by decide) hGn.out.1 hGn.out.2.1 hGn.out.2.2))
   have K4:=zz (K3.out.step k4 (fun b hb e=> by have:=e.ge hBs.1 hBs.2.1 hBs.2.2.1 hBs.2.2.2;omega))
   have hw4:=K4.out.size
   clear p1 p2 k4 HDo O3 K3 HZ HTe o0 o1 o2 o3 o4 o5
   go_wp2_with (at_builtin;refine Za5 _ Zqe rfl (.tmp 28) (.tmp 32) rfl w.heap.size _ rfl (by exact O4.out.kept ((Kz0 NO _).alloc _) (fun _ _ h=> h)) _ (m:=1) (rsC none 0 0 RA 1 cA 0).toList rfl (by exact Blk.rd (sz:=8) (xs:=(rsC none 0 0 RA 1 cA 0).toList) (Blk.new_at _ _ _ _ (by simp)) rfl) (by simp [Value.oneCell']) (by simp only [maxLen];omega) (by omega) (by simp;omega) ?_;intro A6 c6 w6 o6 k6 hA6;have O6:=zz o6;have K6:=zz (((Kz0 (inB (some ⟨G,0,none⟩)) w4).alloc (.cells (rsC none 0 0 RA 1 cA 0) 135)).trans k6);clear o6 k6 hA6)
   obtain⟨G2,rfl,_,_⟩:=O6.out.some_ (by omega)
   have HQ:=zz (show∃A co RA cA A2 n2 c2,Own w6 w.heap.size 135 8 (some ⟨G2,0,none⟩) 2 c6 ((rsC A 1 co none 0 0 0).toList++(rsC none 0 0 RA 1 cA 0).toList)∧Own w6 w.heap.size 57 1 RA 1 cA [.slice A2 n2 c2]∧Own w6 w.heap.size 5 1 A2 n2 c2 ((repB key).map by8)∧Keeps NO w w6 from
    ⟨A,co,RA,cA,A2,n2,c2,O6.out,P1.out.kept K6.out (fun b hb e=> P1.out.ne O4.out (by decide) hb e),P2.out.kept K6.out (fun b hb e=> P2.out.ne O4.out (by decide) hb e),K4.out.step K6.out (fun b hb e=> by have:=O4.out.inB e;omega)⟩)
   clear O6 K6 P1 P2 O4 K4
   go_roundw
   case rel=> exact .inr (.inr ⟨rfl,G2,c6,rfl,HQ⟩)
   case measure=> simp [intOf]
  ·clear HO2 K2
   go_wp2_with fail
   go_ret2
   obtain⟨A,co,RA,cA,A2,n2,c2,h1,h2,h3,h4⟩:=HQ.out
   exact⟨G,cG,A,co,RA,cA,A2,n2,c2,rfl,h1,h2,h3,h4⟩
open Go.RowKit Go.Maps Cfp
section
variable {w w':World} {B B' q a p mb G n cap:Nat} {nk:Int} {sh:List (Int × Int)} {W R:List Wt} {E:List PE} {EA:Option Addr} {D:KD} {s:Ar} {L:Nat→List Nat} {M M2:Int}
theorem Qu.one {r:Nat} {t:TypeId} {cs:Array Value} (h:Qu w B q a p mb G n nk sh W R E EA cap D s L M M2) (hb:Blk w r t cs) (k:Keeps (· =r) w w') (ho:Zd3 t) (h8:t≠5):Qu w' B q a p mb G n nk sh W R E EA cap D s L M M2:=by
 refine⟨h.qu.kept k (fun e=> ?_) (fun e=> ?_),h.po.kept k (fun b e=> ?_),h.ar.kept k (fun b e=> ?_),h.iv,Nat.le_trans h.hB k.size,h.kn,h.n64⟩
 ·subst e;exact h.qu.blk.ne hb (fun e=> ho.2.2.2.2.2.1 e.symm) rfl
 ·subst e
  obtain⟨cs',hc⟩:=h.qu.blkG
  exact hc.ne hb (fun e=> ho.2.2.2.2.2.2 e.symm) rfl
 ·subst e;exact .inr ⟨cs,t,hb,ho.2.2.2.1,ho.2.2.2.2.1⟩
 ·subst e;exact .inr ⟨cs,t,hb,ho.1,ho.2.1,ho.2.2.1,h8⟩
theorem IsArH.base {X:Nat→Prop} (h:IsArH w B a s X) (hb:B'≤B):IsArH w B' a s X:=
 ⟨Nat.le_trans hb h.le,h.blk,h.own.base_le hb,fun i c hx hc=> (h.sl i c hx hc).base_le hb,fun i c hx hc j x hj=> (h.da i c hx hc j x hj).base_le hb,h.dj,h.fl⟩
theorem IsPo.baseLe {E:List PE} (h:IsPo w B p a nk E EA cap mb D) (hb:B'≤B):IsPo w B' p a nk E EA cap mb D:=
 ⟨Nat.le_trans hb h.le,h.blk,h.own.base_le hb,Nat.le_trans hb h.lem,h.map⟩
theorem IsQ.baseLe (h:IsQ w B q a p G n W R) (hb:B'≤B):IsQ w B' q a p G n W R:=⟨Nat.le_trans hb h.le,h.blk,h.own.base_le hb⟩
end
structure FdS (w0 W:World) (kc a p led ML s q G MT mb SB cap:Nat) (c:Cfg) (C T:Option Addr) (n k j:Nat) (st:Option Addr) (sc:Nat) (zs:List Int) (nq:Nat) (nk c0 c1 c2 c3 c4:Int) (x:Wt) (R:List Wt) (E:List PE) (EA:Option Addr) (capE:Nat) (D:KD) (sA:Ar) (L:Nat→List Nat) (M2:Int):Prop where
 k0:Keeps NO w0 W
 blk:Blk W kc 123 (cluC c C T n k j (.pointer (some ⟨a,0,none⟩)) (some ⟨SB,0,none⟩) 1 cap led st 0 sc 0 false 0)
 sh:Own W w0.heap.size 48 1 (some ⟨SB,0,none⟩) 1 cap [.pointer (some ⟨s,0,none⟩)]
 sb:Blk W s 157 (shC a p c C T n k j q MT)
 mp:Mp Tryz.prog 3 enI W MT []
 tw:Own W w0.heap.size 23 1 T 16 j (zs.map (.int .u64))
 ld:IsLed W w0.heap.size led ML [(0,5)] 1 (List.replicate 7 0)
 qu:Qu W w0.heap.size q a p mb G nq nk (sh5 c0 c1 c2 c3 c4) [x] R E EA capE D sA L 1 M2
 ge:w0.heap.size≤kc∧w0.heap.size≤MT
 n1:ML≠mb
 n2:ML≠MT
 n3:MT≠mb
section
variable {w0 W W':World} {kc a p led ML s q G MT mb SB cap:Nat} {c:Cfg} {C T:Option Addr} {n k j:Nat} {st:Option Addr} {sc:Nat} {zs:List Int} {nq:Nat} {nk c0 c1 c2 c3 c4:Int} {x:Wt} {R:List Wt} {E:List PE} {EA:Option Addr} {capE:Nat} {D:KD} {sA:Ar} {L:Nat→List Nat} {M2:Int}
theorem FdS.quiet (h:FdS w0 W kc a p led ML s q G MT mb SB cap c C T n k j st sc zs nq nk c0 c1 c2 c3 c4 x R E EA capE D sA L M2) (kk:Keeps NO W W'):FdS w0 W' kc a p led ML s q G MT mb SB cap c C T n k j st sc zs nq nk c0 c1 c2 c3 c4 x R E EA capE D sA L M2:=
 ⟨h.k0.trans kk,h.blk.kept kk (fun h=> h),h.sh.kept kk (fun _ _ h=> h),h.sb.kept kk (fun h=> h),h.mp.kept kk (fun h=> h),h.tw.kept kk (fun _ _ h=> h),h.ld.quiet kk,h.qu.quiet kk,h.ge,h.n1,h.n2,h.n3⟩
theorem FdS.tick {key:ByteArray}
  (h:FdS w0 W kc a p led ML s q G MT mb SB cap c C T n k j st sc zs nq nk c0 c1 c2 c3 c4 x R E EA capE D sA L M2) (hx:x.win=0∧x.wgt=5∧x.text=key.data.toList)
  (hf:Fine c) (hlow:Zcv c 5=5) (hr:Rtd c) (hsh:c.shards=1) (hsp:c.spread=1) (hd:c.depth=1) (hwd:c.width=1) (hm:c.mode=1) (hsl:c.slots=1) (he:c.exact_=0) (htop:1≤c.top∧c.top≤64)
  (h1:1≤key.size) (h2:key.size≤8) (hz:∀z∈zs,0≤z∧z<18446744073709551616) (hM2:1≤M2∧M2<700000) (hnk:1≤nk) (hc0:2≤c0) (hc2:1≤c2):
  Calls Tryz.prog 29 #[.pointer (some ⟨kc,0,none⟩),.int .i64 5,.slice none 0 0] W (Zgs kc ⟨w0.heap.size,mb⟩ MT ML W key):=by
 have hkl:key.data.toList.length=key.size:=by rw [Array.length_toList];rfl
 refine Zt7 W ⟨w0.heap.size,mb⟩ MT kc SB cap led ML w0.heap.size c hf hlow C T n k j _ st 0 sc 0 false 1 5 _ key h.blk h.ld (fun W1 k1 hb1=> ?_)
 have hsh1:=h.sh.kept k1 (fun b hb e=> h.sh.ne_blk h.blk (by decide) hb e)
 have hsb1:=h.sb.kept k1 (h.sb.ne h.blk (by decide))
 have hmp1:=h.mp.kept k1 (h.mp.ne_blk h.blk)
 have htw1:=h.tw.kept k1 (fun b hb e=> h.tw.ne_blk h.blk (by decide) hb e)
 have hld1:=h.ld.kept k1 (h.ld.blk.ne h.blk (by decide)) (h.ld.map.ne_blk h.blk)
 have hqu1:=h.qu.one h.blk k1 (by decide) (by decide)
 obtain⟨es,cc,hMT,_⟩:=hmp1
 refine Zpi W1 w0.heap.size s a p ⟨w0.heap.size,mb⟩ q MT kc SB cap led ML w0.heap.size nk (sh5 c0 c1 c2 c3 c4) c htop C T n k j _ st 0 sc 0 false 5 _ 1 key (by omega) hb1 hsh1 zs w0.heap.size htw1 hld1 h.n1 h.n2 ⟨es,cc,hMT⟩ (Array.getElem?_eq_some_iff.1 hMT).1 (fun W2 k2=> ?_)
  (fun V g cS A cA R cR F ts ho hF ht=> Zw2 c hr hsh hsp C T n k j key (by omega) zs hz V g cS A cA R cR F ts ho hF ht) (fun V g cS A cA R cR F ts ho hF ht=> Zu4 c hr hsh hsp hd hwd C T n k j key h1 (by omega) V g cS A cA R cR F ts ho hF)
 have hmp1:=h.mp.kept k1 (h.mp.ne_blk h.blk)
 have hstep:=Znm W2 w0.heap.size s a p ⟨w0.heap.size,mb⟩ q MT G nq nk c C T n k j zs x R E EA capE D sA L 1 M2 c0 c1 c2 c3 c4 hm hsl he hd hwd ((htw1.kept k2 (fun _ _ h=> h)).rd (by omega)) (fun W3 k3=> ((htw1.kept k2 (fun _ _ h=> h)).st k3 ⟨es,cc,(k2.block MT (Array.getElem?_eq_some_iff.1 hMT).1 (fun h=> h)).trans hMT⟩ (by decide)).rd (by omega)) hz hr.seed (hsb1.kept k2 (fun h=> h)) (hmp1.kept k2 (fun h=> h)) (hqu1.quiet k2) h.n3 (Nat.le_refl _) (by rw [hx.2.2];omega) (by rw [hx.2.1];omega) (by rw [hx.1];omega) (by omega) (by omega) hnk hc0 hc2
 have hk:(⟨x.text.toArray⟩:ByteArray)=key:=by rw [hx.2.2]
 rw [hk,hx.2.1] at hstep
 have hdr:=Zkl W2 w0.heap.size s a p ⟨w0.heap.size,mb⟩ q MT G nq nk (sh5 c0 c1 c2 c3 c4) c C T n k j x R 0 key 5 (hsb1.kept k2 (fun h=> h)) (hqu1.quiet k2).qu h.qu.n64 (by rw [hx.1];omega) hstep
 rw [hx.1] at hdr
 exact hdr
end
open Go.RowKit Go.Maps Cfp
abbrev Zvq (t:TypeId):Prop:=Zd3 t∧t≠5∧t≠23∧t≠123∧t≠48∧t≠157∧t≠213
structure FdG (w0 W:World) (kc a p led ML s q G MT mb SB cap:Nat) (c:Cfg) (C T:Option Addr) (n k j:Nat) (zs:List Int) (nq:Nat) (nk c0 c1 c2 c3 c4:Int) (st:Option Addr) (sc:Nat) (Dl:List (Int × Int)) (ac:Int) (Wq R:List Wt) (E:List PE) (EA:Option Addr) (capE:Nat) (D:KD) (sA:Ar) (L:Nat→List Nat) (M M2:Int):Prop where
 k0:Keeps NO w0 W
 blk:Blk W kc 123 (cluC c C T n k j (.pointer (some ⟨a,0,none⟩)) (some ⟨SB,0,none⟩) 1 cap led st 0 sc 0 false 0)
 sh:Own W w0.heap.size 48 1 (some ⟨SB,0,none⟩) 1 cap [.pointer (some ⟨s,0,none⟩)]
 sb:Blk W s 157 (shC a p c C T n k j q MT)
 mp:Mp Tryz.prog 3 enI W MT []
 tw:Own W w0.heap.size 23 1 T 16 j (zs.map (.int .u64))
 ld:IsLed W w0.heap.size led ML Dl ac (List.replicate 7 0)
 qu:Qu W w0.heap.size q a p mb G nq nk (sh5 c0 c1 c2 c3 c4) Wq R E EA capE D sA L M M2
 ge:w0.heap.size≤kc∧w0.heap.size≤MT
 n1:ML≠mb
 n2:ML≠MT
 n3:MT≠mb
section
variable {w0 W W':World} {kc a p led ML s q G MT mb SB cap:Nat} {c:Cfg} {C T:Option Addr} {n k j:Nat} {zs:List Int} {nq:Nat} {nk c0 c1 c2 c3 c4:Int} {st:Option Addr} {sc:Nat} {Dl:List (Int × Int)} {ac:Int} {Wq R:List Wt} {E:List PE} {EA:Option Addr} {capE:Nat} {D:KD} {sA:Ar} {L:Nat→List Nat} {M M2:Int}
theorem Qu.apart {S:Nat→Prop} {B:Nat} {shp:List (Int × Int)} (h:Qu W B q a p mb G nq nk shp Wq R E EA capE D sA L M M2) (kk:Keeps S W W') (hs:∀b,S b→∃t cs,Blk W b t cs∧Zd3 t∧t≠5):Qu W' B q a p mb G nq nk shp Wq R E EA capE D sA L M M2:=by
 refine⟨h.qu.kept kk (fun e=> ?_) (fun e=> ?_),h.po.kept kk (fun b e=> ?_),h.ar.kept kk (fun b e=> ?_),h.iv,Nat.le_trans h.hB kk.size,h.kn,h.n64⟩
 ·obtain⟨t,cs,hb,ho,_⟩:=hs _ e;exact h.qu.blk.ne hb (fun e=> ho.2.2.2.2.2.1 e.symm) rfl
 ·obtain⟨t,cs,hb,ho,_⟩:=hs _ e
  obtain⟨cs',hc⟩:=h.qu.blkG
  exact hc.ne hb (fun e=> ho.2.2.2.2.2.2 e.symm) rfl
 ·obtain⟨t,cs,hb,ho,_⟩:=hs _ e;exact .inr ⟨cs,t,hb,ho.2.2.2.1,ho.2.2.2.2.1⟩
 ·obtain⟨t,cs,hb,ho,h8⟩:=hs _ e;exact .inr ⟨cs,t,hb,ho.1,ho.2.1,ho.2.2.1,h8⟩
theorem FdG.kept {S:Nat→Prop} (h:FdG w0 W kc a p led ML s q G MT mb SB cap c C T n k j zs nq nk c0 c1 c2 c3 c4 st sc Dl ac Wq R E EA capE D sA L M M2) (kk:Keeps S W W') (hs:∀b,S b→w0.heap.size≤b∧∃t cs,Blk W b t cs∧Zvq t):
  FdG w0 W' kc a p led ML s q G MT mb SB cap c C T n k j zs nq nk c0 c1 c2 c3 c4 st sc Dl ac Wq R E EA capE D sA L M M2:=by
 have hb:∀ {b:Nat} {t:TypeId} {cs:Array Value},Blk W b t cs→¬Zvq t∧Zd3 t∧t=t→¬S b:=fun {b t cs} h1 h2 e=> by
  obtain⟨_,t',cs',h3,h4⟩:=hs b e
  have:t=t':=by
   rcases Decidable.em (t=t') with h | h
   ·exact h
   ·exact absurd rfl (h1.ne h3 h)
  subst this
  exact h2.1 h4
 have hmp:∀ {M0:Nat} {κ:Type} {kt:TypeId} {en:κ→Value} {L0:List (κ × Value)},Mp Tryz.prog kt en W M0 L0→¬S M0:=fun {M0 κ kt en L0} h1 e=> by
  obtain⟨_,t',cs',h3,_⟩:=hs M0 e
  exact h1.ne_blk h3 rfl
 refine⟨h.k0.step kk (fun b hb e=> by have:=(hs b e).1;omega),h.blk.kept kk (hb h.blk ⟨by decide,by decide,rfl⟩),h.sh.kept kk (fun b hb'=> ?_),h.sb.kept kk (hb h.sb ⟨by decide,by decide,rfl⟩),h.mp.kept kk (hmp h.mp),h.tw.kept kk (fun b hb'=> ?_),h.ld.kept kk (hb h.ld.blk ⟨by decide,by decide,rfl⟩) (hmp h.ld.map),h.qu.apart kk (fun b e=> ?_),h.ge,h.n1,h.n2,h.n3⟩
 ·obtain⟨cs',h2⟩:=h.sh.blk hb';exact hb h2 ⟨by decide,by decide,rfl⟩
 ·obtain⟨cs',h2⟩:=h.tw.blk hb';exact hb h2 ⟨by decide,by decide,rfl⟩
 ·obtain⟨_,t',cs',h3,h4⟩:=hs b e;exact⟨t',cs',h3,h4.1,h4.2.1⟩
theorem FdG.quiet (h:FdG w0 W kc a p led ML s q G MT mb SB cap c C T n k j zs nq nk c0 c1 c2 c3 c4 st sc Dl ac Wq R E EA capE D sA L M M2) (kk:Keeps NO W W'):
  FdG w0 W' kc a p led ML s q G MT mb SB cap c C T n k j zs nq nk c0 c1 c2 c3 c4 st sc Dl ac Wq R E EA capE D sA L M M2:=h.kept kk (fun _ h=> h.elim)
theorem FdG.strm {st':Option Addr} {sc':Nat} (h:FdG w0 W kc a p led ML s q G MT mb SB cap c C T n k j zs nq nk c0 c1 c2 c3 c4 st sc Dl ac Wq R E EA capE D sA L M M2) (kk:Keeps (· =kc) W W') (hb:Blk W' kc 123 (cluC c C T n k j (.pointer (some ⟨a,0,none⟩)) (some ⟨SB,0,none⟩) 1 cap led st' 0 sc' 0 false 0)):
  FdG w0 W' kc a p led ML s q G MT mb SB cap c C T n k j zs nq nk c0 c1 c2 c3 c4 st' sc' Dl ac Wq R E EA capE D sA L M M2:=
 ⟨h.k0.step kk (fun b hb e=> by have:=h.ge.1;omega),hb,h.sh.kept kk (fun b hb' e=> h.sh.ne_blk h.blk (by decide) hb' e),h.sb.kept kk (h.sb.ne h.blk (by decide)),h.mp.kept kk (h.mp.ne_blk h.blk),h.tw.kept kk (fun b hb' e=> h.tw.ne_blk h.blk (by decide) hb' e),
  h.ld.kept kk (h.ld.blk.ne h.blk (by decide)) (h.ld.map.ne_blk h.blk),h.qu.one h.blk kk (by decide) (by decide),h.ge,h.n1,h.n2,h.n3⟩
theorem FdG.toS {x:Wt} (h:FdG w0 W kc a p led ML s q G MT mb SB cap c C T n k j zs nq nk c0 c1 c2 c3 c4 st sc [(0,5)] 1 [x] R E EA capE D sA L 1 M2):FdS w0 W kc a p led ML s q G MT mb SB cap c C T n k j st sc zs nq nk c0 c1 c2 c3 c4 x R E EA capE D sA L M2:=
 ⟨h.k0,h.blk,h.sh,h.sb,h.mp,h.tw,h.ld,h.qu,h.ge,h.n1,h.n2,h.n3⟩
end
open Go.RowKit Go.Maps Cfp
theorem Zo5 {c0 c1 c2 c3 c4 c:Int} {lv:List Int} (h0:1≤c0) (h1:1≤c1) (l0:lv.getD 0 0=0) {z:Int} (z0:1≤z) (z1:z≤8):¬Zdf (sh5 c0 c1 c2 c3 c4) lv z c:=by
 rintro(⟨_,h | h⟩ | ⟨_,i,x,hx,hf,hl⟩)
 ·omega
 ·have:=h (8,c0) (by simp);simp at this;omega
 ·rw [Zhf z1] at hf
  subst hf
  simp at hx
  rw [l0,←hx] at hl
  simp at hl
  omega
theorem Zm6 {c0 c1 c2 c3 c4:Int}:fitS (sh5 c0 c1 c2 c3 c4) 24=1:=by simp [fitS,sh5,List.findIdx_cons]
theorem Zl8 {c0 c1 c2 c3 c4 c:Int} {lv:List Int} (h1:1≤c1) (l1:lv.getD 1 0=0):¬Zdf (sh5 c0 c1 c2 c3 c4) lv 24 c:=by
 rintro(⟨_,h | h⟩ | ⟨_,i,x,hx,hf,hl⟩)
 ·omega
 ·have:=h (24,c1) (by simp);simp at this
 ·rw [Zm6] at hf
  subst hf
  simp at hx
  rw [l1,←hx] at hl
  simp at hl
  omega
section
variable {w0 W:World} {kc a p led ML s q G MT mb SB cap:Nat} {c:Cfg} {C T:Option Addr} {n k j:Nat} {zs:List Int} {nq:Nat} {nk c0 c1 c2 c3 c4:Int} {st:Option Addr} {sc:Nat} {R:List Wt} {E:List PE} {EA:Option Addr} {capE:Nat} {D:KD} {sA:Ar} {L:Nat→List Nat}
theorem Qu.ledger {w w':World} {B:Nat} {shp:List (Int × Int)} {Wq:List Wt} {M M2:Int} {cs:Array Value} {es:Array MapEntry} {cc:Nat} (h:Qu w B q a p mb G nq nk shp Wq R E EA capE D sA L M M2) (hb:Blk w led 213 cs) (hm:w.heap[ML]?=some (.map es cc)) (hne:ML≠mb) (k:Keeps (fun b=> b=led∨b=ML) w w'):Qu w' B q a p mb G nq nk shp Wq R E EA capE D sA L M M2:=by
 have hno:∀ {b:Nat} {t:TypeId} {cs:Array Value},Blk w b t cs→t≠213→¬(b=led∨b=ML):=fun {b t cs} h1 h2 e=> by
  rcases e with e | e
  ·exact h1.ne hb h2 e
  ·exact Zc6 hm h1 e
 have h1:=h.po
 have h2:IsArH w B a sA NO:=h.ar
 refine⟨h.qu.kept k (hno h.qu.blk (by decide)) (fun e=> ?_),⟨h1.le,h1.blk.kept k (hno h1.blk (by decide)),h1.own.kept k (fun b hb=> ?_),h1.lem,h1.map.kept k (fun e=> ?_)⟩,
  (show IsArH w' B a sA NO from⟨h2.le,h2.blk.kept k (hno h2.blk (by decide)),h2.own.kept k (fun b hb=> ?_),fun j d hj hd=> (h2.sl j d hj hd).kept k (fun b hb=> ?_),fun j d hj hd q x hx=> (h2.da j d hj hd q x hx).kept k (fun b hb=> ?_),h2.dj,h2.fl⟩),h.iv,Nat.le_trans h.hB k.size,h.kn,h.n64⟩
 ·obtain⟨cs',hc⟩:=h.qu.blkG;exact hno hc (by decide) e
 ·obtain⟨cs',hc⟩:=h1.own.blk hb;exact hno hc (by decide)
 ·rcases e with e | e
  ·skip
   obtain⟨es2,cc2,hm2⟩:∃es2 cc2,w.heap[mb]?=some (.map es2 cc2):=h1.map.block
   exact Zc6 hm2 hb e.symm
  ·exact hne e.symm
 ·obtain⟨cs',hc⟩:=h2.own.blk hb;exact hno hc (by decide)
 ·obtain⟨cs',hc⟩:=(h2.sl j d hj hd).blk hb;exact hno hc (by decide)
 ·obtain⟨cs',hc⟩:=(h2.da j d hj hd q x hx).blk hb;exact hno hc (by decide)
def PuR (W0:World) (B q a p mb G nq:Nat) (nk c0 c1 c2 c3 c4:Int) (key:ByteArray) (W w':World):Prop:=
 ∃V,Keeps NO W V∧Keeps (QuS B mb V) V w'∧∃x R E EA cap D sA L,Qu w' B q a p mb G nq nk (sh5 c0 c1 c2 c3 c4) [x] R E EA cap D sA L 1 2∧x.win=0∧x.wgt=5∧x.text=key.data.toList
theorem FdG.judge (key:ByteArray) (h:FdG w0 W kc a p led ML s q G MT mb SB cap c C T n k j zs nq nk c0 c1 c2 c3 c4 st sc [] 0 [] R E EA capE D sA L 0 0)
  (hf:Fine c) (hr:Rtd c) (hsh:c.shards=1) (hq1:c.queue=1) (hn1:nq=1) (hv:Zdu c 0 0=0) (h1:1≤key.size) (h2:key.size≤8) (hz:∀z∈zs,0≤z∧z<18446744073709551616) (hnk:1≤nk) (hc0:2≤c0) (hc1:1≤c1) (hlv:∀i,(Za6 sA).getD i 0=0):
  Calls Tryz.prog 57 #[.pointer (some ⟨kc,0,none⟩),.agg #[.string key,.int .i64 0,.int .u64 5,.int .i64 0]] W fun e w'=> e= .returned (.int .i64 0)∧
   (∃x R E EA capE D sA L,FdG w0 w' kc a p led ML s q G MT mb SB cap c C T n k j zs nq nk c0 c1 c2 c3 c4 st sc [(0,5)] 1 [x] R E EA capE D sA L 1 2∧x.win=0∧x.wgt=5∧x.text=key.data.toList)∧Keeps (FJ kc W) W w':=by
 have hkl:key.data.toList.length=key.size:=by rw [Array.length_toList];rfl
 obtain⟨es,cc,hMLm,_⟩:=h.ld.map
 have hsp:Zn5 (PuR W w0.heap.size q a p mb G nq nk c0 c1 c2 c3 c4 key):=by
  rintro V w' ⟨V2,k1,k2,_⟩ b t cs ho hb
  have hb2:=hb.kept k1 (fun h=> h)
  exact hb2.kept k2 (QuS.not hb2 ho.1 ho.2.1 ho.2.2.1 ho.2.2.2.1 ho.2.2.2.2.1 ho.2.2.2.2.2.1 ho.2.2.2.2.2.2)
 have hj:=Zoo W kc c hf C T n k j _ SB 1 cap led st 0 sc 0 false 0 h.blk (by omega) (by omega) w0.heap.size ML [] 0 (List.replicate 7 0) h.ld (by omega) (by omega) (h.blk.ne h.ld.blk (by decide)) (h.ld.map.ne_blk h.blk).symm
  key 0 5 (by omega) (by omega) (by omega) (by omega) hv 0 (by simp) (by decide) (by decide) 0 s
  (fun V kV=> by
   have:=Znu c hr C T n k j _ V zs hz ((h.tw.kept kV (fun _ _ h=> h)).rd (by omega)) key (by omega) 0 (by omega) (by omega)
   rw [show Zf1 c (Zcb c zs key) 0=0 from by unfold Zf1;rw [hsh];exact Int.emod_one _] at this
   exact this)
  (by omega) (fun V kV=> by simpa using (h.sh.kept kV (fun _ _ h=> h)).cell 0 (by omega)) 0
  (fun V kV=> Zno (h.sb.kept kV (fun h=> h)) rfl (fun V2 e=> by subst e;exact Zrj (h:=(h.qu.quiet kV).qu))) (by rw [hq1];rfl)
  (PuR W w0.heap.size q a p mb G nq nk c0 c1 c2 c3 c4 key) hsp
  (fun V w' kV hR=> by
   obtain⟨V2,k1,k2,_⟩:=hR
   have hl2:=(h.ld.quiet kV).quiet k1
   obtain⟨es2,cc2,hm2,_⟩:=hl2.map
   exact hl2.kept k2 (QuS.not hl2.blk (by decide) (by decide) (by decide) (by decide) (by decide) (by decide) (by decide)) (Zg4 (mb:=⟨w0.heap.size,mb⟩) hm2 h.n1))
  (fun V kV=> by
   refine(Zkh (h.sb.kept kV (fun h=> h)) rfl 0 key 0 5 (fun V1 w'=> Keeps (QuS w0.heap.size mb V1) V1 w'∧∃x R E EA cap D sA L,Qu w' w0.heap.size q a p mb G nq nk (sh5 c0 c1 c2 c3 c4) [x] R E EA cap D sA L 1 2∧x.win=0∧x.wgt=5∧x.text=key.data.toList) ?_ (fun V2 k2=> ?_)).mono ?_
   ·rintro V1 w' ⟨k2,_⟩ b t cs ho hb
    exact hb.kept k2 (QuS.not hb ho.1 ho.2.1 ho.2.2.1 ho.2.2.2.1 ho.2.2.2.2.1 ho.2.2.2.2.2.1 ho.2.2.2.2.2.2)
   ·refine(Zkw V2 w0.heap.size q a p mb G nq nk (sh5 c0 c1 c2 c3 c4) [] R E EA capE D sA L 0 0 key 0 0 5 ((h.qu.quiet kV).quiet k2) (by simp;omega) (by omega) (by omega) h1 (by omega)).mono ?_
    intro e w' hp
    cases hp with
    | no c R E EA cap D s L he hq' hlv' hc kk=>
      exfalso
      rcases hc with ⟨e1,_⟩ | ⟨_,e1,_⟩ | ⟨_,e1,_⟩ | ⟨_,_,_,e1 | ⟨e1,_⟩ | ⟨lv1,e1,e2⟩⟩
      ·simp at e1;omega
      ·rw [e1] at hkl;simp at hkl;omega
      ·omega
      ·exact Zl8 hc1 (hlv 1) e1
      ·simp at e1;omega
      ·refine Zo5 (by omega) hc1 ?_ (by omega) (by omega) e2
       rw [e1 0,hlv 0,Zm6]
       simp
    | ok hd id R E EA cap D s L he hl hk' hq' kk=>
      exact⟨he,kk,⟨0,0,5,hd,id,key.data.toList⟩,R,E,EA,cap,D,s,L,hq',rfl,rfl,rfl⟩
   ·rintro e w' ⟨rfl,V2,k2,k3,hx⟩
    exact⟨rfl,V2,k2,k3,hx⟩)
 refine hj.mono ?_
 rintro e w' ⟨rfl,wx,wy,kx,⟨V,kv,kq,x,R',E',EA',capE',D',sA',L',hqu,hx⟩,hld,kl⟩
 have hV:=(h.quiet kx).quiet kv
 obtain⟨esV,ccV,hmlV,_⟩:=hV.ld.map
 obtain⟨esM,ccM,hmtV,_⟩:=hV.mp
 have hno1:∀ {b:Nat} {t:TypeId} {cs:Array Value},Blk V b t cs→Zd3 t→¬QuS w0.heap.size mb V b:=fun {b t cs} hb ho=> QuS.not hb ho.1 ho.2.1 ho.2.2.1 ho.2.2.2.1 ho.2.2.2.2.1 ho.2.2.2.2.2.1 ho.2.2.2.2.2.2
 have hY:=hV.ld.kept kq (hno1 hV.ld.blk (by decide)) (Zg4 (mb:=⟨w0.heap.size,mb⟩) hmlV hV.n1)
 obtain⟨esY,ccY,hmlY,_⟩:=hY.map
 have hno2:∀ {b:Nat} {t:TypeId} {cs:Array Value},Blk wy b t cs→t≠213→¬(b=led∨b=ML):=fun {b t cs} h1 h2 e=> by
  rcases e with e | e
  ·exact h1.ne hY.blk h2 e
  ·exact Zc6 hmlY h1 e
 have hsb:=hV.sb.kept kq (hno1 hV.sb (by decide))
 have hbl:=hV.blk.kept kq (hno1 hV.blk (by decide))
 have hshw:=hV.sh.kept kq (fun b hb=> by obtain⟨cs',hc⟩:=hV.sh.blk hb;exact hno1 hc (by decide))
 have htww:=hV.tw.kept kq (fun b hb=> by obtain⟨cs',hc⟩:=hV.tw.blk hb;exact hno1 hc (by decide))
 have hmpw:=hV.mp.kept kq (Zg4 (mb:=⟨w0.heap.size,mb⟩) hmtV hV.n3)
 have hge:=hV.ld.le
 refine⟨rfl,⟨x,R',E',EA',capE',D',sA',L',⟨(hV.k0.step kq (fun b hb e=> ?_)).step kl (fun b hb e=> ?_),hbl.kept kl (hno2 hbl (by decide)),hshw.kept kl (fun b hb=> ?_),hsb.kept kl (hno2 hsb (by decide)),hmpw.kept kl (fun e=> ?_),htww.kept kl (fun b hb=> ?_),hld,hqu.ledger hY.blk hmlY h.n1 kl,h.ge,h.n1,h.n2,h.n3⟩,hx⟩,?_⟩
 ·rcases e with (⟨e1,_⟩ | ⟨e1,_⟩) | ⟨e1,_⟩ <;> omega
 ·omega
 ·obtain⟨cs',hc⟩:=hshw.blk hb;exact hno2 hc (by decide)
 ·rcases e with e | e
  ·exact hmpw.ne_blk hY.blk e
  ·exact h.n2 e.symm
 ·obtain⟨cs',hc⟩:=htww.blk hb;exact hno2 hc (by decide)
 ·refine FJ.trans (FJ.trans (FJ.quiet (kx.trans kv)) (kq.weak (fun b hb e=> .inr (fun⟨t,cs,h1,h2,_⟩=> hno1 h1 h2 e)))) (kl.weak (fun b hb e=> .inr (fun⟨t,cs,h1,_,h3⟩=> hno2 h1 h3 e)))
end
open Go.RowKit Go.Maps Cfp
section
variable {w0 W:World} {kc a p led ML s q G MT mb SB cap:Nat} {c:Cfg} {C T:Option Addr} {n k j:Nat} {zs:List Int} {nq:Nat} {nk c0 c1 c2 c3 c4:Int} {st:Option Addr} {sc:Nat} {R:List Wt} {E:List PE} {EA:Option Addr} {capE:Nat} {D:KD} {sA:Ar} {L:Nat→List Nat}
theorem FdG.feed (key:ByteArray) (h:FdG w0 W kc a p led ML s q G MT mb SB cap c C T n k j zs nq nk c0 c1 c2 c3 c4 st sc [] 0 [] R E EA capE D sA L 0 0)
  (hf:Fine c) (hr:Rtd c) (hsh:c.shards=1) (hq1:c.queue=1) (hn1:nq=1) (hv:Zdu c 0 0=0) (h1:1≤key.size) (h2:key.size≤8) (hz:∀z∈zs,0≤z∧z<18446744073709551616) (hnk:1≤nk) (hc0:2≤c0) (hc1:1≤c1) (hlv:∀i,(Za6 sA).getD i 0=0)
  (ev:EvR) (hev:EvIn c.key ev ⟨key,0,5,0⟩) (A2:Option Addr) (n2 cp2 B2:Nat) (hr2:Rd W B2 A2 1 n2 ((Stp.frame (Zay [ev])).map by8)) (hB2:B2≤W.heap.size) (hfit:(Zay [ev]).length≤4096):
  Calls Tryz.prog 17 #[.pointer (some ⟨kc,0,none⟩),.slice A2 n2 cp2] W fun e w'=> ∃A co,e= .returned (.slice A 1 co)∧Own w' W.heap.size 3 1 A 1 co [.int .i64 0]∧
   (∃st sc x R E EA capE D sA L,FdG w0 w' kc a p led ML s q G MT mb SB cap c C T n k j zs nq nk c0 c1 c2 c3 c4 st sc [(0,5)] 1 [x] R E EA capE D sA L 1 2∧x.win=0∧x.wgt=5∧x.text=key.data.toList)∧Keeps (FJ kc W) W w':=by
 have hw0:=h.k0.size
 refine(Zsr W kc c hf C T n k j _ _ 1 cap led st sc 0 h.blk [ev] [⟨key,0,5,0⟩] [0] 1 A2 n2 cp2 B2 hr2 hB2 hfit rfl (by omega) (by omega) rfl rfl (fun i x y hx hy=> ?_)
  (fun st sc i V=> (i=0∧FdG w0 V kc a p led ML s q G MT mb SB cap c C T n k j zs nq nk c0 c1 c2 c3 c4 st sc [] 0 [] R E EA capE D sA L 0 0)∨(i=1∧∃x R E EA capE D sA L,FdG w0 V kc a p led ML s q G MT mb SB cap c C T n k j zs nq nk c0 c1 c2 c3 c4 st sc [(0,5)] 1 [x] R E EA capE D sA L 1 2∧x.win=0∧x.wgt=5∧x.text=key.data.toList))
  (fun st sc i V=> ∃x R E EA capE D sA L,FdG w0 V kc a p led ML s q G MT mb SB cap c C T n k j zs nq nk c0 c1 c2 c3 c4 st sc [(0,5)] 1 [x] R E EA capE D sA L 1 2∧x.win=0∧x.wgt=5∧x.text=key.data.toList)
  ?_ ?_ ?_ ?_ ?_ ?_ ?_ ?_).mono ?_
 ·rcases i with _ | i
  ·simp at hx hy;subst hx hy;exact hev
  ·simp at hx
 ·intro V st' sc' kk hb
  exact .inl ⟨rfl,h.strm kk hb⟩
 ·rintro st sc i V V' (⟨rfl,h3⟩ | ⟨rfl,x,R,E,EA,capE,D,sA,L,h3,hx⟩) kk
  ·exact .inl ⟨rfl,h3.kept kk (fun b hb=> ⟨Nat.le_trans hw0 hb.1,by obtain⟨cs,hc⟩:=hb.2;exact⟨_,cs,hc,by decide⟩⟩)⟩
  ·exact .inr ⟨rfl,x,R,E,EA,capE,D,sA,L,h3.kept kk (fun b hb=> ⟨Nat.le_trans hw0 hb.1,by obtain⟨cs,hc⟩:=hb.2;exact⟨_,cs,hc,by decide⟩⟩),hx⟩
 ·rintro st sc i V V' ⟨x,R,E,EA,capE,D,sA,L,h3,hx⟩ kk
  exact⟨x,R,E,EA,capE,D,sA,L,h3.quiet kk,hx⟩
 ·rintro st sc i V (⟨rfl,h3⟩ | ⟨rfl,x,R,E,EA,capE,D,sA,L,h3,hx⟩)
  ·exact h3.blk
  ·exact h3.blk
 ·rintro st sc i V ⟨x,R,E,EA,capE,D,sA,L,h3,hx⟩
  exact h3.blk
 ·rintro st sc i y v V hy hv' (⟨rfl,h3⟩ | ⟨rfl,_⟩)
  ·simp at hy hv'
   subst hy hv'
   exact h3.judge key hf hr hsh hq1 hn1 hv h1 h2 hz hnk hc0 hc1 hlv
  ·simp at hy
 ·rintro st sc i V hi h3
  rcases i with _ | i
  ·exact .inr ⟨rfl,h3⟩
  ·simp at hi
 ·rintro st sc i v V hi hne h3
  rcases i with _ | i
  ·simp at hi;exact absurd hi.symm hne
  ·simp at hi
 ·rintro e w' ⟨A,co,st',sc',rfl,ho,hs,kk⟩
  rcases hs with ⟨h3,_⟩ | ⟨_,h3⟩
  ·omega
  ·exact⟨A,co,rfl,ho,⟨st',sc',h3⟩,kk⟩
end
end Go.Proofs.YtjamiaamngalgaaGreat
