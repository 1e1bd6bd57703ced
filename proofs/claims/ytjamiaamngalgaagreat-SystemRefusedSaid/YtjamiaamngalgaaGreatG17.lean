/-
  Parts: What a valid configurati. No conditions beyond those of the statement.
-/
import Derived.Test.YtjamiaamngalgaaGreatG00
import Derived.Test.YtjamiaamngalgaaGreatG07
set_option linter.unusedVariables false
set_option linter.unusedSimpArgs false
set_option maxRecDepth 1000000
set_option maxHeartbeats 4000000
namespace Go.Proofs.YtjamiaamngalgaaGreat
open Go.RowKit Cfp
theorem Zgm (c:Cfg) (h:Fine c) (l:List (Int × Int)) (hl:Za7 l=0) (hm:Room c l) (C T:Option Addr) (n k j B:Nat) (w:World) (hr:Rd w B C 2 n (clv l)) (hB:B≤w.heap.size):
  Calls Tryz.prog 41 #[Value.agg (cfC c C n k T 16 j)] w (Zht w n (Zac c l)):=by
 have HT:=zz (fun w' hr' hB'=> Zj0 c h l hl hm C T n k j B w' hr' hB')
 have HF:=zz (fun w' hr' hB' hn x x0 x1 i hi hx=> Zuw l (Zan l hl).2 C n k B w' hr' hB' hn x x0 x1 i hi hx)
 have HC:=zz (fun w' hr' hB'=> Zer c h l hl hm C T n k j B w' hr' hB')
 have hrm:=hm
 obtain⟨p,d,hp,hd,hm1,hm2,hm3⟩:=hm
 have hlen:l.length=n:=by have:=hr.1;rw [Zax] at this;omega
 obtain⟨⟨n0,n1⟩,hb⟩:=Zan l hl
 rw [hlen] at n1 n0
 have hbd:=hb d (List.mem_of_getElem? hd)
 have h1:=h.key
 have h2:=h.width
 have HX:Hid (∀x,x≤d.1→fit l x<n):=zz (fun x hx=> by have:=Zig hp hd hx;omega)
 have HU:Hid (∀q:Nat,1≤q→(q:Int)≤c.key→upto l (q+1)=fit l (q:Int)+1∧(fit l (q:Int)+1=upto l q∨fit l (q:Int)=upto l q)):=by
  intro q q0 q1
  have ha:Zab 0 l=0:=by
   unfold Za7 at hl
   split at hl
   ·simp at hl
   ·exact hl
  exact Zk4 l (by omega) 0 (Zgp l 0 ha).1 (fun c hc=> (hb c hc).1) q q0 (by rw [hlen];exact HX.out _ (by omega))
 have HR:=zz hr
 have hmk:=fun w=> Zfw n (by omega) w
 have hsw:=h.sw
 have hswd:=h.swd
 have hsq:=h.sq
 have htr:=h.tr
 have HLn:=zz hlen
 clear hr hp hd hlen hb hl h hrm
 go_enter Tryz.func41,Tryz.ntmps41
 go_wp2_with fail
 refine(HC.out _ (HR.out.kept ((Kz0 NO w).alloc _) (fun _ _ h=> h)) (Nat.le_trans hB ((Kz0 NO w).alloc _).size)).mono ?_
 rintro e w2 ⟨rfl,k2⟩
 obtain⟨b2,k2⟩:=box1 k2
 have f14:w2.cell? ⟨w.heap.size,14,none⟩=some (.slice C n k):=b2.cell 14
 have f14':∀o,(w2.alloc o).cell? ⟨w.heap.size,14,none⟩=some (.slice C n k):=fun o=> (b2.alloc o).cell 14
 have f11':∀o,(w2.alloc o).cell? ⟨w.heap.size,11,none⟩=some (.int .i64 c.width):=fun o=> (b2.alloc o).cell 11
 have B2:=zz b2
 have K2:=zz k2
 clear b2 k2
 go_wp2_with fail
 have hGw:=K2.out.size
 have hGl:w.heap.size<w2.heap.size:=B2.out.lt
 have D3:Hid (DSt w w2.heap.size w.heap.size (List.replicate n 0) (cfC c C n k T 16 j) (w2.alloc (.cells (List.replicate n (.int .i64 0)).toArray 3))):=⟨K2.out.alloc _,by
  have:=Blk.new w2 3 ((List.replicate n (0:Int)).map (Value.int .i64)).toArray
  simpa [Nums] using this,B2.out.alloc _⟩
 have Z3:=zz (Bnd.zero n)
 have L3:Hid ((List.replicate n (0:Int)).length=n):=by simp [Hid]
 obtain⟨zs3,hzs3⟩:∃zs,zs=List.replicate n (0:Int):=⟨_,rfl⟩
 rw [←hzs3] at D3 Z3 L3
 have HZ3:=zz hzs3
 clear f14 f14' f11' B2 K2 hmk hzs3
 try rw [show(Array.replicate n (Value.int .i64 0))=(List.replicate n (Value.int .i64 0)).toArray from by simp]
 generalize w2.alloc (.cells (List.replicate n (.int .i64 0)).toArray 3)=w3 at*
 generalize w2.heap.size=G at*
 obtain⟨i1,hi1e⟩:∃i,fit l (8*c.width)=i:=⟨_,rfl⟩
 have hi1:i1<n:=by rw [←hi1e];exact HX.out _ (by omega)
 refine(HF.out _ (HR.out.kept D3.out.1 (fun _ _ h=> h)) (Nat.le_trans hB D3.out.1.size) n1 (8*c.width) (by omega) (by omega) i1 hi1e hi1).mono ?_
 rintro e w4 ⟨rfl,k4⟩
 have D4:=zz (D3.out.kept k4)
 have HI1:=zz hi1e
 have hiI:(i1:Int)<(n:Int):=by omega
 have hzb:=Z3.out i1 (by have:=L3.out;omega)
 obtain⟨c0,c1,c2,c3,c4,c5,c6,c7,c8,c9,c10,c11,c12,c13,c14,c15,c16⟩:=Zb1 D4.out.2.2
 have hz1:=D4.out.2.1.cell i1 (by have:=L3.out;omega)
 have hf1:=D4.out.2.1.frozen i1
 obtain⟨z1,hz1e⟩:∃z,z=zs3.getD i1 0:=⟨_,rfl⟩
 rw [←hz1e] at hz1 hzb
 have hw1:IntKind.i64.wrap (c.shards*c.windows)=c.shards*c.windows:=IntWalk.i64_in _ (by omega)
 have hw2:IntKind.i64.wrap (c.shards*c.windows*c.depth)=c.shards*c.windows*c.depth:=IntWalk.i64_in _ (by omega)
 have hw3:IntKind.i64.wrap (z1+c.shards*c.windows*c.depth)=z1+c.shards*c.windows*c.depth:=IntWalk.i64_in _ (by omega)
 have HE1:=zz hz1e
 clear k4 hi1e D3 hz1e
 go_wp2_with fail
 go_cut [] from 34 to 47 (fun wx=> DSt w G w.heap.size (Zbk zs3 i1 (c.shards*c.windows*c.depth)) (cfC c C n k T 16 j) wx)
 case first=>
  go_region
  go_wp2_with fail
  go_meet
  first
   | exact(DSt.put D4.out hGl hGw _ (by rw [←HE1.out]))
   | exact(DSt.put D4.out hGl hGw _ (by rw [←HE1.out])).drew
   | exact(DSt.put D4.out.drew hGl hGw _ (by rw [←HE1.out]))
   | exact(DSt.put D4.out hGl hGw _ (by rw [←HE1.out])).drewN _
 case rest=>
 clear hz1 hf1 hzb hw1 hw2 hw3 HE1 D4 hiI
 clear c0 c1 c2 c3 c4 c5 c6 c7 c8 c9 c10 c11 c12 c13 c14 c15 c16
 have D5:=zz hcut
 have Z5:=zz (Z3.out.add i1 hswd.1 hswd.2)
 have L5:=zz (show(Zbk zs3 i1 (c.shards*c.windows*c.depth)).length=n by rw [Zb8];exact L3.out)
 obtain⟨zs5,hzs5⟩:∃zs,zs=Zbk zs3 i1 (c.shards*c.windows*c.depth):=⟨_,rfl⟩
 rw [←hzs5] at D5 Z5 L5
 have HZ5:=zz hzs5
 have f14:wc.cell? ⟨w.heap.size,14,none⟩=some (.slice C n k):=D5.out.2.2.cell 14
 clear hcut Z3 L3 hzs5
 go_wp2_with fail
 obtain⟨i2,hi2e⟩:∃i,fit l 32=i:=⟨_,rfl⟩
 have hi2:i2<n:=by rw [←hi2e];exact HX.out _ (by omega)
 refine(HF.out _ (HR.out.kept D5.out.1 (fun _ _ h=> h)) (Nat.le_trans hB D5.out.1.size) n1 32 (by omega) (by omega) i2 hi2e hi2).mono ?_
 rintro e w6 ⟨rfl,k6⟩
 have D6:=zz (D5.out.kept k6)
 have HI2:=zz hi2e
 have hiI:(i2:Int)<(n:Int):=by omega
 have hzb:=Z5.out i2 (by have:=L5.out;omega)
 have hz2:=D6.out.2.1.cell i2 (by have:=L5.out;omega)
 have hf2:=D6.out.2.1.frozen i2
 obtain⟨z2,hz2e⟩:∃z,z=zs5.getD i2 0:=⟨_,rfl⟩
 rw [←hz2e] at hz2 hzb
 have hw3:IntKind.i64.wrap (z2+Za4 c)=z2+Za4 c:=IntWalk.i64_in _ (by omega)
 have HE2:=zz hz2e
 clear k6 hi2e D5 hz2e f14
 go_wp2_with fail
 go_cut [] from 54 to 61 (fun wx=> DSt w G w.heap.size (Zbk zs5 i2 (Za4 c)) (cfC c C n k T 16 j) wx)
 case first=>
  as_aux_lemma=>
   have k0:Keeps NO w6 w6:=Kz0 _ _
   have HK:=zz (show∀w',Keeps NO w6 w'→w'.cell? ⟨w.heap.size,0,none⟩=some (.int .i64 c.length)∧w'.cell? ⟨w.heap.size,1,none⟩=some (.int .i64 c.lateness)∧w'.cell? ⟨w.heap.size,2,none⟩=some (.int .i64 c.windows)∧w'.cell? ⟨w.heap.size,3,none⟩=some (.int .i64 c.shards)∧w'.cell? ⟨w.heap.size,4,none⟩=some (.int .i64 c.spread)∧w'.cell? ⟨w.heap.size,5,none⟩=some (.int .i64 c.queue)∧w'.cell? ⟨w.heap.size,6,none⟩=some (.int .i64 c.mode)∧w'.cell? ⟨w.heap.size,7,none⟩=some (.int .i64 c.slots)∧w'.cell? ⟨w.heap.size,8,none⟩=some (.int .i64 c.exact_)∧w'.cell? ⟨w.heap.size,9,none⟩=some (.int .u64 c.promote)∧w'.cell? ⟨w.heap.size,10,none⟩=some (.int .i64 c.depth)∧w'.cell? ⟨w.heap.size,11,none⟩=some (.int .i64 c.width)∧w'.cell? ⟨w.heap.size,12,none⟩=some (.int .i64 c.top)∧w'.cell? ⟨w.heap.size,13,none⟩=some (.int .i64 c.key)∧w'.cell? ⟨w.heap.size,14,none⟩=some (.slice C n k)∧w'.cell? ⟨w.heap.size,15,none⟩=some (.slice T 16 j)∧w'.cell? ⟨w.heap.size,16,none⟩=some (.int .u64 c.seed) from fun w' k=> Zb1 (D6.out.kept k).2.2)
   have HKs:=zz (show∀W' y,Keeps NO w6 W'→(fun w'=> w'.cell? ⟨w.heap.size,0,none⟩=some (.int .i64 c.length)∧w'.cell? ⟨w.heap.size,1,none⟩=some (.int .i64 c.lateness)∧w'.cell? ⟨w.heap.size,2,none⟩=some (.int .i64 c.windows)∧w'.cell? ⟨w.heap.size,3,none⟩=some (.int .i64 c.shards)∧w'.cell? ⟨w.heap.size,4,none⟩=some (.int .i64 c.spread)∧w'.cell? ⟨w.heap.size,5,none⟩=some (.int .i64 c.queue)∧w'.cell? ⟨w.heap.size,6,none⟩=some (.int .i64 c.mode)∧w'.cell? ⟨w.heap.size,7,none⟩=some (.int .i64 c.slots)∧w'.cell? ⟨w.heap.size,8,none⟩=some (.int .i64 c.exact_)∧w'.cell? ⟨w.heap.size,9,none⟩=some (.int .u64 c.promote)∧w'.cell? ⟨w.heap.size,10,none⟩=some (.int .i64 c.depth)∧w'.cell? ⟨w.heap.size,11,none⟩=some (.int .i64 c.width)∧w'.cell? ⟨w.heap.size,12,none⟩=some (.int .i64 c.top)∧w'.cell? ⟨w.heap.size,13,none⟩=some (.int .i64 c.key)∧w'.cell? ⟨w.heap.size,14,none⟩=some (.slice C n k)∧w'.cell? ⟨w.heap.size,15,none⟩=some (.slice T 16 j)∧w'.cell? ⟨w.heap.size,16,none⟩=some (.int .u64 c.seed)) (W'.setCell ⟨G,i2,none⟩ y) from fun w' y k=> Zb1 ((D6.out.kept k).2.2.far (p:=⟨G,i2,none⟩) (by show w.heap.size≠G;omega) y))
   have HTk:=zz (fun W' (k:Keeps NO w6 W')=> HT.out W' (HR.out.kept (D6.out.1.trans k) (fun _ _ h=> h)) (Nat.le_trans hB (D6.out.1.trans k).size))
   obtain⟨c0,c1,c2,c3,c4,c5,c6,c7,c8,c9,c10,c11,c12,c13,c14,c15,c16⟩:=HK.out w6 k0
   refine wp_region_held_drew (S:=(fun w'=> w'.cell? ⟨w.heap.size,0,none⟩=some (.int .i64 c.length)∧w'.cell? ⟨w.heap.size,1,none⟩=some (.int .i64 c.lateness)∧w'.cell? ⟨w.heap.size,2,none⟩=some (.int .i64 c.windows)∧w'.cell? ⟨w.heap.size,3,none⟩=some (.int .i64 c.shards)∧w'.cell? ⟨w.heap.size,4,none⟩=some (.int .i64 c.spread)∧w'.cell? ⟨w.heap.size,5,none⟩=some (.int .i64 c.queue)∧w'.cell? ⟨w.heap.size,6,none⟩=some (.int .i64 c.mode)∧w'.cell? ⟨w.heap.size,7,none⟩=some (.int .i64 c.slots)∧w'.cell? ⟨w.heap.size,8,none⟩=some (.int .i64 c.exact_)∧w'.cell? ⟨w.heap.size,9,none⟩=some (.int .u64 c.promote)∧w'.cell? ⟨w.heap.size,10,none⟩=some (.int .i64 c.depth)∧w'.cell? ⟨w.heap.size,11,none⟩=some (.int .i64 c.width)∧w'.cell? ⟨w.heap.size,12,none⟩=some (.int .i64 c.top)∧w'.cell? ⟨w.heap.size,13,none⟩=some (.int .i64 c.key)∧w'.cell? ⟨w.heap.size,14,none⟩=some (.slice C n k)∧w'.cell? ⟨w.heap.size,15,none⟩=some (.slice T 16 j)∧w'.cell? ⟨w.heap.size,16,none⟩=some (.int .u64 c.seed))) (by kernel_rfl) (HK.out _ (Keeps.drew k0)) (fun hHeld=> ?_)
   refine tkH 0 ?_
   refine tkH 1 ?_
   refine tkH 2 ?_
   refine tkH 4 ?_
   refine wpAnyH_ready (rs:= [3,5]) (by kernel_rfl) (by simp) ?_
   refine AllReadyH.cons rfl (fun K hK=> ?_) (AllReadyH.cons rfl (fun K hK=> ?_) AllReadyH.nil)
   ·go_simp
    refine hK.out _ _ (by first | exact HK.out _ (Keeps.drew k0) | exact HK.out _ k8) (fun hHeld=> ?_)
    clear hK K
    try simp only [Act.put,List.setIfInBounds_toArray]
    try dsimp only [List.set_cons_zero,List.set_cons_succ]
    refine rd1 5 (fun K hK=> ?_)
    go_simp
    go_at_call 98
    refine(HTk.out _ (Keeps.drew k0)).mono ?_
    rintro e w8 ⟨rfl,k8'⟩
    have k8:Keeps NO w6 w8:=Keeps.trans (Keeps.drew k0) k8'
    clear k8'
    have hz8:=k8.cell_some hz2 (fun h=> h)
    have hf8:=(D6.out.kept k8).2.1.frozen i2
    try go_wp2_with fail
    refine hK.out _ _ (HK.out _ k8) (fun hHeld=> ?_)
    clear hK K
    try simp only [Act.put,List.setIfInBounds_toArray]
    try dsimp only [List.set_cons_zero,List.set_cons_succ]
    refine tkH 6 ?_
    refine tkH 7 ?_
    refine rd1 8 (fun K hK=> ?_)
    go_simp
    refine hK.out _ _ (by first | exact HKs.out _ _ k8 | exact HKs.out _ _ (Keeps.drew k8)) (fun hHeld=> ?_)
    clear hK K
    refine wpAnyH_done (by kernel_rfl) ?_ _
    go_wp2_with fail
    go_meet
    first
     | exact(DSt.put (D6.out.kept k8) hGl hGw _ (by rw [←HE2.out]))
     | exact(DSt.put (D6.out.kept k8) hGl hGw _ (by rw [←HE2.out])).drew
     | exact(DSt.put (D6.out.kept k8).drew hGl hGw _ (by rw [←HE2.out]))
   ·go_simp
    go_at_call 98
    refine(HTk.out _ (Keeps.drew k0)).mono ?_
    rintro e w8 ⟨rfl,k8'⟩
    have k8:Keeps NO w6 w8:=Keeps.trans (Keeps.drew k0) k8'
    clear k8'
    have hz8:=k8.cell_some hz2 (fun h=> h)
    have hf8:=(D6.out.kept k8).2.1.frozen i2
    try go_wp2_with fail
    refine hK.out _ _ (HK.out _ k8) (fun hHeld=> ?_)
    clear hK K
    try simp only [Act.put,List.setIfInBounds_toArray]
    try dsimp only [List.set_cons_zero,List.set_cons_succ]
    refine rd1 3 (fun K hK=> ?_)
    go_simp
    refine hK.out _ _ (by first | exact HK.out _ (Keeps.drew k0) | exact HK.out _ k8) (fun hHeld=> ?_)
    clear hK K
    try simp only [Act.put,List.setIfInBounds_toArray]
    try dsimp only [List.set_cons_zero,List.set_cons_succ]
    refine tkH 6 ?_
    refine tkH 7 ?_
    refine rd1 8 (fun K hK=> ?_)
    go_simp
    refine hK.out _ _ (by first | exact HKs.out _ _ k8 | exact HKs.out _ _ (Keeps.drew k8)) (fun hHeld=> ?_)
    clear hK K
    refine wpAnyH_done (by kernel_rfl) ?_ _
    go_wp2_with fail
    go_meet
    first
     | exact(DSt.put (D6.out.kept k8) hGl hGw _ (by rw [←HE2.out]))
     | exact(DSt.put (D6.out.kept k8) hGl hGw _ (by rw [←HE2.out])).drew
     | exact(DSt.put (D6.out.kept k8).drew hGl hGw _ (by rw [←HE2.out]))
 case rest=>
 clear hz2 hf2 hzb hw3 HE2 D6 hiI
 have D7:=zz hcut
 have Z7:=zz (Z5.out.add i2 htr.1 htr.2)
 have L7:=zz (show(Zbk zs5 i2 (Za4 c)).length=n by rw [Zb8];exact L5.out)
 obtain⟨zs7,hzs7⟩:∃zs,zs=Zbk zs5 i2 (Za4 c):=⟨_,rfl⟩
 rw [←hzs7] at D7 Z7 L7
 have HZ7:=zz hzs7
 have f14:wc.cell? ⟨w.heap.size,14,none⟩=some (.slice C n k):=D7.out.2.2.cell 14
 clear hcut Z5 L5 hzs7
 go_wp2_with fail
 obtain⟨i3,hi3e⟩:∃i,fit l 24=i:=⟨_,rfl⟩
 have hi3:i3<n:=by rw [←hi3e];exact HX.out _ (by omega)
 refine(HF.out _ (HR.out.kept D7.out.1 (fun _ _ h=> h)) (Nat.le_trans hB D7.out.1.size) n1 24 (by omega) (by omega) i3 hi3e hi3).mono ?_
 rintro e w8 ⟨rfl,k8⟩
 have D8:=zz (D7.out.kept k8)
 have HI3:=zz hi3e
 have hiI:(i3:Int)<(n:Int):=by omega
 have hzb:=Z7.out i3 (by have:=L7.out;omega)
 obtain⟨c0,c1,c2,c3,c4,c5,c6,c7,c8,c9,c10,c11,c12,c13,c14,c15,c16⟩:=Zb1 D8.out.2.2
 have hz3:=D8.out.2.1.cell i3 (by have:=L7.out;omega)
 have hf3:=D8.out.2.1.frozen i3
 obtain⟨z3,hz3e⟩:∃z,z=zs7.getD i3 0:=⟨_,rfl⟩
 rw [←hz3e] at hz3 hzb
 have hw1:IntKind.i64.wrap (c.shards*c.queue)=c.shards*c.queue:=IntWalk.i64_in _ (by omega)
 have hw3:IntKind.i64.wrap (z3+c.shards*c.queue)=z3+c.shards*c.queue:=IntWalk.i64_in _ (by omega)
 have HE3:=zz hz3e
 clear k8 hi3e D7 hz3e f14
 go_wp2_with fail
 go_cut [] from 68 to 78 (fun wx=> DSt w G w.heap.size (Zbk zs7 i3 (c.shards*c.queue)) (cfC c C n k T 16 j) wx)
 case first=>
  go_region
  go_wp2_with fail
  go_meet
  first
   | exact(DSt.put D8.out hGl hGw _ (by rw [←HE3.out]))
   | exact(DSt.put D8.out hGl hGw _ (by rw [←HE3.out])).drew
   | exact(DSt.put D8.out.drew hGl hGw _ (by rw [←HE3.out]))
   | exact(DSt.put D8.out hGl hGw _ (by rw [←HE3.out])).drewN _
 case rest=>
 clear hz3 hf3 hzb hw1 hw3 HE3 D8 hiI
 clear c0 c1 c2 c3 c4 c5 c6 c7 c8 c9 c10 c11 c12 c13 c14 c15 c16
 have D9:=zz hcut
 have Z9:=zz (Z7.out.add i3 hsq.1 hsq.2)
 have L9:=zz (show(Zbk zs7 i3 (c.shards*c.queue)).length=n by rw [Zb8];exact L7.out)
 obtain⟨zs9,hzs9⟩:∃zs,zs=Zbk zs7 i3 (c.shards*c.queue):=⟨_,rfl⟩
 rw [←hzs9] at D9 Z9 L9
 have HZ9:=zz hzs9
 clear hcut Z7 L7 hzs9
 go_wp2_with fail
 refine Code.wp_mono ?_ (Zhj c l C T n k j B G w _ hB _ _ _ _ _ _ _ _ _ _ _ _ _ _ _ _ _ _ _ _ _ _ _ _ _ _ _ _ _ _ _ _ _ _ _ _ _ _ _ _ _ _ _ _ _ _ _ _ _ _ _ _ _ _ _ _ _ _ _ _ _ _ _ _ _ _ _ _ _ _ _ _ _ _ _ _ _ _ _ _ _ _ _ _ _ _ _ _ _ _ _ _ _ _ _ _ _ _ _ _ _ _ _ _ _ _ _ zs9 _ HT HF HR hGw hGl n1 (by omega) (by omega) (fun q hq=> HX.out _ (by omega)) HU hsq htr D9 Z9 (by omega) L9)
 intro e a' w'' hex
 cases e <;> (first | exact hex.elim | skip)
 obtain⟨rfl,⟨v12,v13,v14,v15,v79,v80,v81,v82,v83,v84,v85,v86,v87,v88,v89,v90,v91,v92,v93,v94,v95,v96,v97,v98,v99,v100,v101,v102,v103,v104,v105,v106,v107,v108,v109,rfl⟩,DR⟩:=hex
 dsimp only
 have HZ:Hid (Zca zs9 (Za4 c+c.shards*c.queue) (fit l c.key+1)=Zac c l):=by
  show _=_
  unfold Zac
  rw [HLn.out,HI1.out,HI2.out,HI3.out,←HZ3.out,←HZ5.out,←HZ7.out,←HZ9.out]
 rw [HZ.out] at DR
 have DRH:=zz DR
 clear DR
 go_wp2_with fail
 go_ret2
 exact⟨G,rfl,hGw,DRH.out.2.1,DRH.out.1⟩
end Go.Proofs.YtjamiaamngalgaaGreat
