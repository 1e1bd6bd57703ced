/-
  Parts: What a valid configurati. No conditions beyond those of the statement.
-/
import Derived.Test.YtjamiaamngalgaaGreatG00
import Derived.Test.YtjamiaamngalgaaGreatG06
import Derived.Test.YtjamiaamngalgaaGreatG03
import Derived.Deep.CutRange
import Derived.Deep.RegionHeld3
set_option linter.unusedVariables false
set_option linter.unusedSimpArgs false
set_option maxRecDepth 1000000
set_option maxHeartbeats 4000000
namespace Go.Proofs.YtjamiaamngalgaaGreat
open Go.RowKit Cfp
theorem Zig {l:List (Int × Int)} {p:Nat} {d:Int × Int} {x:Int} (hp:l.length=p+1) (hd:l[p]?=some d) (hx:x≤d.1):fit l x<p+1:=by
 have h1:l[l.length-1]'(by omega)=d:=by
  obtain⟨h2,h3⟩:=List.getElem?_eq_some_iff.1 hd
  rw [←h3];congr 1;omega
 have:=Zuu l x (by omega) (by rw [h1];exact hx)
 omega
theorem Zuw (l:List (Int × Int)) (hl:∀c∈l,1≤c.1∧c.1≤4096∧0≤c.2∧c.2≤65536) (C:Option Addr) (n k B:Nat) (w:World) (hr:Rd w B C 2 n (clv l)) (hB:B≤w.heap.size) (hn:n≤8) (x:Int) (x0:1≤x) (x1:x≤4096) (i:Nat) (hi:fit l x=i) (hx:i<n):
  Calls Tryz.prog 97 #[.slice C n k,.int .i64 x] w fun e w'=> e= .returned (.tuple #[.int .i64 i,.int .i64 0])∧Keeps NO w w':=by
 subst hi
 exact(Zsj l hl C n k B w hr hB (by omega) x x0 x1).mono fun e w' ⟨h1,h2⟩=> ⟨by rw [h1,Zm5 hx],h2⟩
def DSt (w:World) (G bx:Nat) (zs:List Int) (cs:Array Value) (w':World):Prop:=Keeps NO w w'∧Nums w' G zs∧Blk w' bx 27 cs
theorem DSt.kept {w w4 w6:World} {G bx:Nat} {zs:List Int} {cs:Array Value} (h:DSt w G bx zs cs w4) (k:Keeps NO w4 w6):DSt w G bx zs cs w6:=
 ⟨h.1.trans k,h.2.1.kept k (fun h=> h),h.2.2.kept k (fun h=> h)⟩
theorem DSt.put {w w4:World} {G i bx:Nat} {x:Int} {zs:List Int} {cs:Array Value} (h:DSt w G bx zs cs w4) (hne:bx<G) (hG:w.heap.size≤G) (y:Int) (hy:y=zs.getD i 0+x):
  DSt w G bx (Zbk zs i x) cs (w4.setCell ⟨G,i,none⟩ (.int .i64 y)):=by
 subst hy
 exact⟨Keeps.setCell (p:=⟨G,i,none⟩) h.1 (.inr hG) _,h.2.1.add i x,h.2.2.far (p:=⟨G,i,none⟩) (by show bx≠G;omega) _⟩
theorem DSt.drewN {w w4:World} {G bx:Nat} {zs:List Int} {cs:Array Value} (h:DSt w G bx zs cs w4) (q:Nat):DSt w G bx zs cs (w4.drewN q):=h.kept ((Kz0 _ _).drewN q)
theorem DSt.drew {w w4:World} {G bx:Nat} {zs:List Int} {cs:Array Value} (h:DSt w G bx zs cs w4):DSt w G bx zs cs w4.drew:=h.kept (Kz0 _ _).drew
def Zht (w:World) (n:Nat) (zs:List Int) (e:Ending) (w':World):Prop:=
 ∃g,e= .returned (.tuple #[.slice (some ⟨g,0,none⟩) n n,.int .i64 0])∧w.heap.size≤g∧Nums w' g zs∧Keeps NO w w'
def Zbi:Code→Option Code
 | .loop c=> some c
 | .seq a b=> match Zbi a with
   | some c=> some c
   | none=> Zbi b
 | .block _ c=> Zbi c
 | .scope c=> Zbi c
 | .cond _ a b=> match Zbi a with
   | some c=> some c
   | none=> Zbi b
 | _=> none
def Zptx (W:Act→World→Prop):Exit→Act→World→Prop
 | .exit k,a,w=> k=0∧W a w
 | _,_,_=> False
noncomputable def Zw1:Code:=((Tryz.f41.body.bind Zbi).getD .skip)
theorem Zhj (c:Cfg) (l:List (Int × Int)) (C T:Option Addr) (n k j B G:Nat) (w w9:World) (hB:B≤w.heap.size) (s0 s2 s3 s4 s6 s7 s8 s9 s10 s11 s14 s15 s16 s17 s18 s19 s20 s21 s22 s23 s24 s25 s26 s27 s28 s29 s30 s31 s32 s33 s34 s35 s36 s37 s38 s39 s40 s41 s42 s43 s44 s45 s46 s47 s48 s49 s50 s51 s52 s53 s54 s55 s56 s57 s58 s59 s60 s61 s62 s63 s64 s65 s66 s67 s68 s69 s70 s71 s72 s73 s74 s75 s76 s77 s78 s79 s80 s81 s82 s83 s84 s85 s86 s87 s88 s89 s90 s91 s92 s93 s94 s95 s96 s97 s98 s99 s100 s101 s102 s103 s104 s105 s106 s107 s108 s109 s110:Value) (zs9:List Int) (M:Int)
  (HT:Hid (∀w',Rd w' B C 2 n (clv l)→B≤w'.heap.size→Calls Tryz.prog 98 #[Value.agg (cfC c C n k T 16 j)] w' fun e w''=> e= .returned (.int .i64 (Za4 c))∧Keeps NO w' w''))
  (HF:Hid (∀w',Rd w' B C 2 n (clv l)→B≤w'.heap.size→n≤8→∀(x:Int),1≤x→x≤4096→∀(i:Nat),fit l x=i→i<n→
   Calls Tryz.prog 97 #[.slice C n k,.int .i64 x] w' fun e w''=> e= .returned (.tuple #[.int .i64 i,.int .i64 0])∧Keeps NO w' w''))
  (HR:Hid (Rd w B C 2 n (clv l))) (hGw:w.heap.size≤G) (hGl:w.heap.size<G) (n1:n≤8) (hk1:1≤c.key) (hk2:c.key≤255)
  (HX:Hid (∀q:Nat,(q:Int)≤c.key→fit l (q:Int)<n))
  (HU:Hid (∀q:Nat,1≤q→(q:Int)≤c.key→upto l (q+1)=fit l (q:Int)+1∧(fit l (q:Int)+1=upto l q∨fit l (q:Int)=upto l q)))
  (hsq:0≤c.shards*c.queue∧c.shards*c.queue≤512) (htr:0≤Za4 c∧Za4 c≤6144)
  (D9:Hid (DSt w G w.heap.size zs9 (cfC c C n k T 16 j) w9)) (Z9:Hid (Bnd zs9 M)) (hM:M≤100000) (L9:Hid (zs9.length=n)):
  Code.wp Tryz.prog (Code.loop Zw1) (Zptx fun a' w''=> (∃v12 v13 v14 v15 v79 v80 v81 v82 v83 v84 v85 v86 v87 v88 v89 v90 v91 v92 v93 v94 v95 v96 v97 v98 v99 v100 v101 v102 v103 v104 v105 v106 v107 v108 v109:Value,a'=⟨#[s0,.pointer (some ⟨w.heap.size,0,none⟩),s2,s3,s4,.slice (some ⟨G,0,none⟩) n n,s6,s7,s8,s9,s10,s11,v12,v13,v14,v15,s16,s17,s18,s19,s20,s21,s22,s23,s24,s25,s26,s27,s28,s29,s30,s31,s32,s33,s34,s35,s36,s37,s38,s39,s40,s41,s42,s43,s44,s45,s46,s47,s48,s49,s50,s51,s52,s53,s54,s55,s56,s57,s58,s59,s60,s61,s62,s63,s64,s65,s66,s67,s68,s69,s70,s71,s72,s73,s74,s75,s76,s77,s78,v79,v80,v81,v82,v83,v84,v85,v86,v87,v88,v89,v90,v91,v92,v93,v94,v95,v96,v97,v98,v99,v100,v101,v102,v103,v104,v105,v106,v107,v108,v109,s110],[]⟩)∧DSt w G w.heap.size (Zca zs9 (Za4 c+c.shards*c.queue) (fit l c.key+1)) (cfC c C n k T 16 j) w'') ⟨#[s0,.pointer (some ⟨w.heap.size,0,none⟩),s2,s3,s4,.slice (some ⟨G,0,none⟩) n n,s6,s7,s8,s9,s10,s11,.int .i64 (-1),.int .i64 1,s14,s15,s16,s17,s18,s19,s20,s21,s22,s23,s24,s25,s26,s27,s28,s29,s30,s31,s32,s33,s34,s35,s36,s37,s38,s39,s40,s41,s42,s43,s44,s45,s46,s47,s48,s49,s50,s51,s52,s53,s54,s55,s56,s57,s58,s59,s60,s61,s62,s63,s64,s65,s66,s67,s68,s69,s70,s71,s72,s73,s74,s75,s76,s77,s78,s79,s80,s81,s82,s83,s84,s85,s86,s87,s88,s89,s90,s91,s92,s93,s94,s95,s96,s97,s98,s99,s100,s101,s102,s103,s104,s105,s106,s107,s108,s109,s110],[]⟩ w9:=by
 conv=> arg 2;arg 1;whnf
 dsimp only
 go_loopw [12,13,14,15] (fun last nI _ _ wr=> ∃q u:Nat,1≤q∧(q:Int)≤c.key+1∧Hid (u=upto l q)∧nI= .int .i64 q∧last= .int .i64 ((u:Int)-1)∧Hid (DSt w G w.heap.size (Zca zs9 (Za4 c+c.shards*c.queue) u) (cfC c C n k T 16 j) wr)) (fun _ nI _ _ _=> 300-(intOf nI).toNat)
 case atStart=> exact⟨1,0,by omega,by omega,by rfl,rfl,rfl,D9⟩
 case round=>
  obtain⟨q,u,q0,q1,hu,rfl,rfl,DR⟩:=hrel
  clear D9
  have f13:wr.cell? ⟨w.heap.size,13,none⟩=some (.int .i64 c.key):=DR.out.2.2.cell 13
  have f14:wr.cell? ⟨w.heap.size,14,none⟩=some (.slice C n k):=DR.out.2.2.cell 14
  by_cases hq:(q:Int)≤c.key
  ·trace "ROUND"
   obtain⟨v,hv⟩:∃v:Int,v=(u:Int)-1:=⟨_,rfl⟩
   rw [←hv]
   have HV:=zz hv
   clear hv
   go_wp2_with fail
   obtain⟨i4,hi4e⟩:∃i,fit l (q:Int)=i:=⟨_,rfl⟩
   have hi4:i4<n:=by rw [←hi4e];exact HX.out _ hq
   obtain⟨hu1,hu2⟩:=HU.out q q0 hq
   rw [hi4e,←hu.out] at hu2
   rw [hi4e] at hu1
   have HU1:=zz hu1
   refine(HF.out _ (HR.out.kept DR.out.1 (fun _ _ h=> h)) (Nat.le_trans hB DR.out.1.size) n1 q (by omega) (by omega) i4 hi4e hi4).mono ?_
   rintro e w11 ⟨rfl,k11⟩
   have D11:=zz (DR.out.kept k11)
   have hiI:(i4:Int)<(n:Int):=by omega
   clear f13 f14 k11 hu1 hi4e hu
   rcases hu2 with hu2 | hu2
   ·obtain rfl:v=(i4:Int):=by have:=HV.out;omega
    clear DR
    go_wp2_with fail
    go_roundw
    case rel=> exact⟨q+1,u,by omega,by omega,by show u=_;rw [HU1.out];omega,by go_num,by have:=HV.out;rw [this],D11⟩
    case measure=> simp [intOf];omega
   ·subst hu2
    have hvb:((i4:Int) != v)=true:=by have:=HV.out;simp;omega
    have hzb:=(Z9.out.keys (x:=Za4 c+c.shards*c.queue) (N:=6656) i4 (by omega) (by omega)) i4 (by rw [Zc9];have:=L9.out;omega)
    have hz4:=D11.out.2.1.cell i4 (by rw [Zc9];have:=L9.out;omega)
    have hf4:=D11.out.2.1.frozen i4
    obtain⟨z4,hz4e⟩:∃z,z=(Zca zs9 (Za4 c+c.shards*c.queue) i4).getD i4 0:=⟨_,rfl⟩
    rw [←hz4e] at hz4 hzb
    have HE4:=zz hz4e
    have hw1:IntKind.i64.wrap (c.shards*c.queue)=c.shards*c.queue:=IntWalk.i64_in _ (by omega)
    have hw2:IntKind.i64.wrap (Za4 c+c.shards*c.queue)=Za4 c+c.shards*c.queue:=IntWalk.i64_in _ (by omega)
    have hw3:IntKind.i64.wrap (z4+(Za4 c+c.shards*c.queue))=z4+(Za4 c+c.shards*c.queue):=IntWalk.i64_in _ (by omega)
    clear hz4e DR
    go_wp2_with fail
    go_cut [] from 95 to 108 (fun wx=> DSt w G w.heap.size (Zca zs9 (Za4 c+c.shards*c.queue) (i4+1)) (cfC c C n k T 16 j) wx)
    case first=>
     have k0:Keeps NO w11 w11:=Kz0 _ _
     have HK:=zz (show∀w',Keeps NO w11 w'→w'.cell? ⟨w.heap.size,0,none⟩=some (.int .i64 c.length)∧w'.cell? ⟨w.heap.size,1,none⟩=some (.int .i64 c.lateness)∧w'.cell? ⟨w.heap.size,2,none⟩=some (.int .i64 c.windows)∧w'.cell? ⟨w.heap.size,3,none⟩=some (.int .i64 c.shards)∧w'.cell? ⟨w.heap.size,4,none⟩=some (.int .i64 c.spread)∧w'.cell? ⟨w.heap.size,5,none⟩=some (.int .i64 c.queue)∧w'.cell? ⟨w.heap.size,6,none⟩=some (.int .i64 c.mode)∧w'.cell? ⟨w.heap.size,7,none⟩=some (.int .i64 c.slots)∧w'.cell? ⟨w.heap.size,8,none⟩=some (.int .i64 c.exact_)∧w'.cell? ⟨w.heap.size,9,none⟩=some (.int .u64 c.promote)∧w'.cell? ⟨w.heap.size,10,none⟩=some (.int .i64 c.depth)∧w'.cell? ⟨w.heap.size,11,none⟩=some (.int .i64 c.width)∧w'.cell? ⟨w.heap.size,12,none⟩=some (.int .i64 c.top)∧w'.cell? ⟨w.heap.size,13,none⟩=some (.int .i64 c.key)∧w'.cell? ⟨w.heap.size,14,none⟩=some (.slice C n k)∧w'.cell? ⟨w.heap.size,15,none⟩=some (.slice T 16 j)∧w'.cell? ⟨w.heap.size,16,none⟩=some (.int .u64 c.seed) from fun w' k=> Zb1 (D11.out.kept k).2.2)
     have HKs:=zz (show∀W' y,Keeps NO w11 W'→(fun w'=> w'.cell? ⟨w.heap.size,0,none⟩=some (.int .i64 c.length)∧w'.cell? ⟨w.heap.size,1,none⟩=some (.int .i64 c.lateness)∧w'.cell? ⟨w.heap.size,2,none⟩=some (.int .i64 c.windows)∧w'.cell? ⟨w.heap.size,3,none⟩=some (.int .i64 c.shards)∧w'.cell? ⟨w.heap.size,4,none⟩=some (.int .i64 c.spread)∧w'.cell? ⟨w.heap.size,5,none⟩=some (.int .i64 c.queue)∧w'.cell? ⟨w.heap.size,6,none⟩=some (.int .i64 c.mode)∧w'.cell? ⟨w.heap.size,7,none⟩=some (.int .i64 c.slots)∧w'.cell? ⟨w.heap.size,8,none⟩=some (.int .i64 c.exact_)∧w'.cell? ⟨w.heap.size,9,none⟩=some (.int .u64 c.promote)∧w'.cell? ⟨w.heap.size,10,none⟩=some (.int .i64 c.depth)∧w'.cell? ⟨w.heap.size,11,none⟩=some (.int .i64 c.width)∧w'.cell? ⟨w.heap.size,12,none⟩=some (.int .i64 c.top)∧w'.cell? ⟨w.heap.size,13,none⟩=some (.int .i64 c.key)∧w'.cell? ⟨w.heap.size,14,none⟩=some (.slice C n k)∧w'.cell? ⟨w.heap.size,15,none⟩=some (.slice T 16 j)∧w'.cell? ⟨w.heap.size,16,none⟩=some (.int .u64 c.seed)) (W'.setCell ⟨G,i4,none⟩ y) from fun w' y k=> Zb1 ((D11.out.kept k).2.2.far (p:=⟨G,i4,none⟩) (by show w.heap.size≠G;omega) y))
     have HTk:=zz (fun W' (k:Keeps NO w11 W')=> HT.out W' (HR.out.kept (D11.out.1.trans k) (fun _ _ h=> h)) (Nat.le_trans hB (D11.out.1.trans k).size))
     obtain⟨c0,c1,c2,c3,c4,c5,c6,c7,c8,c9,c10,c11,c12,c13,c14,c15,c16⟩:=HK.out w11 k0
     refine wp_region_held_drew (S:=(fun w'=> w'.cell? ⟨w.heap.size,0,none⟩=some (.int .i64 c.length)∧w'.cell? ⟨w.heap.size,1,none⟩=some (.int .i64 c.lateness)∧w'.cell? ⟨w.heap.size,2,none⟩=some (.int .i64 c.windows)∧w'.cell? ⟨w.heap.size,3,none⟩=some (.int .i64 c.shards)∧w'.cell? ⟨w.heap.size,4,none⟩=some (.int .i64 c.spread)∧w'.cell? ⟨w.heap.size,5,none⟩=some (.int .i64 c.queue)∧w'.cell? ⟨w.heap.size,6,none⟩=some (.int .i64 c.mode)∧w'.cell? ⟨w.heap.size,7,none⟩=some (.int .i64 c.slots)∧w'.cell? ⟨w.heap.size,8,none⟩=some (.int .i64 c.exact_)∧w'.cell? ⟨w.heap.size,9,none⟩=some (.int .u64 c.promote)∧w'.cell? ⟨w.heap.size,10,none⟩=some (.int .i64 c.depth)∧w'.cell? ⟨w.heap.size,11,none⟩=some (.int .i64 c.width)∧w'.cell? ⟨w.heap.size,12,none⟩=some (.int .i64 c.top)∧w'.cell? ⟨w.heap.size,13,none⟩=some (.int .i64 c.key)∧w'.cell? ⟨w.heap.size,14,none⟩=some (.slice C n k)∧w'.cell? ⟨w.heap.size,15,none⟩=some (.slice T 16 j)∧w'.cell? ⟨w.heap.size,16,none⟩=some (.int .u64 c.seed))) (by kernel_rfl) (HK.out _ (Keeps.drew k0)) (fun hHeld=> ?_)
     refine tkH 0 ?_
     refine tkH 1 ?_
     refine tkH 2 ?_
     refine tkH 4 ?_
     refine tkH 6 ?_
     refine tkH 7 ?_
     refine tkH 8 ?_
     refine tkH 9 ?_
     refine tkH 10 ?_
     refine wpAnyH_ready (rs:= [3,5]) (by kernel_rfl) (by simp) ?_
     refine AllReadyH.cons rfl (fun K hK=> ?_) (AllReadyH.cons rfl (fun K hK=> ?_) AllReadyH.nil)
     ·go_simp
      refine hK.out _ _ (by first | exact HK.out _ (Keeps.drew k0) | exact HK.out _ k8) (fun hHeld=> ?_)
      clear hK K
      try simp only [Act.put,List.setIfInBounds_toArray]
      try dsimp only [List.set_cons_zero,List.set_cons_succ]
      refine rd1 5 (fun K hK=> ?_)
      go_simp
      go_at_call 98
      refine(HTk.out _ (Keeps.drew k0)).mono ?_
      rintro e w12 ⟨rfl,k8'⟩
      have k8:Keeps NO w11 w12:=Keeps.trans (Keeps.drew k0) k8'
      clear k8'
      have hz8:=k8.cell_some hz4 (fun h=> h)
      have hf8:=(D11.out.kept k8).2.1.frozen i4
      try go_wp2_with fail
      refine hK.out _ _ (HK.out _ k8) (fun hHeld=> ?_)
      clear hK K
      try simp only [Act.put,List.setIfInBounds_toArray]
      try dsimp only [List.set_cons_zero,List.set_cons_succ]
      refine tkH 11 ?_
      refine tkH 12 ?_
      refine tkH 13 ?_
      refine rd1 14 (fun K hK=> ?_)
      go_simp
      refine hK.out _ _ (by first | exact HKs.out _ _ k8 | exact HKs.out _ _ (Keeps.drew k8)) (fun hHeld=> ?_)
      clear hK K
      refine wpAnyH_done (by kernel_rfl) ?_ _
      go_wp2_with fail
      go_meet
      first
       | exact(DSt.put (D11.out.kept k8) hGl hGw _ (by rw [←HE4.out]))
       | exact(DSt.put (D11.out.kept k8) hGl hGw _ (by rw [←HE4.out])).drew
       | exact(DSt.put (D11.out.kept k8).drew hGl hGw _ (by rw [←HE4.out]))
     ·go_simp
      go_at_call 98
      refine(HTk.out _ (Keeps.drew k0)).mono ?_
      rintro e w12 ⟨rfl,k8'⟩
      have k8:Keeps NO w11 w12:=Keeps.trans (Keeps.drew k0) k8'
      clear k8'
      have hz8:=k8.cell_some hz4 (fun h=> h)
      have hf8:=(D11.out.kept k8).2.1.frozen i4
      try go_wp2_with fail
      refine hK.out _ _ (HK.out _ k8) (fun hHeld=> ?_)
      clear hK K
      try simp only [Act.put,List.setIfInBounds_toArray]
      try dsimp only [List.set_cons_zero,List.set_cons_succ]
      refine tkH 11 ?_
      refine rd1 3 (fun K hK=> ?_)
      go_simp
      refine hK.out _ _ (by first | exact HK.out _ (Keeps.drew k0) | exact HK.out _ k8) (fun hHeld=> ?_)
      clear hK K
      try simp only [Act.put,List.setIfInBounds_toArray]
      try dsimp only [List.set_cons_zero,List.set_cons_succ]
      refine tkH 12 ?_
      refine tkH 13 ?_
      refine rd1 14 (fun K hK=> ?_)
      go_simp
      refine hK.out _ _ (by first | exact HKs.out _ _ k8 | exact HKs.out _ _ (Keeps.drew k8)) (fun hHeld=> ?_)
      clear hK K
      refine wpAnyH_done (by kernel_rfl) ?_ _
      go_wp2_with fail
      go_meet
      first
       | exact(DSt.put (D11.out.kept k8) hGl hGw _ (by rw [←HE4.out]))
       | exact(DSt.put (D11.out.kept k8) hGl hGw _ (by rw [←HE4.out])).drew
       | exact(DSt.put (D11.out.kept k8).drew hGl hGw _ (by rw [←HE4.out]))
    case rest=>
    clear hz4 hf4 hzb hw1 hw2 hw3 HE4 D11
    have D13:=zz hcut
    clear hcut
    go_wp2_with fail
    go_roundw
    case rel=> first
     | exact⟨q+1,i4+1,by omega,by omega,HU1.out.symm,by go_num,by simp,D13⟩
     | ((repeat apply Exists.intro);exact⟨⟨q+1,i4+1,by omega,by omega,HU1.out.symm,by go_num,by simp,D13⟩,rfl⟩)
    case measure=> simp [intOf];omega
  ·trace "EXIT"
   have hqe:q=c.key.toNat+1:=by omega
   have HZ:Hid (u=fit l c.key+1):=by
    show _=_
    rw [hu.out,hqe]
    unfold upto
    rw [if_neg (by omega)]
    congr 2
    omega
   rw [HZ.out] at DR
   clear hqe
   go_wp2_with fail
   refine⟨rfl,⟨_,_,_,_,_,_,_,_,_,_,_,_,_,_,_,_,_,_,_,_,_,_,_,_,_,_,_,_,_,_,_,_,_,_,_,rfl⟩,DR.out⟩
end Go.Proofs.YtjamiaamngalgaaGreat
