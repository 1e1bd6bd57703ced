/-
  Parts: cluster.Feed of one whol; Zhs of numbered nodes (p. No conditions beyond those of the statement.
-/
import Derived.Test.YtjamiaamngalgaaGreatG00
import Derived.Test.YtjamiaamngalgaaGreatG26
import Derived.Test.YtjamiaamngalgaaGreatG20
import Derived.Test.YtjamiaamngalgaaGreatG15
import Derived.Test.YtjamiaamngalgaaGreatG04
import Derived.BigRegion
set_option linter.unusedVariables false
set_option linter.unusedSimpArgs false
set_option maxRecDepth 1000000
set_option maxHeartbeats 4000000
namespace Go.Proofs.YtjamiaamngalgaaGreat
open Go.RowKit Go.Maps Cfp Vp
def FJ (kc:Nat) (w:World) (b:Nat):Prop:=b=kc∨¬∃t cs,Blk w b t cs∧Zd3 t∧t≠213
section
variable {kc:Nat} {w w' w0:World} {b base n c sz:Nat} {t e:TypeId} {cs:Array Value} {A:Option Addr} {xs:List Value}
theorem FJ.not (h:Blk w b t cs) (hb:b≠kc) (ho:Zd3 t) (hl:t≠213):¬FJ kc w b:=by
 rintro(e | e)
 ·exact hb e
 ·exact e ⟨t,cs,h,ho,hl⟩
theorem FJ.trans (h:Keeps (FJ kc w0) w0 w) (k:Keeps (FJ kc w) w w'):Keeps (FJ kc w0) w0 w':=by
 refine h.step k (fun b hb hS=> ?_)
 by_cases hn:FJ kc w0 b
 ·exact hn
 ·have he:=h.block b hb hn
  rcases hS with e | e
  ·exact .inl e
  ·refine .inr (fun⟨t,cs,h1,h2,h3⟩=> e ⟨t,cs,he.trans h1,h2,h3⟩)
theorem FJ.quiet (h:Keeps NO w w'):Keeps (FJ kc w) w w':=h.weak (fun _ _ h=> h.elim)
theorem FJ.one (h:Keeps (· =kc) w w'):Keeps (FJ kc w) w w':=h.weak (fun _ _ h=> .inl h)
theorem Own.fj (h:Own w base e sz A n c xs) (k:Keeps (FJ kc w) w w') (hkc:Blk w kc 123 cs) (h1:e≠123) (ho:Zd3 e) (hl:e≠213):Own w' base e sz A n c xs:=
 h.kept k (fun b hb=> by
  obtain⟨cs',h2⟩:=h.blk hb
  exact FJ.not h2 (h2.ne hkc h1) ho hl)
theorem Zcm:ElemOf Tryz.prog 22 3 1 8:=ElemOf.mk' (z:= .int .i64 0) Tryz.underlying22 (by kernel_rfl) rfl (by omega)
end
theorem Zho {w:World} {kc:Nat} {c:Cfg} {C T:Option Addr} {n k j:Nat} {ar:Value} {SA:Option Addr} {ns cap led:Nat} {st:Option Addr} {sn sc:Nat} {skip:Int} {br:Bool} {wm:Int}
  (h:Blk w kc 123 (cluC c C T n k j ar SA ns cap led st sn sc skip br wm)) (st':Option Addr) (sn' sc':Nat) (skip':Int) (br':Bool):
  Blk (((w.setCell ⟨kc,20,none⟩ (.slice st' sn' sc')).setCell ⟨kc,21,none⟩ (.int .u64 skip')).setCell ⟨kc,22,none⟩ (.bool br')) kc 123 (cluC c C T n k j ar SA ns cap led st' sn' sc' skip' br' wm):=
 ((h.set 20 (.slice st' sn' sc')).set 21 (.int .u64 skip')).set 22 (.bool br')
def Fedd (w:World) (kc m:Nat) (vs:List Int) (St:Option Addr→Nat→Nat→World→Prop) (e:Ending) (w':World):Prop:=
 ∃(A:Option Addr) (co:Nat) (st:Option Addr) (sc:Nat),e= .returned (.slice A m co)∧Own w' w.heap.size 3 1 A m co (vs.map (.int .i64))∧St st sc m w'∧Keeps (FJ kc w) w w'
theorem Zsr (w:World) (kc:Nat) (c:Cfg) (hf:Fine c) (C T:Option Addr) (n k j:Nat) (ar:Value) (SA:Option Addr) (ns cap led:Nat) (st:Option Addr) (sc:Nat) (wm:Int)
  (hb:Blk w kc 123 (cluC c C T n k j ar SA ns cap led st 0 sc 0 false wm))
  (l:List EvR) (ys:List Inp) (vs:List Int) (m:Nat) (A2:Option Addr) (n2 c2 B2:Nat) (hr2:Rd w B2 A2 1 n2 ((Stp.frame (Zay l)).map by8)) (hB2:B2≤w.heap.size)
  (hfit:(Zay l).length≤4096) (hl:l.length=m) (m0:1≤m) (m1:m≤64) (hy:ys.length=m) (hvl:vs.length=m) (hev:∀(i:Nat) (x:EvR) (y:Inp),l[i]?=some x→ys[i]?=some y→EvIn c.key x y)
  (St Sm:Option Addr→Nat→Nat→World→Prop)
  (H0:∀W st' sc',Keeps (· =kc) w W→Blk W kc 123 (cluC c C T n k j ar SA ns cap led st' 0 sc' 0 false wm)→St st' sc' 0 W)
  (HQ:∀st sc i W W',St st sc i W→Keeps (fun b=> w.heap.size≤b∧∃cs,Blk W b 3 cs) W W'→St st sc i W')
  (HQm:∀st sc i W W',Sm st sc i W→Keeps NO W W'→Sm st sc i W')
  (HBk:∀st sc i W,St st sc i W→Blk W kc 123 (cluC c C T n k j ar SA ns cap led st 0 sc 0 false wm))
  (HBm:∀st sc i W,Sm st sc i W→Blk W kc 123 (cluC c C T n k j ar SA ns cap led st 0 sc 0 false wm))
  (HJ:∀st sc i y v W,ys[i]?=some y→vs[i]?=some v→St st sc i W→Calls Tryz.prog 57 #[.pointer (some ⟨kc,0,none⟩),.agg (inC y).toArray] W fun e w'=> e= .returned (.int .i64 v)∧Sm st sc i w'∧Keeps (FJ kc W) W w')
  (HZ:∀st sc i W,vs[i]?=some 0→Sm st sc i W→St st sc (i+1) W)
  (HRe:∀st sc i v W,vs[i]?=some v→v≠0→Sm st sc i W→Calls Tryz.prog 58 #[.pointer (some ⟨led,0,none⟩),.int .i64 v] W fun e w'=> (∃z,e= .returned (.int .i64 z))∧St st sc (i+1) w'∧Keeps (FJ kc W) W w'):
  Calls Tryz.prog 17 #[.pointer (some ⟨kc,0,none⟩),.slice A2 n2 c2] w (Fedd w kc m vs St):=by
 have hff:=Stp.feed_frame (Zay l) hfit
 have hfl:(Stp.frame (Zay l)).length=n2:=by have:=hr2.1;simpa using this
 have hfb:(Stp.frame (Zay l)).length≤5000:=by
  have:=Zae (Zay l).length
  simp only [Stp.frame,List.length_append]
  omega
 have HFd:=zz (fun W (kW:Keeps NO w W)=> Zpu Stp.init Stp.good_init (by decide) st 0 sc 0 W (Rd.zero rfl) (Nat.zero_le _) (Stp.frame (Zay l)) A2 n2 c2 B2 (hr2.kept kW (fun _ _ h=> h)) (by have:=kW.size;omega) (by omega) (by rw [hff];simp))
 rw [hff] at HFd
 have HB:=zz hb
 have HE:=zz hev
 have HL:=zz hl
 have HY:=zz hy
 have HVl:=zz hvl
 have H0:=zz H0
 have HQ2:=zz HQ
 have HQ:=zz (fun st sc i W W' (h:St st sc i W) (k:Keeps NO W W')=> HQ st sc i W W' h (k.weak (fun _ _ h=> h.elim)))
 have HQm:=zz HQm
 have HBk:=zz HBk
 have HBm:=zz HBm
 have HJ:=zz HJ
 have HZ:=zz HZ
 have HRe:=zz HRe
 have HFit:=zz hfit
 have hky:=hf.key
 have c20:=hb.cell 20
 have c21:=hb.cell 21
 have c22:=hb.cell 22
 clear hff hb hev hl hy hvl hr2 hfl hfb hfit hf
 go_enter Tryz.func17,Tryz.ntmps17
 go_wp2_with fail
 refine(HFd.out _ (Kz0 _ _)).mono ?_
 rintro e w1 ⟨A',n',c',Ch,m1c,mcc,cells,rfl,oA,oC,hcc,k1⟩
 obtain rfl:n'=0:=by have:=oA.len;simpa [Stp.init] using this.symm
 have hcl:cells.length=1*2:=by have:=ChCells.len hcc;simpa using this
 obtain rfl:m1c=1:=by have:=oC.len;omega
 obtain⟨Ab,nb,cb,g0,g1,g2,g3⟩:=ChCells.at_c 0 _ hcc (show([⟨Zay l,0⟩]:List Stp.Ch)[0]?=some ⟨Zay l,0⟩ from rfl)
 obtain⟨CB,rfl,hCB1,hCB2⟩:=oC.some_ (by omega)
 have RB:=zz g2
 have OC:=zz oC
 have HG0:=zz g0
 have HG1:=zz g1
 have K1:=zz k1
 have hncb:=g3
 have hnb:nb≤1000000:=by have h1:=g2.1;simp only [List.length_map,Nat.mul_one] at h1;have:=HFit.out;omega
 have B1:=HB.out.kept k1 (fun h=> h)
 have d20:=B1.cell 20
 have d21:=B1.cell 21
 have d22:=B1.cell 22
 have e20:=B1.frozen 20
 have e21:=B1.frozen 21
 have e22:=B1.frozen 22
 have HB1:=zz B1
 clear k1 oA oC hcc B1 c20 c21 c22 HFd g0 g1 g2 g3 hcl
 dsimp only [Stp.init]
 go_upto_region 5 with fail
 have kA:=(Kz0 NO w1).alloc (.cells #[.slice A' 0 c',.int .u64 0,.bool false] 121)
 have HB2:=zz (HB1.out.kept kA (fun h=> h))
 have HS2:=zz (Blk.new w1 121 #[.slice A' 0 c',.int .u64 0,.bool false])
 have OC2:=zz (OC.out.kept kA (fun _ _ h=> h))
 have RB2:=zz (RB.out.kept kA (fun _ _ _ h=> h))
 have K2:=zz (K1.out.trans kA)
 clear kA OC RB HB1 K1 d20 d21 d22 e20 e21 e22
 generalize w1.alloc _=w2 at*
 generalize w1.heap.size=XS at*
 have s0:=HS2.out.cell 0
 have s1:=HS2.out.cell 1
 have s2:=HS2.out.cell 2
 have d20:=HB2.out.cell 20
 have d21:=HB2.out.cell 21
 have d22:=HB2.out.cell 22
 have e20:=HB2.out.frozen 20
 have e21:=HB2.out.frozen 21
 have e22:=HB2.out.frozen 22
 go_upto_region 6 with fail
 have HB3:=zz (Zho HB2.out A' 0 c' 0 false)
 have kS:Keeps (· =kc) w2 (((w2.setCell ⟨kc,20,none⟩ (.slice A' 0 c')).setCell ⟨kc,21,none⟩ (.int .u64 0)).setCell ⟨kc,22,none⟩ (.bool false)):=
  Keeps.setCell (S:=(· =kc)) (p:=⟨kc,22,none⟩) (Keeps.setCell (S:=(· =kc)) (p:=⟨kc,21,none⟩) (Keeps.setCell (S:=(· =kc)) (p:=⟨kc,20,none⟩) (Kz0 _ _) (.inl rfl) _) (.inl rfl) _) (.inl rfl) _
 have OC3:=zz (OC2.out.kept kS (fun b hb e=> OC2.out.ne_blk HB2.out (by decide) hb e))
 have RB3:=zz (RB2.out.kept kS (fun b hb _ e=> by have:=HB.out.lt;omega))
 have K3:=zz ((K2.out.weak (S':=(· =kc)) (fun _ _ h=> h.elim)).trans kS)
 clear kS s0 s1 s2 d20 d21 d22 e20 e21 e22 HS2 HB2 OC2 RB2 K2
 generalize ((w2.setCell _ _).setCell _ _).setCell _ _=w3 at*
 have HS0:=zz (H0.out w3 A' c' K3.out HB3.out)
 have hK3:=K3.out.size
 have HWkc:=HB.out.lt
 go_wp2_with fail
 go_loopw [5,31] (fun ov iv wr=> (iv= .int .i64 0∧ov= .slice none 0 0∧wr=w3)∨(iv= .int .i64 1∧∃(A:Option Addr) (co:Nat),ov= .slice A m co∧Hid (Own wr w.heap.size 3 1 A m co (vs.map (.int .i64)))∧Hid (St A' c' m wr)∧Hid (Keeps (FJ kc w) w wr))) (fun _ iv _=> 1-(intOf iv).toNat)
 case atStart=> exact .inl ⟨rfl,rfl,rfl⟩
 case round=>
  rcases hrel with ⟨rfl,rfl,rfl⟩ | ⟨rfl,A,co,rfl,O,HS,KF⟩
  ·have f0:=(OC3.out.cell 0 (by omega)).trans HG0.out
   have f1:=(OC3.out.cell 1 (by omega)).trans HG1.out
   go_upto_region 9 with fail
   have kA:=((Kz0 NO wr).alloc (.cells #[.slice Ab nb cb,.int .i64 0] 164))
   have HX:=zz (Blk.new wr 164 #[.slice Ab nb cb,.int .i64 0])
   have HB4:=zz (HB3.out.kept kA (fun h=> h))
   have RB4:=zz (RB3.out.kept kA (fun _ _ _ h=> h))
   have K4:=zz kA
   clear kA f0 f1 OC3 RB3 HB3
   generalize wr.alloc _=w4 at*
   generalize wr.heap.size=X at*
   have x1:=HX.out.cell 1
   have hX4:X<w4.heap.size:=HX.out.lt
   go_upto_region 11 with fail
   have kA:=((Kz0 NO w4).alloc (.cells #[.string ⟨#[]⟩,.int .i64 0,.int .u64 0,.int .i64 0] 166))
   have HX5:=zz (HX.out.kept kA (fun h=> h))
   have HB5:=zz (HB4.out.kept kA (fun h=> h))
   have RB5:=zz (RB4.out.kept kA (fun _ _ _ h=> h))
   have K5:=zz (K4.out.trans kA)
   clear kA x1 HX HB4 RB4 K4
   generalize w4.alloc _=w5 at*
   have HSg:Hid (∀W,Keeps NO w5 W→(W.cell? ⟨X,0,none⟩=some (.slice Ab nb cb)∧W.cell? ⟨kc,13,none⟩=some (.int .i64 c.key))):=zz (fun W kW=> ⟨(HX5.out.kept kW (fun h=> h)).cell 0,(HB5.out.kept kW (fun h=> h)).cell 13⟩)
   have HRd:=zz (fun W (kW:Keeps NO w5 W)=> Zox W Ab nb cb _ l ys m c.key (RB5.out.kept kW (fun _ _ _ h=> h)).rd (Nat.le_refl _) hncb hnb HL.out m0 m1 HY.out HE.out)
   have KK:=zz ((Kz0 NO w5).drew)
   clear HX5 HB5 RB5
   refine wp_region_held_drew (S:=fun W=> W.cell? ⟨X,0,none⟩=some (.slice Ab nb cb)∧W.cell? ⟨kc,13,none⟩=some (.int .i64 c.key)) (by kernel_rfl) (HSg.out _ KK.out) (fun hHeld=> ?_)
   refine tkA 0 ?_
   refine tkA 1 ?_ (hy:=by intro w hSw; (try dsimp only at hSw); (have q1:=hSw.1);clear hSw;go_simp;try (with_reducible rfl))
   refine tkA 2 ?_
   refine tkA 3 ?_
   refine tkA 4 ?_
   refine tkA 5 ?_
   refine tkA 6 ?_ (hy:=by intro w hSw; (try dsimp only at hSw); (have q1:=hSw.2);clear hSw;go_simp;try (with_reducible rfl))
   generalize w5.drew=wd at*
   have hsd:w.heap.size≤wd.heap.size:=by have:=K3.out.size;have:=K5.out.size;have:=KK.out.size;omega
   refine rd1 7 (fun K hK=> ?_)
   go_simp
   go_at_call 56
   refine(HRd.out _ KK.out).mono ?_
   rintro e w6 ⟨A4,c4,rfl,oI,kk⟩
   have K6:=zz (K5.out.trans (KK.out.trans kk))
   have OI:=zz oI
   have hS6:=HSg.out _ (KK.out.trans kk)
   clear oI HRd
   try go_wp2_with fail
   refine hK.out _ _ (hS6) (fun hHeld=> ?_)
   clear hK K
   (try simp only [Zpt])
   clear hS6 kk KK K5 HSg
   refine tkA 8 ?_
   refine wpAnyH_done (by kernel_rfl) ?_ _
   have HS6:=zz (HQ.out _ _ _ _ _ HS0.out K6.out)
   have KF6:=zz (FJ.trans (FJ.one K3.out) (FJ.quiet K6.out))
   have hK6:=K6.out.size
   obtain⟨GI,rfl,hGI1,hGI2⟩:=OI.out.some_ (by omega)
   have OI:=zz (OI.out.base_le hsd)
   clear HS0 K6 hGI1
   go_wp2_with fail
   go_loopw [5,52] (fun ov iv wr=> ∃(jj:Nat) (A:Option Addr) (co:Nat),jj≤m∧iv= .int .i64 jj∧ov= .slice A jj co∧Hid (Own wr w.heap.size 3 1 A jj co ((vs.take jj).map (.int .i64)))∧Hid (Own wr w.heap.size 166 4 (some ⟨GI,0,none⟩) m c4 (inCs ys))∧Hid (St A' c' jj wr)∧Hid (Keeps (FJ kc w) w wr)) (fun _ iv _=> m-(intOf iv).toNat)
   case atStart=> exact⟨0,none,0,by omega,rfl,rfl,zz (by simpa using Own.nil _ _ _ _),OI,HS6,KF6⟩
   case round=>
    obtain⟨jj,A,co,hjj,rfl,rfl,O,OJ,HSj,KFj⟩:=hrel
    clear OI HS6 KF6
    by_cases hlt:jj<m
    ·have HLT:Hid (jj+1≤m):=hlt
     obtain⟨y,hy⟩:∃y,ys[jj]?=some y:=⟨ys[jj]'(by rw [HY.out];exact hlt),by simp⟩
     obtain⟨v,hv⟩:∃v,vs[jj]?=some v:=⟨vs[jj]'(by rw [HVl.out];exact hlt),by simp⟩
     have HTk:=zz (show vs.take (jj+1)=vs.take jj++ [v] by rw [List.take_add_one,hv];rfl)
     obtain⟨g0,g1,g2,g3⟩:=Zs7 hy
     have q0:=(OJ.out.cell _ (by omega)).trans g0
     have q1:=(OJ.out.cell _ (by omega)).trans g1
     have q2:=(OJ.out.cell _ (by omega)).trans g2
     have q3:=(OJ.out.cell _ (by omega)).trans g3
     have hltI:(jj:Int)<(m:Int):=by omega
     have hj0:(0:Int)≤(jj:Int):=by omega
     have hj:=fun W (kW:Keeps NO _ W)=> HJ.out A' c' jj y v W hy hv (HQ.out _ _ _ _ _ HSj.out kW)
     have HJj:=zz hj
     have HZj:=zz (fun W (h0:v=0)=> HZ.out A' c' jj W (by rw [hv,h0]))
     have HRj:=zz (fun W (h0:v≠0)=> HRe.out A' c' jj v W hv h0)
     clear g0 g1 g2 g3 hy hv hj
     go_upto_region 15 with fail
     have kA:=((Kz0 NO wr).alloc (.cells #[.string y.key,.int .i64 y.tm,.int .u64 y.wt,.int .i64 y.vd] 166))
     have HX:=zz (Blk.new wr 166 #[.string y.key,.int .i64 y.tm,.int .u64 y.wt,.int .i64 y.vd])
     have hj:=HJj.out _ kA
     change Calls Tryz.prog 57 #[.pointer (some ⟨kc,0,none⟩),.agg #[.string y.key,.int .i64 y.tm,.int .u64 y.wt,.int .i64 y.vd]] _ _ at hj
     have HJ7:=zz hj
     have HB7:=zz (HBk.out _ _ _ _ (HQ.out _ _ _ _ _ HSj.out kA))
     have O7:=zz (O.out.kept kA (fun _ _ h=> h))
     have OJ7:=zz (OJ.out.kept kA (fun _ _ h=> h))
     have KF7:=zz (FJ.trans KFj.out (FJ.quiet kA))
     clear kA hj HJj O OJ HSj KFj q0 q1 q2 q3
     generalize wr.alloc _=w7 at*
     generalize wr.heap.size=X7 at*
     have b0:=HX.out.cell 0
     have b1:=HX.out.cell 1
     have b2:=HX.out.cell 2
     have b3:=HX.out.cell 3
     go_wp2_with fail
     refine HJ7.out.mono ?_
     rintro e w8 ⟨rfl,sm,k8⟩
     have HSm:=zz sm
     have O8:=zz (O7.out.fj k8 HB7.out (by decide) (by decide) (by decide))
     have OJ8:=zz (OJ7.out.fj k8 HB7.out (by decide) (by decide) (by decide))
     have KF8:=zz (FJ.trans KF7.out k8)
     have hs8:=KF8.out.size
     clear sm k8 O7 OJ7 KF7 HB7 HJ7 b0 b1 b2 b3 HX
     by_cases hv0:v=0
     ·have e0:(v != 0)=false:=by simp [hv0]
      have HS8:=zz (HZj.out _ hv0 HSm.out)
      have HB8:=zz (HBk.out _ _ _ _ HS8.out)
      clear HSm HZj HRj hv0
      go_wp2_with (at_builtin;refine Za5 _ Zcm rfl (.tmp 67) (.tmp 69) rfl w.heap.size _ rfl (by exact O8.out.kept ((Kz0 NO _).alloc _) (fun _ _ h=> h)) _ (m:=1) ([v].map (.int .i64)) rfl (by exact Blk.rd (xs:= [.int .i64 v]) (Blk.new_at _ _ _ _ (by first | rfl | simp)) rfl) (by intro u hu;simp at hu;rw [hu];rfl) (by simp only [maxLen];omega) (by omega) (by simp;omega) ?_;intro Az cz wz oz kz _;rw [←List.map_append,←HTk.out] at oz;have Oz:=zz oz;have Kz:=zz (((Kz0 (inB A) w8).alloc (.cells #[.int .i64 v] 3)).trans kz);clear oz kz)
      have HSz:=zz (HQ2.out _ _ _ _ _ HS8.out (Kz.out.weak (fun b hb e=> ⟨(O8.out.inB e).1,O8.out.blk e⟩)))
      have OJz:=zz (OJ8.out.kept Kz.out (fun b hb e=> OJ8.out.ne O8.out (by decide) hb e))
      have KFz:=zz (KF8.out.step Kz.out (fun b hb e=> by have:=(O8.out.inB e).1;omega))
      go_roundw
      case rel=> exact⟨jj+1,Az,cz,HLT.out,by go_num,rfl,Oz,OJz,HSz,KFz⟩
      case measure=> have:=HLT.out;simp [intOf];omega
     ·have e0:(v != 0)=true:=by simp [hv0]
      have HB8:=zz (HBm.out _ _ _ _ HSm.out)
      have c19:=HB8.out.cell 19
      have HRk:=zz (fun W (kW:Keeps NO w8 W)=> HRj.out W hv0 (HQm.out _ _ _ _ _ HSm.out kW))
      clear HSm HZj HRj hv0
      go_wp2_with fail
      have KK:=zz (Kz0 NO w8)
      refine(HRk.out _ KK.out).mono ?_
      rintro e w9 ⟨⟨z,rfl⟩,s9,k9⟩
      have HS9:=zz s9
      have HB9:=zz (HBk.out _ _ _ _ s9)
      have O9:=zz (O8.out.fj k9 HB8.out (by decide) (by decide) (by decide))
      have OJ9:=zz (OJ8.out.fj k9 HB8.out (by decide) (by decide) (by decide))
      have KF9:=zz (FJ.trans KF8.out k9)
      have hs9:=KF9.out.size
      clear s9 k9 O8 OJ8 KF8 HB8 KK HRk hs8 c19
      go_wp2_with (at_builtin;refine Za5 _ Zcm rfl (.tmp 67) (.tmp 69) rfl w.heap.size _ rfl (by exact O9.out.kept ((Kz0 NO _).alloc _) (fun _ _ h=> h)) _ (m:=1) ([v].map (.int .i64)) rfl (by exact Blk.rd (xs:= [.int .i64 v]) (Blk.new_at _ _ _ _ (by first | rfl | simp)) rfl) (by intro u hu;simp at hu;rw [hu];rfl) (by simp only [maxLen];omega) (by omega) (by simp;omega) ?_;intro Az cz wz oz kz _;rw [←List.map_append,←HTk.out] at oz;have Oz:=zz oz;have Kz:=zz (((Kz0 (inB A) w9).alloc (.cells #[.int .i64 v] 3)).trans kz);clear oz kz)
      have HSz:=zz (HQ2.out _ _ _ _ _ HS9.out (Kz.out.weak (fun b hb e=> ⟨(O9.out.inB e).1,O9.out.blk e⟩)))
      have OJz:=zz (OJ9.out.kept Kz.out (fun b hb e=> OJ9.out.ne O9.out (by decide) hb e))
      have KFz:=zz (KF9.out.step Kz.out (fun b hb e=> by have:=(O9.out.inB e).1;omega))
      go_roundw
      case rel=> exact⟨jj+1,Az,cz,HLT.out,by go_num,rfl,Oz,OJz,HSz,KFz⟩
      case measure=> have:=HLT.out;simp [intOf];omega
    ·obtain rfl:jj=m:=by omega
     have hvt:vs.take jj=vs:=List.take_of_length_le (by rw [HVl.out];exact Nat.le_refl _)
     rw [hvt] at O
     go_wp2_with fail
     go_roundw
     case rel=> exact .inr ⟨rfl,A,co,rfl,O,HSj,KFj⟩
     case measure=> simp [intOf]
  ·go_wp2_with fail
   go_ret
   exact⟨A,co,A',c',rfl,O.out,HS.out,KF.out⟩
open Go.RowKit Cfp
theorem Zil:ElemOf Tryz.prog 484 4 1 1:=ElemOf.mk' (z:= .bool false) Tryz.underlying484 (by kernel_rfl) rfl (by omega)
def Zn9 (w1:World) (B g:Nat) (E:TypeId) (cs:Array Value) (n:Nat) (UA NA PA:Option Addr) (us ns ps:List Value) (w':World):Prop:=
 ∃(AU:Option Addr) (cU:Nat) (AN:Option Addr) (cN:Nat) (AP:Option Addr) (cP:Nat),
  Blk w' g E (((cs.setIfInBounds 4 (.slice AU (n+1) cU)).setIfInBounds 5 (.slice AN (n+1) cN)).setIfInBounds 6 (.slice AP (n+1) cP))∧
  (Own w' B 4 1 AU (n+1) cU (us++ [.bool false])∧Own w' B 3 1 AN (n+1) cN (ns++ [.int .i64 (-1)])∧Own w' B 3 1 AP (n+1) cP (ps++ [.int .i64 (-1)]))∧
  ((∀q,inB AU q→inB UA q∨w1.heap.size≤q)∧(∀q,inB AN q→inB NA q∨w1.heap.size≤q)∧(∀q,inB AP q→inB PA q∨w1.heap.size≤q)∧∀q,inB AN q→¬inB AP q)∧
  Keeps (fun q=> q=g∨inB UA q∨inB NA q∨inB PA q) w1 w'
theorem Zgd {w1 w8:World} {B g n:Nat} {E:TypeId} {cs:Array Value} {UA NA PA A8 A14 A21:Option Addr} {uc nc pc c8 c14 c21:Nat} {us ns ps:List Value}
  (hb:Blk w1 g E cs) (hE:4≠E∧3≠E) (oU:Own w1 B 4 1 UA n uc us) (oN:Own w1 B 3 1 NA n nc ns) (oP:Own w1 B 3 1 PA n pc ps)
  (k:Keeps (fun q=> inB UA q∨inB NA q∨inB PA q) w1 w8) (qU:Own w8 B 4 1 A8 (n+1) c8 (us++ [.bool false])) (hU:∀q,inB A8 q→inB UA q∨w1.heap.size≤q)
  (qN:Own w8 B 3 1 A14 (n+1) c14 (ns++ [.int .i64 (-1)])) (hN:∀q,inB A14 q→inB NA q∨w1.heap.size≤q) (qP:Own w8 B 3 1 A21 (n+1) c21 (ps++ [.int .i64 (-1)])) (hP:∀q,inB A21 q→inB PA q∨w1.heap.size≤q)
  (hnp:∀q,inB A14 q→¬inB A21 q):
  Zn9 w1 B g E cs n UA NA PA us ns ps (((w8.setCell ⟨g,4,none⟩ (.slice A8 (n+1) c8)).setCell ⟨g,5,none⟩ (.slice A14 (n+1) c14)).setCell ⟨g,6,none⟩ (.slice A21 (n+1) c21)):=by
 obtain⟨w9,hw9⟩:∃w9,w9=(((w8.setCell ⟨g,4,none⟩ (.slice A8 (n+1) c8)).setCell ⟨g,5,none⟩ (.slice A14 (n+1) c14)).setCell ⟨g,6,none⟩ (.slice A21 (n+1) c21)):=⟨_,rfl⟩
 have kp:Keeps (· =g) w8 w9:=by rw [hw9];exact((Zad w8 g 4 _).trans (Zad _ g 5 _)).trans (Zad _ g 6 _)
 have hgn:¬(inB UA g∨inB NA g∨inB PA g):=by
  rintro(e | e | e)
  ·exact oU.ne_blk hb hE.1 e rfl
  ·exact oN.ne_blk hb hE.2 e rfl
  ·exact oP.ne_blk hb hE.2 e rfl
 have b8:=hb.kept k hgn
 have b9:=((b8.set 4 (.slice A8 (n+1) c8)).set 5 (.slice A14 (n+1) c14)).set 6 (.slice A21 (n+1) c21)
 rw [←hw9] at b9
 rw [←hw9]
 exact⟨A8,c8,A14,c14,A21,c21,b9,⟨qU.kept kp (fun q hq e=> qU.ne_blk b8 hE.1 hq e),qN.kept kp (fun q hq e=> qN.ne_blk b8 hE.2 hq e),qP.kept kp (fun q hq e=> qP.ne_blk b8 hE.2 hq e)⟩,⟨hU,hN,hP,hnp⟩,
  (k.weak (S':=fun q=> q=g∨inB UA q∨inB NA q∨inB PA q) (fun _ _ h=> .inr h)).step kp (fun _ _ e=> .inl e)⟩
end Go.Proofs.YtjamiaamngalgaaGreat
