/-
  Parts: event.Decode: the reader; event.Decode: a tag is r; event.Decode: the result; event.Decode of bytes th; tags.V. No conditions beyond those of the statement.
-/
import Derived.Test.YtjamiaamngalgaaGreatG00
import Derived.Test.YtjamiaamngalgaaGreatG25
import Derived.Test.YtjamiaamngalgaaGreatG16
import Derived.Test.YtjamiaamngalgaaGreatG04
import Derived.Test.YtjamiaamngalgaaGreatG15
import Derived.Test.YtjamiaamngalgaaGreatG01
set_option linter.unusedVariables false
set_option linter.unusedSimpArgs false
set_option maxRecDepth 1000000
set_option maxHeartbeats 4000000
namespace Go.Proofs.YtjamiaamngalgaaGreat
open Go.RowKit Vp Cfp
namespace evenc
abbrev Zvs (X:Nat):Value:= .func (.func 162) #[.pointer (some ⟨X,0,none⟩)] #[]
theorem Zss (w:World) (B X n u:Nat) (s:List UInt8) (k v:ByteArray) (h:IsRd w B X n u (txb k++(txb v++s))) (hk:k.size≤4096) (hv:v.size≤4096):
  Calls Tryz.prog 161 #[Zvs X] w fun e w'=> e= .returned (.agg #[.string k,.string v])∧IsRd w' B X n (u+(txb k).length+(txb v).length) s∧Keeps (· =X) w w':=by
 have hX:=h.lt
 have hBX:=h.le
 have kA:=zz ((Kz0 NO w).alloc (.cells #[.string { data:= #[]},.string { data:= #[]}] 126))
 have B0:=zz (Blk.new w 126 #[.string { data:= #[]},.string { data:= #[]}])
 have H0:=zz (h.kept kA.out (fun h=> h) (fun _ _ h=> h))
 clear h
 go_enter Tryz.func161,Tryz.ntmps161
 go_wp2_with fail
 generalize w.alloc _=w1 at*
 refine(Zij w1 B X n u _ k H0.out hk).mono ?_
 rintro e w2 ⟨rfl,h2,k2⟩
 have K2:=zz ((kA.out.weak (S':=(· =X)) (fun _ _ h=> h.elim)).trans k2)
 have B2:=zz (B0.out.kept k2 (by omega))
 have HH:=h2
 clear h2 k2 H0 kA B0
 go_wp2_with fail
 have kB:=(Kz0 NO w2).alloc (.cells #[.string k,.string { data:= #[]}] 126)
 have B3:=zz (Blk.new w2 126 #[.string k,.string { data:= #[]}])
 have B2':=zz (B2.out.kept kB (fun h=> h))
 have H3:=zz (HH.kept kB (fun h=> h) (fun _ _ h=> h))
 have K3:=zz (K2.out.step0 kB)
 have hs2:=K2.out.size
 have hX2:=HH.lt
 have hws:w.heap.size<w2.heap.size:=B2.out.lt
 clear HH kB K2 B2
 generalize w2.alloc _=w3 at*
 refine(Zij w3 B X n _ _ v H3.out hv).mono ?_
 rintro e w4 ⟨rfl,h4,k4⟩
 have B4:=zz (B3.out.kept k4 (by omega))
 have C4:=zz (B2'.out.kept k4 (by omega))
 have K4:=zz (K3.out.trans k4)
 have H4:=zz h4
 clear h4 k4 B3 B2' K3 H3
 have f1:=B4.out.frozen 1
 have q1:w4.cell? ⟨w2.heap.size,1,none⟩=some (.string { data:= #[]}):=B4.out.cell 1
 go_upto_region 3 with fail
 have kS:Keeps (· =w2.heap.size) w4 (w4.setCell ⟨w2.heap.size,1,none⟩ (.string v)):=Keeps.setCell (S:=(· =w2.heap.size)) (p:=⟨w2.heap.size,1,none⟩) (Kz0 _ _) (.inl rfl) _
 have B5:Hid (Blk (w4.setCell ⟨w2.heap.size,1,none⟩ (.string v)) w2.heap.size 126 #[.string k,.string v]):=zz (B4.out.set 1 _)
 have C5:=zz (C4.out.kept kS (by omega))
 have H5:=zz (H4.out.kept kS (by omega) (fun b hb e=> by omega))
 have K5:=zz (K4.out.step kS (fun b hb e=> by omega))
 clear kS B4 C4 H4 K4 f1 q1
 generalize w4.setCell _ _=w5 at*
 go_wp2_with (first
  | (refine Zuh (cs:= #[.string k,.string v]) (.tmp 3) rfl B5.out Tryz.underlying126 (by kernel_rfl) rfl (by rfl) ?_;simp only [Zpt])
  | (refine Zq5 (cs:= #[.string k,.string v]) _ _ rfl C5.out (by kernel_rfl) rfl (by simp [Value.oneCell']) rfl rfl (by rfl) ?_;simp only [Zpt]))
 have kR:=Keeps.setRow w5 w.heap.size #[.string k,.string v]
 have BR:=C5.out.row #[.string k,.string v]
 refine bodyPost_ret (v:= .agg #[.string k,.string v]) (by exact results_cell_row (p:=2) rfl _ _ (w.heap.size) _ _ (0,0) _ rfl BR Tryz.underlying126 rfl (by kernel_rfl)) rfl ?_
 refine⟨rfl,H5.out.kept kR (by omega) (fun b hb e=> by omega),K5.out.step kR (fun b hb e=> by omega)⟩
end evenc
open Go.RowKit Vp Cfp
namespace evenc
theorem Zff:ElemOf Tryz.prog 65 126 2 32:=ElemOf.mk' (z:= .agg #[.string { data:= #[]},.string { data:= #[]}]) Tryz.underlying65 (by kernel_rfl) rfl (by omega)
theorem Zk9:∀(l:List (ByteArray × ByteArray)) (k v:ByteArray),tgv (l++ [(k,v)])=tgv l++ [.string k,.string v]
 | [],k,v=> rfl
 | t :: l,k,v=> by simp [tgv,Zk9 l k v]
noncomputable def rg7:Code:=((Tryz.f112.body.bind (findReg 7)).getD .skip)
structure DSt (w0 w:World) (B X n u:Nat) (s:List UInt8) (Y:Nat) (A:Option Addr) (m c:Nat) (l:List (ByteArray × ByteArray)) (tm wt:Int):Prop where
 rd:IsRd w B X n u s
 ev:Blk w Y 67 #[.slice A m c,.int .i64 tm,.int .u64 wt]
 own:Own w w0.heap.size 126 2 A m c (tgv l)
 kp:Keeps NO w0 w
 x0:w0.heap.size≤X
 xy:X≠Y
 y0:w0.heap.size≤Y
 b0:B≤w0.heap.size
theorem reg7 (w0 w1:World) (B X n u:Nat) (s:List UInt8) (Y:Nat) (A:Option Addr) (m c:Nat) (l:List (ByteArray × ByteArray)) (tm wt:Int) (k v:ByteArray) (hk:k.size≤4096) (hv:v.size≤4096) (hm:m≤100)
  (h:DSt w0 w1 B X n u (txb k++(txb v++s)) Y A m c l tm wt) (s0 s1 s2 s3 s4 s7 s8 s9 s10 s11 s12 s13 s14 s15 s16 s17 s18 s19 s20 s21 s22 s23 s24 s25 s26 s27 s28 s29 s30 s31 s32 s33 s34 s35 s36 s37 s38 s39 s40 s41 s42 s43 s44 s45 s46:Value):
  Code.wp Tryz.prog rg7 (NormPost fun a' w'=> (∃A' c',DSt w0 w' B X n (u+(txb k).length+(txb v).length) s Y A' (m+1) c' (l++ [(k,v)]) tm wt)∧Keeps (fun b=> b=X∨b=Y∨inB A b) w1 w'∧(∃u24 u25 u26 u27 u28 u29 u30 u31:Value,a'=⟨#[s0,s1,s2,s3,s4,.pointer (some ⟨X,0,none⟩),.pointer (some ⟨Y,0,none⟩),s7,s8,s9,s10,s11,s12,s13,s14,s15,s16,s17,s18,s19,s20,s21,s22,s23,u24,u25,u26,u27,u28,u29,u30,u31,s32,s33,s34,s35,s36,s37,s38,s39,s40,s41,s42,s43,s44,s45,s46],[]⟩)) ⟨#[s0,s1,s2,s3,s4,.pointer (some ⟨X,0,none⟩),.pointer (some ⟨Y,0,none⟩),s7,s8,s9,s10,s11,s12,s13,s14,s15,s16,s17,s18,s19,s20,s21,s22,s23,s24,s25,s26,s27,s28,s29,s30,s31,s32,s33,s34,s35,s36,s37,s38,s39,s40,s41,s42,s43,s44,s45,s46],[]⟩ w1:=by
 have H:=zz h
 have hxy:=h.xy
 have hy0:=h.y0
 have hx0:=h.x0
 have q0:w1.cell? ⟨Y,0,none⟩=some (.slice A m c):=h.ev.cell 0
 have kd:Keeps NO w1 w1.drew:=(Kz0 _ _).drew
 have KD:=zz kd
 clear h
 conv=> arg 2;whnf
 dsimp only
 refine Zgu 8 (S:=fun w'=> w'.cell? ⟨Y,0,none⟩=some (.slice A m c)) (by kernel_rfl) q0 (fun hHeld=> ?_)
 clear q0 kd
 refine tkN 0 ?_
 refine tkN 1 ?_
 refine tkN 2 ?_
 refine tkN 3 ?_
 refine Zd4 (i:=4) (by kernel_rfl) rfl (fun K hK=> ?_)
 go_simp
 go_at_call 161
 refine(Zss w1.drew B X n u s k v (H.out.rd.kept KD.out (fun h=> h) (fun _ _ h=> h)) hk hv).mono ?_
 rintro e w2 ⟨rfl,h2,k2⟩
 have E2:=zz ((H.out.ev.kept KD.out (fun h=> h)).kept k2 (by omega))
 have hXA:¬inB A X:=fun e=> by
  have:=h2
  obtain⟨A9,c9,L9,hb9,_⟩:=this
  have o1:=(H.out.own.kept KD.out (fun _ _ h=> h))
  obtain⟨A8,c8,L8,hb8,_⟩:=H.out.rd.kept KD.out (fun h=> h) (fun _ _ h=> h)
  exact o1.ne_blk hb8 (by decide) e rfl
 have O2:=zz ((H.out.own.kept KD.out (fun _ _ h=> h)).kept k2 (fun b hb e=> by subst e;exact hXA hb))
 have K2:=zz ((H.out.kp.trans KD.out).step k2 (fun b hb e=> by omega))
 have H2:=zz h2
 have P2:=zz (((Kz0 (fun b=> b=X∨b=Y∨inB A b) w1).step KD.out (fun _ _ h=> h.elim)).step k2 (fun _ _ h=> Or.inl h))
 clear h2 k2
 try go_wp2_with fail
 refine hK.out _ _ (E2.out.cell 0) (fun hHeld=> ?_)
 clear hK K
 (try simp only [Zpt])
 refine Zd4 (i:=5) (by kernel_rfl) rfl (fun K hK=> ?_)
 go_simp
 have kA:Keeps NO w2 (w2.alloc (.cells #[.string k,.string v] 126)):=(Kz0 _ _).alloc _
 have BG:Hid (Blk (w2.alloc (.cells #[.string k,.string v] 126)) w2.heap.size 126 #[.string k,.string v]):=zz (Blk.new _ _ _)
 have E3:=zz (E2.out.kept kA (fun h=> h))
 have O3:=zz (O2.out.kept kA (fun _ _ h=> h))
 have K3:=zz (K2.out.trans kA)
 have H3:=zz (H2.out.kept kA (fun h=> h) (fun _ _ h=> h))
 have P3:=zz (P2.out.step kA (fun _ _ h=> h.elim))
 clear kA E2 O2 K2 H2 P2
 generalize w2.alloc _=w3 at*
 generalize w2.heap.size=G at*
 refine hK.out _ _ (E3.out.cell 0) (fun hHeld=> ?_)
 clear hK K
 (try simp only [Zpt])
 refine Zd4 (i:=6) (by kernel_rfl) rfl (fun K hK=> ?_)
 refine Zao _ Zff (by rfl) (.tmp 25) (.tmp 29) (by rfl) w0.heap.size (tgv l) (by rfl) O3.out w3.heap.size (A2:=some ⟨G,0,none⟩) (m:=1) (c2:=1) [.string k,.string v] (by rfl) (BG.out.rd (xs:= [.string k,.string v]) rfl) (by simp [Value.oneCell']) (by simp only [maxLen];omega) (by omega) K3.out.size ?_
 intro A4 c4 w4 o4 k4 hA4
 have hYA:¬inB A Y:=fun e=> O3.out.ne_blk E3.out (by decide) e rfl
 have E4:=zz (E3.out.kept k4 hYA)
 have H4:=zz (H3.out.kept k4 hXA (fun b hb e=> by have:=O3.out.inB e;have:=H.out.b0;omega))
 have O4:=zz o4
 have K4:=zz (K3.out.step k4 (fun b hb e=> by have:=O3.out.inB e;omega))
 have P4:=zz (P3.out.step k4 (fun _ _ h=> Or.inr (Or.inr h)))
 clear o4 k4 hA4 P3 E3 H3 O3 K3 BG
 refine hK.out _ _ (E4.out.cell 0) (fun hHeld=> ?_)
 clear hK K
 (try simp only [Zpt])
 have f0:=E4.out.frozen 0
 have q0:w4.cell? ⟨Y,0,none⟩=some (.slice A m c):=E4.out.cell 0
 refine tkN 7 ?_
 refine Zgw (by kernel_rfl) rfl (fun K hK=> ?_)
 go_simp
 have kS:Keeps (· =Y) w4 (w4.setCell ⟨Y,0,none⟩ (.slice A4 (m+1) c4)):=Keeps.setCell (S:=(· =Y)) (p:=⟨Y,0,none⟩) (Kz0 _ _) (.inl rfl) _
 have hYA4:∀b,inB A4 b→b≠Y:=fun b hb e=> by subst e;exact O4.out.ne_blk E4.out (by decide) hb rfl
 refine hK.out _ _ ?_
 clear hK K hHeld
 (try simp only [Zpt])
 refine Zgx (by kernel_rfl) ?_ _
 have hXY:X≠Y:=hxy
 refine⟨⟨A4,c4,⟨H4.out.kept kS hXY (fun b hb e=> by have:=H.out.b0;omega),?_,?_,K4.out.step kS (fun b hb e=> by omega),hx0,hxy,hy0,H.out.b0⟩⟩,P4.out.step kS (fun _ _ h=> Or.inr (Or.inl h)),⟨_,_,_,_,_,_,_,_,rfl⟩⟩
 ·exact E4.out.set 0 _
 ·rw [Zk9]
  exact O4.out.kept kS (fun b hb e=> hYA4 b hb e)
end evenc
open Go.RowKit Vp Cfp
namespace evenc
noncomputable def rg10:Code:=((Tryz.f112.body.bind (findReg 10)).getD .skip)
theorem Zr9 {w:World} {g:Nat} {a b c:Value} (h:Blk w g 67 #[a,b,c]) (x y z:Value):
  Blk (((w.setCell ⟨g,0,none⟩ x).setCell ⟨g,1,none⟩ y).setCell ⟨g,2,none⟩ z) g 67 #[x,y,z]∧Keeps (· =g) w (((w.setCell ⟨g,0,none⟩ x).setCell ⟨g,1,none⟩ y).setCell ⟨g,2,none⟩ z):=
 ⟨((h.set 0 x).set 1 y).set 2 z,Keeps.setCell (S:=(· =g)) (p:=⟨g,2,none⟩) (Keeps.setCell (S:=(· =g)) (p:=⟨g,1,none⟩) (Keeps.setCell (S:=(· =g)) (p:=⟨g,0,none⟩) (Kz0 _ _) (.inl rfl) _) (.inl rfl) _) (.inl rfl) _⟩
theorem reg10 (w1:World) (X Y R u:Nat) (A:Option Addr) (m c:Nat) (tm wt:Int) (hY:Blk w1 Y 67 #[.slice A m c,.int .i64 tm,.int .u64 wt]) (hu:w1.cell? ⟨X,1,none⟩=some (.int .i64 u)) (hR:Blk w1 R 67 #[.slice none 0 0,.int .i64 0,.int .u64 0]) (hXR:X≠R) (hYR:Y≠R) (s0 s1 s3 s4 s7 s8 s9 s10 s11 s12 s13 s14 s15 s16 s17 s18 s19 s20 s21 s22 s23 s24 s25 s26 s27 s28 s29 s30 s31 s32 s33 s34 s35 s36 s37 s38 s39 s40 s41 s42 s43 s44 s45 s46:Value):
  Code.wp Tryz.prog rg10 (NormPost fun a' w'=> (Blk w' R 67 #[.slice A m c,.int .i64 tm,.int .u64 wt]∧Keeps (· =R) w1 w')∧(∃u42 u43 u44 u45 u46:Value,a'=⟨#[s0,s1,.pointer (some ⟨R,0,none⟩),.int .i64 (u:Int),.int .i64 0,.pointer (some ⟨X,0,none⟩),.pointer (some ⟨Y,0,none⟩),s7,s8,s9,s10,s11,s12,s13,s14,s15,s16,s17,s18,s19,s20,s21,s22,s23,s24,s25,s26,s27,s28,s29,s30,s31,s32,s33,s34,s35,s36,s37,s38,s39,s40,s41,u42,u43,u44,u45,u46],[]⟩)) ⟨#[s0,s1,.pointer (some ⟨R,0,none⟩),s3,s4,.pointer (some ⟨X,0,none⟩),.pointer (some ⟨Y,0,none⟩),s7,s8,s9,s10,s11,s12,s13,s14,s15,s16,s17,s18,s19,s20,s21,s22,s23,s24,s25,s26,s27,s28,s29,s30,s31,s32,s33,s34,s35,s36,s37,s38,s39,s40,s41,s42,s43,s44,s45,s46],[]⟩ w1:=by
 have q0:w1.cell? ⟨Y,0,none⟩=some (.slice A m c):=hY.cell 0
 have q1:w1.cell? ⟨Y,1,none⟩=some (.int .i64 tm):=hY.cell 1
 have q2:w1.cell? ⟨Y,2,none⟩=some (.int .u64 wt):=hY.cell 2
 have HS:∀W,Keeps (· =R) w1 W→W.cell? ⟨X,1,none⟩=some (.int .i64 u)∧W.cell? ⟨Y,0,none⟩=some (.slice A m c)∧W.cell? ⟨Y,1,none⟩=some (.int .i64 tm)∧W.cell? ⟨Y,2,none⟩=some (.int .u64 wt):=fun W k=> ⟨k.cell_some hu hXR,k.cell_some q0 hYR,k.cell_some q1 hYR,k.cell_some q2 hYR⟩
 have HSg:=zz HS
 have HR:=zz hR
 have hS0:=HS w1.drew (Kz0 _ _).drew
 clear q0 q1 q2 HS hY hu hR
 conv=> arg 2;whnf
 dsimp only
 refine wp_region_held_drew (S:=fun W=> W.cell? ⟨X,1,none⟩=some (.int .i64 u)∧W.cell? ⟨Y,0,none⟩=some (.slice A m c)∧W.cell? ⟨Y,1,none⟩=some (.int .i64 tm)∧W.cell? ⟨Y,2,none⟩=some (.int .u64 wt)) (by kernel_rfl) hS0 (fun hHeld=> ?_)
 clear hS0
 refine tkH 0 ?_ (hy:=by intro w hSw; (try dsimp only at hSw);obtain⟨h1,h2,h3,h4⟩:=hSw;go_simp;try (with_reducible rfl))
 refine tkH 1 ?_ (hy:=by intro w hSw; (try dsimp only at hSw);obtain⟨h1,h2,h3,h4⟩:=hSw;go_simp;try (with_reducible rfl))
 refine tkH 2 ?_ (hy:=by intro w hSw; (try dsimp only at hSw);obtain⟨h1,h2,h3,h4⟩:=hSw;go_simp;try (with_reducible rfl))
 refine tkH 3 ?_ (hy:=by intro w hSw; (try dsimp only at hSw);obtain⟨h1,h2,h3,h4⟩:=hSw;go_simp;try (with_reducible rfl))
 refine tkH 4 ?_ (hy:=by intro w hSw; (try dsimp only at hSw);obtain⟨h1,h2,h3,h4⟩:=hSw;go_simp;try (with_reducible rfl))
 have BR:=zz (HR.out.drew)
 have KD:=zz ((Kz0 (· =R) w1).drew)
 generalize w1.drew=wd at*
 obtain⟨s1,s2⟩:=Zr9 BR.out (.slice A m c) (.int .i64 tm) (.int .u64 wt)
 refine rd1 5 (fun K hK=> ?_)
 have f0:=BR.out.frozen 0
 have f1:=BR.out.frozen 1
 have f2:=BR.out.frozen 2
 have g0:wd.cell? ⟨R,0,none⟩=some (.slice none 0 0):=BR.out.cell 0
 have g1:wd.cell? ⟨R,1,none⟩=some (.int .i64 0):=BR.out.cell 1
 have g2:wd.cell? ⟨R,2,none⟩=some (.int .u64 0):=BR.out.cell 2
 have kR:Keeps (· =R) w1 (((wd.setCell ⟨R,0,none⟩ (.slice A m c)).setCell ⟨R,1,none⟩ (.int .i64 tm)).setCell ⟨R,2,none⟩ (.int .u64 wt)):=KD.out.trans s2
 have HSR:=zz (HSg.out _ kR)
 have HS1:=zz s1
 have HK:=zz kR
 clear s1 s2 kR HSg HR
 go_simp
 refine hK.out _ _ HSR.out (fun hHeld=> ?_)
 clear hK K
 (try simp only [Zpt])
 refine tkH 6 ?_ (hy:=by intro w hSw; (try dsimp only at hSw);obtain⟨h1,h2,h3,h4⟩:=hSw;go_simp;try (with_reducible rfl))
 refine tkH 7 ?_ (hy:=by intro w hSw; (try dsimp only at hSw);obtain⟨h1,h2,h3,h4⟩:=hSw;go_simp;try (with_reducible rfl))
 refine wpAnyH_done (by kernel_rfl) ?_ _
 exact⟨⟨HS1.out,HK.out⟩,⟨_,_,_,_,_,rfl⟩⟩
end evenc
open Go.RowKit Vp Cfp
def Zw8 (w:World) (tm wt:Int) (ts:List (ByteArray × ByteArray)) (e:Ending) (w':World):Prop:=
 ∃(A:Option Addr) (c:Nat),e= .returned (.tuple #[.agg #[.slice A ts.length c,.int .i64 tm,.int .u64 wt],.int .i64 (evb tm wt ts).length,.int .i64 0])∧Own w' w.heap.size 126 2 A ts.length c (tgv ts)∧Keeps NO w w'
theorem Znk {l:List (ByteArray × ByteArray)} {j:Nat} {t:ByteArray × ByteArray} (h:l[j]?=some t) (s:List UInt8):tgb (l.drop j)++s=txb t.1++(txb t.2++(tgb (l.drop (j+1))++s)):=by
 have hj:j<l.length:=(List.getElem?_eq_some_iff.1 h).1
 have e:l.drop j=t :: l.drop (j+1):=by
  rw [List.drop_eq_getElem_cons hj]
  congr 1
  have:=List.getElem?_eq_getElem hj
  rw [h] at this
  injection this with this
  exact this.symm
 rw [e]
 simp [tgb]
theorem Zt5 (w:World) (A:Option Addr) (n c B:Nat) (ts:List (ByteArray × ByteArray)) (tm wt:Int) (s:List UInt8) (hr:Rd w B A 1 n ((evb tm wt ts++s).map by8)) (hB:B≤w.heap.size) (hz:∀t∈ts,t.1.size≤4096∧t.2.size≤4096) (hN:ts.length≤8)
  (t0:0≤tm) (t1:tm≤1099511627776) (y0:0≤wt) (y1:wt<18446744073709551616) (hn:n≤1000000) (hnc:n≤c):
  Calls Tryz.prog 112 #[.slice A n c] w (Zw8 w tm wt ts):=by
 obtain⟨N,hNe⟩:∃N,N=ts.length:=⟨_,rfl⟩
 have HZ:=zz hz
 have kA:=(Kz0 NO w).alloc (.cells #[.slice none 0 0,.int .i64 0,.int .u64 0] 67)
 have R1:=Blk.new w 67 #[.slice none 0 0,.int .i64 0,.int .u64 0]
 obtain⟨w1,hw1⟩:∃w1,w1=w.alloc (.cells #[.slice none 0 0,.int .i64 0,.int .u64 0] 67):=⟨_,rfl⟩
 rw [←hw1] at kA R1
 have kB:=(Kz0 NO w1).alloc (.cells #[.slice A n c,.int .i64 0,.int .i64 0] 293)
 have X2:=Blk.new w1 293 #[.slice A n c,.int .i64 0,.int .i64 0]
 obtain⟨w2,hw2⟩:∃w2,w2=w1.alloc (.cells #[.slice A n c,.int .i64 0,.int .i64 0] 293):=⟨_,rfl⟩
 rw [←hw2] at kB X2
 have hsz:w1.heap.size=w.heap.size+1:=by rw [hw1];simp
 rw [hsz] at X2
 have HI:=zz (show evenc.IsRd w2 B (w.heap.size+1) n 0 (enc tm.toNat++(enc wt.toNat++(enc N++(tgb ts++s)))) from
  ⟨A,c,_,X2,(hr.kept kA (fun _ _ h=> h)).kept kB (fun _ _ h=> h),hnc,by omega,hn,by omega,by rw [hNe];simp [evb]⟩)
 have HR:=zz (R1.kept kB (fun h=> h))
 have HK:=zz (kA.trans kB)
 have HW1:=zz hw1
 have HW2:=zz hw2
 have HNe:=zz hNe
 have hlen:(evb tm wt ts).length=(enc tm.toNat).length+(enc wt.toNat).length+(enc N).length+(tgb ts).length:=by simp [evb,hNe];omega
 have HLen:=zz hlen
 rw [←hNe] at hN
 clear hr hz kA R1 hw1 kB X2 hw2 hNe hlen
 have etm:IntKind.i64.wrap tm=tm:=by rw [IntKind.wrap_i64];omega
 obtain⟨tn,rfl⟩:∃tn:Nat,tm=(tn:Int):=⟨tm.toNat,by omega⟩
 obtain⟨wn,rfl⟩:∃wn:Nat,wt=(wn:Int):=⟨wt.toNat,by omega⟩
 rw [Int.toNat_natCast,Int.toNat_natCast] at HI HLen
 go_enter Tryz.func112,Tryz.ntmps112
 go_upto_region 2 with fail
 rw [←HW1.out]
 rw [←HW2.out]
 go_wp2_with fail
 refine(evenc.enum_ok w2 B (w.heap.size+1) n 0 _ tn 1099511627776 1 HI.out (by omega) (by omega) (by omega)).mono ?_
 rintro e w3 ⟨rfl,h3,k3⟩
 have X3:=zz h3
 have R3:=zz (HR.out.kept k3 (by omega))
 have K3:=zz (HK.out.step k3 (fun b hb e=> by omega))
 have hx3:=h3.lt
 clear h3 k3 HI HR HK HW1 HW2
 have kY:=(Kz0 NO w3).alloc (.cells #[.slice none 0 0,.int .i64 tn,.int .u64 0] 67)
 have Y4:=zz (Blk.new w3 67 #[.slice none 0 0,.int .i64 tn,.int .u64 0])
 have X4:=zz (X3.out.kept kY (fun h=> h) (fun _ _ h=> h))
 have R4:=zz (R3.out.kept kY (fun h=> h))
 have K4:=zz (K3.out.trans kY)
 go_wp2_with fail
 clear kY X3 R3 K3
 generalize w3.alloc _=w4 at*
 have HYR:Hid (w3.heap.size≠w.heap.size):=zz (by omega)
 generalize w3.heap.size=Y at*
 refine(evenc.enum_ok w4 B (w.heap.size+1) n _ _ wn 18446744073709551615 1 X4.out (by omega) (by omega) (by omega)).mono ?_
 rintro e w5 ⟨rfl,h5,k5⟩
 have X5:=zz h5
 have Y5:=zz (Y4.out.kept k5 (by omega))
 have R5:=zz (R4.out.kept k5 (by omega))
 have K5:=zz (K4.out.step k5 (fun b hb e=> by omega))
 have f2:=Y5.out.frozen 2
 have q2:w5.cell? ⟨Y,2,none⟩=some (.int .u64 0):=Y5.out.cell 2
 clear h5 k5 X4 Y4 R4 K4
 go_upto_region 4 with fail
 have kS:Keeps (· =Y) w5 (w5.setCell ⟨Y,2,none⟩ (.int .u64 wn)):=Keeps.setCell (S:=(· =Y)) (p:=⟨Y,2,none⟩) (Kz0 _ _) (.inl rfl) _
 have Y6:=zz (Y5.out.set 2 (.int .u64 wn))
 have X6:=zz (X5.out.kept kS (by omega) (fun b hb e=> by omega))
 have R6:=zz (R5.out.kept kS (by omega))
 have K6:=zz (K5.out.step kS (fun b hb e=> by omega))
 clear kS X5 Y5 R5 K5 f2 q2
 generalize w5.setCell _ _=w6 at*
 go_wp2_with fail
 refine(evenc.enum_ok w6 B (w.heap.size+1) n _ _ N 8 5 X6.out (by omega) (by omega) (by omega)).mono ?_
 rintro e w7 ⟨rfl,h7,k7⟩
 have Y7:=Y6.out.kept k7 (by omega)
 have R7:=zz (R6.out.kept k7 (by omega))
 have K7:=K6.out.step k7 (fun b hb e=> by omega)
 obtain⟨u0,hu0⟩:∃u0,u0=0+(enc tn).length+(enc wn).length+(enc N).length:=⟨_,rfl⟩
 rw [←hu0] at h7
 have D7:Hid (evenc.DSt w w7 B (w.heap.size+1) n u0 (tgb ts++s) Y none 0 0 [] (tn:Int) (wn:Int)):=zz ⟨h7,Y7,Own.nil _ _ _ _,K7,by omega,by omega,by omega,hB⟩
 have HU0:=zz hu0
 clear h7 k7 Y7 K7 hu0 Y6 X6 R6 K6
 clear y0 y1 t0 t1 etm
 go_wp2_with fail
 go_loopw [7] (fun nv wr=> ∃(r j c':Nat) (A':Option Addr),r+j=N∧nv= .int .u64 (r:Int)∧Hid (evenc.DSt w wr B (w.heap.size+1) n (u0+(tgb (ts.take j)).length) (tgb (ts.drop j)++s) Y A' j c' (ts.take j) (tn:Int) (wn:Int))∧Hid (Blk wr w.heap.size 67 #[.slice none 0 0,.int .i64 0,.int .u64 0])) (fun nv _=> (intOf nv).toNat)
 case atStart=> exact⟨N,0,0,none,by omega,rfl,by simpa [tgb] using D7,R7⟩
 case round=>
  obtain⟨r,j,c',A',hrj,rfl,D,HRr⟩:=hrel
  have hYR0:Y≠w.heap.size:=HYR.out
  clear D7 R7
  by_cases hr1:1≤r
  ·have hgt:(0:Int)<(r:Int):=by omega
   obtain⟨⟨k,v⟩,hkv⟩:∃t,ts[j]?=some t:=⟨ts[j]'(by have:=HNe.out;omega),by simp⟩
   obtain⟨hk,hv⟩:=HZ.out (k,v) (List.mem_of_getElem? hkv)
   dsimp only at hk hv
   have hD:=D.out
   rw [Znk hkv s] at hD
   dsimp only at hD
   have HD:=zz hD
   have HTK:=zz (Zhx hkv)
   have HT1:Hid (ts.take (j+1)=ts.take j++ [(k,v)]):=zz (by rw [List.take_add_one,hkv];rfl)
   have hRA:¬inB A' w.heap.size:=fun e=> D.out.own.ne_blk HRr.out (by decide) e rfl
   have hYR:w.heap.size≠Y:=fun e=> hYR0 e.symm
   have e1:IntKind.u64.wrap ((r:Int)-1)=((r-1:Nat):Int):=by rw [IntKind.wrap_u64];omega
   clear hkv hD D
   go_upto_region 7 with fail
   refine Code.wp_mono ?_ (evenc.reg7 w wr B (w.heap.size+1) n _ _ Y A' j c' (ts.take j) tn wn k v hk hv (by omega) HD.out _ _ _ _ _ _ _ _ _ _ _ _ _ _ _ _ _ _ _ _ _ _ _ _ _ _ _ _ _ _ _ _ _ _ _ _ _ _ _ _ _ _ _ _ _)
   intro e a' w8 hex
   cases e <;> (first | exact hex.elim | skip)
   obtain⟨⟨A8,c8,D8⟩,k8,⟨v24,v25,v26,v27,v28,v29,v30,v31,rfl⟩⟩:=hex
   have R8:=zz (HRr.out.kept k8 (fun e=> by rcases e with e | e | e;omega;exact hYR e;exact hRA e))
   have D8':Hid (evenc.DSt w w8 B (w.heap.size+1) n (u0+(tgb (ts.take (j+1))).length) (tgb (ts.drop (j+1))++s) Y A8 (j+1) c8 (ts.take (j+1)) (tn:Int) (wn:Int)):=zz (by
    have e2:u0+(tgb (ts.take (j+1))).length=u0+(tgb (ts.take j)).length+(txb k).length+(txb v).length:=by
     rw [HTK.out];simp;omega
    rw [e2,HT1.out]
    exact D8)
   clear D8 k8 HRr HD
   dsimp only
   go_wp2_with fail
   go_roundw
   case rel=> exact⟨r-1,j+1,c8,A8,by omega,by go_num,D8',R8⟩
   case measure=> simp [intOf];omega
  ·obtain rfl:r=0:=by omega
   obtain rfl:j=N:=by omega
   have hT:ts.take j=ts:=List.take_of_length_le (by rw [←HNe.out];exact Nat.le_refl _)
   rw [hT] at D
   obtain⟨u9,hu9⟩:∃u9,u9=u0+(tgb ts).length:=⟨_,rfl⟩
   rw [←hu9] at D
   have hul:Hid (u9=(evb (tn:Int) (wn:Int) ts).length):=zz (by have:=HLen.out;have:=HU0.out;omega)
   clear hu9 hT
   obtain⟨A2,cc2,L2,hb2,_⟩:=D.out.rd
   have q1:wr.cell? ⟨w.heap.size+1,1,none⟩=some (.int .i64 u9):=hb2.cell 1
   have q2:wr.cell? ⟨w.heap.size+1,2,none⟩=some (.int .i64 0):=hb2.cell 2
   have hRA:¬inB A' w.heap.size:=fun e=> D.out.own.ne_blk HRr.out (by decide) e rfl
   have hYR:=HYR.out
   clear hb2
   go_upto_region 10 with fail
   refine Code.wp_mono ?_ (evenc.reg10 wr (w.heap.size+1) Y w.heap.size u9 A' j c' tn wn D.out.ev q1 HRr.out (by omega) hYR _ _ _ _ _ _ _ _ _ _ _ _ _ _ _ _ _ _ _ _ _ _ _ _ _ _ _ _ _ _ _ _ _ _ _ _ _ _ _ _ _ _ _ _)
   intro e a' w9 hex
   cases e <;> (first | exact hex.elim | skip)
   obtain⟨⟨b9,k9⟩,⟨v42,v43,v44,v45,v46,rfl⟩⟩:=hex
   have r0:=b9.cell 0
   have r1:=b9.cell 1
   have r2:=b9.cell 2
   have K9:=zz k9
   clear b9 k9 q1 q2
   dsimp only
   simp only [Zpg] at r0 r1 r2
   go_wp2_with fail
   refine bodyPost_ret (v:= .tuple #[.agg #[.slice A' j c',.int .i64 tn,.int .u64 wn],.int .i64 u9,.int .i64 0]) (by simp [results,Tryz.results112,go_sem,r0,r1,r2]) rfl ?_
   refine⟨A',c',?_,?_,D.out.kp.step K9.out (fun b hb e=> by omega)⟩
   ·rw [←hul.out,←HNe.out]
   ·rw [←HNe.out]
    exact D.out.own.kept K9.out (fun b hb e=> hRA (e ▸ hb))
open Go.RowKit Vp Cfp
theorem Zof (w:World):Calls Tryz.prog 214 #[.int .u8 97] w fun e w'=> e= .returned (.bool true)∧w'=w:=by
 go_enter Tryz.func214,Tryz.ntmps214
 go_wp2_with fail
 go_ret
 exact⟨rfl,rfl⟩
theorem Znh (w:World):Calls Tryz.prog 166 #[.agg #[.string { data:= #[97]},.string { data:= #[]}]] w fun e w'=> e= .returned (.int .i64 0)∧Keeps NO w w':=by
 have kA:=zz ((Kz0 NO w).alloc (.cells #[.string { data:= #[97]},.string { data:= #[]}] 126))
 go_enter Tryz.func166,Tryz.ntmps166
 go_wp2_with fail
 go_loopw [3,10] (fun _ iv wr=> ∃j:Nat,j≤1∧iv= .int .i64 j∧wr=w.alloc (.cells #[.string { data:= #[97]},.string { data:= #[]}] 126)) (fun _ iv _=> 1-(intOf iv).toNat)
 case atStart=> exact⟨0,by omega,rfl,rfl⟩
 case round=>
  obtain⟨j,hj,rfl,rfl⟩:=hrel
  rcases(show j=0∨j=1 by omega) with rfl | rfl
  ·go_wp2_with fail
   refine(Zof _).mono ?_
   rintro e w2 ⟨rfl,rfl⟩
   go_wp2_with fail
   go_roundw
   case rel=> exact⟨1,by omega,by go_num,trivial⟩
   case measure=> simp [intOf]
  ·go_wp2_with fail
   go_ret
   exact⟨rfl,kA.out⟩
open Go.RowKit Vp Cfp
open evenc (Zff)
theorem Zk8:∀(l:List (ByteArray × ByteArray)),∀u∈tgv l,u.oneCell'=true
 | [],u,h=> by simp [tgv] at h
 | t :: l,u,h=> by
   simp only [tgv,List.mem_cons] at h
   rcases h with rfl | rfl | h
   ·rfl
   ·rfl
   ·exact Zk8 l u h
abbrev aT:List (ByteArray × ByteArray):= [(⟨#[97]⟩,⟨#[]⟩)]
theorem Zmq {w:World} {B b off n c:Nat} {l:List (ByteArray × ByteArray)} (hr:Rd w B (some ⟨b,off,none⟩) 2 n (tgv l)) (hn:n≤1000000):
  Calls Tryz.prog 167 #[.slice (some ⟨b,off,none⟩) n c] w fun e w'=> ∃A' c',e= .returned (.slice A' n c')∧Own w' w.heap.size 126 2 A' n c' (tgv l)∧Keeps NO w w':=by
 have HR:=zz hr
 clear hr
 have heq:=fun w=> Lib.run_eql_slice_nil (P:=Tryz.prog) w 65 126 (some ⟨b,off,none⟩) n c 0 0 Tryz.underlying65
 go_enter Tryz.func167,Tryz.ntmps167
 go_wp2_with (at_builtin;refine Za5 _ Zff rfl _ _ rfl w.heap.size _ rfl (Own.new0 _ _ 126 2 _ (by simp) (by omega)) _ (m:=n) _ rfl (HR.out.kept ((Kz0 NO w).alloc _) (fun _ _ h=> h)) (Zk8 l) (by simp [maxLen];omega) (by omega) (by simp) ?_;intro A5 c5 w5 o5 k5 hA5;rw [Nat.zero_add,List.nil_append] at o5;have O5:=zz o5;have K5:=zz k5;clear o5 k5 hA5)
 go_ret
 exact⟨A5,c5,rfl,O5.out,((Kz0 _ w).alloc _).step K5.out (fun k hk h=> by have:=(Za0 _ _ _).1 h;omega)⟩
theorem Zqs (w:World) (B b off c:Nat) (hr:Rd w B (some ⟨b,off,none⟩) 2 1 (tgv aT)) (hB:B≤w.heap.size):
  Calls Tryz.prog 118 #[.slice (some ⟨b,off,none⟩) 1 c] w fun e w'=> ∃A' c',e= .returned (.tuple #[.slice A' 1 c',.int .i64 0])∧Own w' w.heap.size 126 2 A' 1 c' (tgv aT)∧Keeps NO w w':=by
 have HR:=zz hr
 have K0:=zz (Kz0 NO w)
 clear hr
 go_enter Tryz.func118,Tryz.ntmps118
 go_wp2_with fail
 go_loopw [19] (fun iv wr=> ∃j:Nat,j≤1∧iv= .int .i64 j∧Hid (Keeps NO w wr)) (fun iv _=> 1-(intOf iv).toNat)
 case atStart=> exact⟨0,by omega,rfl,K0⟩
 case round=>
  obtain⟨j,hj,rfl,K1⟩:=hrel
  clear K0
  rcases(show j=0∨j=1 by omega) with rfl | rfl
  ·obtain⟨b',off',hA,hbB,hcell⟩:=(HR.out.kept K1.out (fun _ _ h=> h)).2 (by omega)
   cases hA
   have f1:=hcell 0 (.string ⟨#[97]⟩) rfl
   have f2:=hcell 1 (.string ⟨#[]⟩) rfl
   rw [Nat.add_zero] at f1
   clear hcell
   go_wp2_with fail
   refine(Znh _).mono ?_
   rintro e w2 ⟨rfl,k2⟩
   have K2:=zz (K1.out.trans (((Kz0 NO wr).alloc _).trans k2))
   clear k2 K1
   go_wp2_with fail
   go_roundw
   case rel=> exact⟨1,by omega,by go_num,K2⟩
   case measure=> simp [intOf]
  ·go_wp2_with fail
   refine(Zmq (HR.out.kept K1.out (fun _ _ h=> h)) (by omega)).mono ?_
   rintro e w2 ⟨A',c',rfl,o2,k2⟩
   have O2:=zz (o2.base_le K1.out.size)
   have K2:=zz (K1.out.trans k2)
   clear o2 k2 K1
   go_wp2_with fail
   refine(Zqx w2 A' 1 c' (by omega) _).mono ?_
   rintro e w3 ⟨rfl,rfl⟩
   go_wp2_with fail
   go_loopw [8] (fun v wr=> v= .int .i64 1∧wr=w3) (fun _ _=> 0)
   case atStart=> exact⟨rfl,rfl⟩
   case round=>
    obtain⟨rfl,rfl⟩:=hrel
    go_wp2_with fail
    go_ret2
    exact⟨A',c',rfl,O2.out,K2.out⟩
open Go.RowKit Vp Cfp
open evenc (Zff)
abbrev aK:ByteArray:=⟨#[1,97,0]⟩
theorem Zto (w:World) (B b off c:Nat) (hr:Rd w B (some ⟨b,off,none⟩) 2 1 (tgv aT)) (hB:B≤w.heap.size):
  Calls Tryz.prog 59 #[.slice (some ⟨b,off,none⟩) 1 c] w fun e w'=> e= .returned (.tuple #[.string aK,.int .i64 0])∧Keeps NO w w':=by
 go_enter Tryz.func59,Tryz.ntmps59
 go_wp2_with fail
 refine(Zqs w B b off c hr hB).mono ?_
 rintro e w1 ⟨A1,c1,rfl,o1,k1⟩
 have O1:=zz o1
 have K1:=zz k1
 clear o1 k1 hr
 go_wp2_with fail
 go_loopw [6,19] (fun bv iv wr=> ∃(j:Nat) (A:Option Addr) (n c:Nat),j≤1∧iv= .int .i64 j∧bv= .slice A n c∧Hid (Own wr w.heap.size 5 1 A n c ((if j=0 then [] else [1,97,0]).map by8))∧Hid (Keeps NO w wr)∧Hid (Own wr w.heap.size 126 2 A1 1 c1 (tgv aT))) (fun _ iv _=> 1-(intOf iv).toNat)
 case atStart=> exact⟨0,none,0,0,by omega,rfl,rfl,zz (Own.nil _ _ _ _),K1,O1⟩
 case round=>
  obtain⟨j,A,n,cp,hj,rfl,rfl,O,K,Y⟩:=hrel
  rcases(show j=0∨j=1 by omega) with rfl | rfl
  ·have hn0:n=0:=by have:=O.out.blen;simpa using this.symm
   subst hn0
   obtain⟨b',off',hA,hbB,hcell⟩:=(Y.out.rd (by omega)).2 (by omega)
   have f1:=hcell 0 (.string ⟨#[97]⟩) rfl
   have f2:=hcell 1 (.string ⟨#[]⟩) rfl
   rw [Nat.add_zero] at f1
   subst hA
   have hs:=K.out.size
   have kA:=(Kz0 NO wr).alloc (.cells #[.string ⟨#[97]⟩,.string ⟨#[]⟩] 126)
   have O2:=zz (O.out.kept kA (fun _ _ h=> h))
   have K2:=zz (K.out.trans kA)
   have T2:=zz (Blk.new wr 126 #[.string ⟨#[97]⟩,.string ⟨#[]⟩])
   have Y2:=zz (Y.out.kept kA (fun _ _ h=> h))
   clear hcell kA O K Y O1 K1
   go_upto_region 8 with fail
   generalize wr.alloc _=w2 at*
   have d1:w2.cell? ⟨wr.heap.size,0,none⟩=some (.string ⟨#[97]⟩):=T2.out.cell 0
   have d2:w2.cell? ⟨wr.heap.size,1,none⟩=some (.string ⟨#[]⟩):=T2.out.cell 1
   go_upto_region 9 with (at_builtin;refine Za5 _ Zbu rfl (.tmp 23) (.tmp 28) rfl w.heap.size _ rfl (by exact O2.out.kept ((Kz0 NO _).alloc _) (fun _ _ h=> h)) _ (m:=1) ([1].map by8) rfl (by exact Blk.rd (xs:= [by8 1]) (Blk.new_at _ _ _ _ (by first | rfl | simp)) rfl) (Zb4 [1]) (by simp [maxLen]) (by omega) (by have:=K2.out.size;simp;omega) ?_;intro A3 c3 w3 o3 k3 hA3;have O3:Hid (Own w3 w.heap.size 5 1 A3 1 c3 ([1].map by8)):=zz o3;have K3:=zz (((Kz0 (inB A) w2).alloc (.cells #[.int .u8 1] 5)).trans k3);clear o3 k3 hA3)
   have T3:=zz (T2.out.kept K3.out (fun e=> O2.out.ne_blk T2.out (by decide) e rfl))
   have Y3:=zz (Y2.out.kept K3.out (fun b hb e=> Y2.out.ne O2.out (by decide) hb e))
   have K3:=zz (K2.out.step K3.out (fun b hb e=> by have:=O2.out.inB e;omega))
   have d3:w3.cell? ⟨wr.heap.size,0,none⟩=some (.string ⟨#[97]⟩):=T3.out.cell 0
   go_upto_region 10 with (at_builtin;refine Zbh w3 rfl (.tmp 30) (.tmp 32) rfl w.heap.size _ rfl (by exact O3.out) ⟨#[97]⟩ rfl (by decide) (by omega) (by have:=K3.out.size;omega) ?_;intro A4 c4 w4 o3 k3 hA3;have O4:Hid (Own w4 w.heap.size 5 1 A4 2 c4 ([1,97].map by8)):=zz o3;have K4:=zz k3;clear o3 k3 hA3)
   have T4:=zz (T3.out.kept K4.out (fun e=> O3.out.ne_blk T3.out (by decide) e rfl))
   have Y4:=zz (Y3.out.kept K4.out (fun b hb e=> Y3.out.ne O3.out (by decide) hb e))
   have K4:=zz (K3.out.step K4.out (fun b hb e=> by have:=O3.out.inB e;omega))
   have d4:w4.cell? ⟨wr.heap.size,1,none⟩=some (.string ⟨#[]⟩):=T4.out.cell 1
   go_upto_region 11 with (at_builtin;refine Za5 _ Zbu rfl (.tmp 34) (.tmp 39) rfl w.heap.size _ rfl (by exact O4.out.kept ((Kz0 NO _).alloc _) (fun _ _ h=> h)) _ (m:=1) ([0].map by8) rfl (by exact Blk.rd (xs:= [by8 0]) (Blk.new_at _ _ _ _ (by first | rfl | simp)) rfl) (Zb4 [0]) (by simp [maxLen]) (by omega) (by have:=K4.out.size;simp;omega) ?_;intro A5 c5 w5 o3 k3 hA3;have O5:Hid (Own w5 w.heap.size 5 1 A5 3 c5 ([1,97,0].map by8)):=zz o3;have K5:=zz (((Kz0 (inB A4) w4).alloc (.cells #[.int .u8 0] 5)).trans k3);clear o3 k3 hA3)
   have T5:=zz (T4.out.kept K5.out (fun e=> O4.out.ne_blk T4.out (by decide) e rfl))
   have Y5:=zz (Y4.out.kept K5.out (fun b hb e=> Y4.out.ne O4.out (by decide) hb e))
   have K5:=zz (K4.out.step K5.out (fun b hb e=> by have:=O4.out.inB e;omega))
   have d5:w5.cell? ⟨wr.heap.size,1,none⟩=some (.string ⟨#[]⟩):=T5.out.cell 1
   go_upto_region 12 with (at_builtin;refine Zbh w5 rfl (.tmp 41) (.tmp 43) rfl w.heap.size _ rfl (by exact O5.out) ⟨#[]⟩ rfl (by decide) (by omega) (by have:=K5.out.size;omega) ?_;intro A6 c6 w6 o3 k3 hA3;have O6:Hid (Own w6 w.heap.size 5 1 A6 3 c6 ([1,97,0].map by8)):=zz o3;have K6:=zz k3;clear o3 k3 hA3)
   have T6:=zz (T5.out.kept K6.out (fun e=> O5.out.ne_blk T5.out (by decide) e rfl))
   have Y6:=zz (Y5.out.kept K6.out (fun b hb e=> Y5.out.ne O5.out (by decide) hb e))
   have K6:=zz (K5.out.step K6.out (fun b hb e=> by have:=O5.out.inB e;omega))
   go_wp2_with fail
   go_roundw
   case rel=> exact⟨1,A6,3,c6,by omega,by go_num,rfl,O6,K6,Y6⟩
   case measure=> simp [intOf]
  ·have hn3:n=3:=by have:=O.out.len;simpa using this.symm
   subst hn3
   go_wp2_with fail
   have hcv:∀ww,ww=wr→(convert 57 9 (.slice A 3 cp)).run Tryz.prog ww= .ok (.string ⟨#[1,97,0]⟩) ww:=fun ww e=> by
    subst e
    exact Zea (O.out.rd (by omega))
   have hcw:=hcv wr rfl
   clear hcv
   go_wp2_with fail
   rw [hcw]
   simp only [Result.andThen]
   rw [Oper.upon_value]
   go_wp2_with fail
   go_ret2
   exact⟨rfl,K.out⟩
open Go.RowKit
theorem Zs2 (w:World) (A:Option Addr) (n c:Nat) (tm wt:Int) (k:ByteArray) (HK:∀W,Keeps NO w W→Calls Tryz.prog 59 #[.slice A n c] W fun e w'=> e= .returned (.tuple #[.string k,.int .i64 0])∧Keeps NO W w')
  (t0:0≤tm) (t1:tm≤1099511627776) (w0:1≤wt) (w1:wt≤9223372036854775808):
  Calls Tryz.prog 18 #[.agg #[.slice A n c,.int .i64 tm,.int .u64 wt]] w fun e w'=> e= .returned (.tuple #[.agg #[.string k,.int .i64 tm,.int .u64 wt],.int .i64 0])∧Keeps NO w w':=by
 have b1:=(Blk.new w 67 #[.slice A n c,.int .i64 tm,.int .u64 wt]).alloc (.cells #[.string ⟨#[]⟩,.int .i64 0,.int .u64 0] 62)
 have b2:=Blk.new_at (w.alloc (.cells #[.slice A n c,.int .i64 tm,.int .u64 wt] 67)) 62 #[.string ⟨#[]⟩,.int .i64 0,.int .u64 0] (w.heap.size+1) (by simp)
 have k2:=((Kz0 NO w).alloc (.cells #[.slice A n c,.int .i64 tm,.int .u64 wt] 67)).alloc (.cells #[.string ⟨#[]⟩,.int .i64 0,.int .u64 0] 62)
 have B1:=zz b1
 have B2:=zz b2
 have K2:=zz k2
 have HKk:=zz HK
 have e0:(wt==0)=false:=by simp;omega
 have e1:decide (9223372036854775808<wt)=false:=by simp;omega
 clear b1 b2 k2 HK
 go_enter Tryz.func18,Tryz.ntmps18
 go_upto_region 1 with fail
 generalize (w.alloc _).alloc _=w2 at*
 have f0:=B1.out.cell 0
 have f1:=B1.out.cell 1
 have f2:=B1.out.cell 2
 go_wp2_with fail
 refine(HKk.out _ K2.out).mono ?_
 rintro e w3 ⟨rfl,k3⟩
 have B3:=B1.out.kept k3 (fun h=> h)
 have C3:=zz (B2.out.kept k3 (fun h=> h))
 have K3:=zz (K2.out.trans k3)
 have g1:=B3.cell 1
 have g2:=B3.cell 2
 have h0:=C3.out.cell 0
 have h1:=C3.out.cell 1
 have h2:=C3.out.cell 2
 have h3:=C3.out.frozen 0
 have h4:=C3.out.frozen 1
 have h5:=C3.out.frozen 2
 clear k3 B3 K2 HKk f0 f1 f2 B1 B2
 go_wp2_with fail
 have b9:Blk (((w3.setCell ⟨w.heap.size+1,0,none⟩ (.string k)).setCell ⟨w.heap.size+1,1,none⟩ (.int .i64 tm)).setCell ⟨w.heap.size+1,2,none⟩ (.int .u64 wt)) (w.heap.size+1) 62 #[.string k,.int .i64 tm,.int .u64 wt]:=((C3.out.set 0 (.string k)).set 1 (.int .i64 tm)).set 2 (.int .u64 wt)
 have r0:=b9.cell 0
 have r1:=b9.cell 1
 have r2:=b9.cell 2
 simp only [Zpg] at r0 r1 r2
 refine bodyPost_ret (v:= .tuple #[.agg #[.string k,.int .i64 tm,.int .u64 wt],.int .i64 0]) (by simp [results,Tryz.results18,go_sem,r0,r1,r2]) rfl ?_
 exact⟨rfl,((K3.out.setCell (p:=⟨w.heap.size+1,0,none⟩) (.inr (by simp)) _).setCell (p:=⟨w.heap.size+1,1,none⟩) (.inr (by simp)) _).setCell (p:=⟨w.heap.size+1,2,none⟩) (.inr (by simp)) _⟩
theorem Zop (w:World) (A:Option Addr) (n c:Nat) (tm wt:Int) (k:ByteArray) (HK:∀W,Keeps NO w W→Calls Tryz.prog 59 #[.slice A n c] W fun e w'=> e= .returned (.tuple #[.string k,.int .i64 0])∧Keeps NO W w')
  (t0:0≤tm) (t1:tm≤1099511627776) (w0:1≤wt) (w1:wt≤9223372036854775808) (most:Int) (hm:(k.size:Int)≤most):
  Calls Tryz.prog 113 #[.agg #[.slice A n c,.int .i64 tm,.int .u64 wt],.int .i64 most] w fun e w'=> e= .returned (.agg #[.string k,.int .i64 tm,.int .u64 wt,.int .i64 0])∧Keeps NO w w':=by
 have b1:=(Blk.new w 67 #[.slice A n c,.int .i64 tm,.int .u64 wt]).alloc (.cells #[.string ⟨#[]⟩,.int .i64 0,.int .u64 0,.int .i64 0] 166)
 have b2:=Blk.new_at (w.alloc (.cells #[.slice A n c,.int .i64 tm,.int .u64 wt] 67)) 166 #[.string ⟨#[]⟩,.int .i64 0,.int .u64 0,.int .i64 0] (w.heap.size+1) (by simp)
 have k2:=((Kz0 NO w).alloc (.cells #[.slice A n c,.int .i64 tm,.int .u64 wt] 67)).alloc (.cells #[.string ⟨#[]⟩,.int .i64 0,.int .u64 0,.int .i64 0] 166)
 have B1:=zz b1
 have B2:=zz b2
 have K2:=zz k2
 have HI:=zz (fun W (kW:Keeps NO w W)=> Zs2 W A n c tm wt k (fun W' kk=> HK W' (kW.trans kk)) t0 t1 w0 w1)
 have e1:decide (most<(k.size:Int))=false:=by simp;omega
 clear b1 b2 k2 HK
 go_enter Tryz.func113,Tryz.ntmps113
 go_upto_region 1 with fail
 generalize (w.alloc _).alloc _=w2 at*
 have f0:=B1.out.cell 0
 have f1:=B1.out.cell 1
 have f2:=B1.out.cell 2
 go_wp2_with fail
 refine(HI.out _ K2.out).mono ?_
 rintro e w3 ⟨rfl,k3⟩
 have C3:=zz (B2.out.kept k3 (fun h=> h))
 have K3:=zz (K2.out.trans k3)
 clear k3 K2 HI f0 f1 f2 B1 B2
 have kA:=(Kz0 NO w3).alloc (.cells #[.string k,.int .i64 tm,.int .u64 wt] 62)
 have BI:=zz (Blk.new w3 62 #[.string k,.int .i64 tm,.int .u64 wt])
 have C4:=zz (C3.out.kept kA (fun h=> h))
 have K4:=zz (K3.out.trans kA)
 have hs:w.heap.size+1<w3.heap.size:=C3.out.lt
 clear kA C3 K3
 go_upto_region 2 with fail
 generalize w3.alloc _=w4 at*
 generalize w3.heap.size=X at*
 have i0:=BI.out.cell 0
 have i1:=BI.out.cell 1
 have i2:=BI.out.cell 2
 have h0:=C4.out.cell 0
 have h1:=C4.out.cell 1
 have h2:=C4.out.cell 2
 have h6:=C4.out.cell 3
 have h3:=C4.out.frozen 0
 have h4:=C4.out.frozen 1
 have h5:=C4.out.frozen 2
 have h7:=C4.out.frozen 3
 clear BI
 go_wp2_with fail
 have b9:Blk ((((w4.setCell ⟨w.heap.size+1,0,none⟩ (.string k)).setCell ⟨w.heap.size+1,1,none⟩ (.int .i64 tm)).setCell ⟨w.heap.size+1,2,none⟩ (.int .u64 wt)).setCell ⟨w.heap.size+1,3,none⟩ (.int .i64 0)) (w.heap.size+1) 166 #[.string k,.int .i64 tm,.int .u64 wt,.int .i64 0]:=(((C4.out.set 0 (.string k)).set 1 (.int .i64 tm)).set 2 (.int .u64 wt)).set 3 (.int .i64 0)
 have r0:=b9.cell 0
 have r1:=b9.cell 1
 have r2:=b9.cell 2
 have r3:=b9.cell 3
 simp only [Zpg] at r0 r1 r2 r3
 refine bodyPost_ret (v:= .agg #[.string k,.int .i64 tm,.int .u64 wt,.int .i64 0]) (by simp [results,Tryz.results113,go_sem,r0,r1,r2,r3]) rfl ?_
 exact⟨rfl,(((K4.out.setCell (p:=⟨w.heap.size+1,0,none⟩) (.inr (by simp)) _).setCell (p:=⟨w.heap.size+1,1,none⟩) (.inr (by simp)) _).setCell (p:=⟨w.heap.size+1,2,none⟩) (.inr (by simp)) _).setCell (p:=⟨w.heap.size+1,3,none⟩) (.inr (by simp)) _⟩
open Go.RowKit Vp Cfp
structure Inp where
 key:ByteArray
 tm:Int
 wt:Int
 vd:Int
def inC (x:Inp):List Value:= [.string x.key,.int .i64 x.tm,.int .u64 x.wt,.int .i64 x.vd]
def inCs (l:List Inp):List Value:=l.flatMap inC
theorem Zs7 {l:List Inp} {i:Nat} {x:Inp} (h:l[i]?=some x):(inCs l)[i*4]?=some (.string x.key)∧(inCs l)[i*4+1]?=some (.int .i64 x.tm)∧(inCs l)[i*4+2]?=some (.int .u64 x.wt)∧(inCs l)[i*4+3]?=some (.int .i64 x.vd):=
 ⟨Zag _ 4 (fun _=> rfl) l i 0 x h (by omega),Zag _ 4 (fun _=> rfl) l i 1 x h (by omega),Zag _ 4 (fun _=> rfl) l i 2 x h (by omega),Zag _ 4 (fun _=> rfl) l i 3 x h (by omega)⟩
theorem Zs8 (x:Inp):∀u∈inC x,u.oneCell'=true:=by intro u hu;simp [inC] at hu;rcases hu with rfl | rfl | rfl | rfl <;> rfl
theorem Zlp {l:List Inp} {i:Nat} {x:Inp} (h:l[i]?=some x):inCs (l.take (i+1))=inCs (l.take i)++inC x:=by
 unfold inCs
 rw [List.take_add_one,h,List.flatMap_append]
 simp
theorem Zt1:ElemOf Tryz.prog 167 166 4 40:=ElemOf.mk' (z:= .agg #[.string ⟨#[]⟩,.int .i64 0,.int .u64 0,.int .i64 0]) Tryz.underlying167 (by kernel_rfl) rfl (by omega)
def InOf (most:Int) (ts:List (ByteArray × ByteArray)) (tm wt:Int) (y:Inp):Prop:=
 ∀(W:World) (A:Option Addr) (n c B:Nat),Rd W B A 2 n (tgv ts)→B≤W.heap.size→n≤8→
  Calls Tryz.prog 113 #[.agg #[.slice A n c,.int .i64 tm,.int .u64 wt],.int .i64 most] W fun e w'=> e= .returned (.agg (inC y).toArray)∧Keeps NO W w'
structure EvIn (most:Int) (x:EvR) (y:Inp):Prop where
 tags:∀t∈x.ts,t.1.size≤4096∧t.2.size≤4096
 n:x.ts.length≤8
 tm:0≤x.tm∧x.tm≤1099511627776
 wt:0≤x.wt∧x.wt<18446744073709551616
 inp:InOf most x.ts x.tm x.wt y
theorem Zmd {l:List EvR} {i:Nat} {x:EvR} (h:l[i]?=some x):evsb (l.drop i)=evb x.tm x.wt x.ts++evsb (l.drop (i+1)):=by
 have hj:i<l.length:=(List.getElem?_eq_some_iff.1 h).1
 have e:l.drop i=x :: l.drop (i+1):=by
  rw [List.drop_eq_getElem_cons hj]
  congr 1
  exact(List.getElem?_eq_some_iff.1 h).2
 rw [e]
 rfl
def Zvi (w:World) (m:Nat) (ys:List Inp) (e:Ending) (w':World):Prop:=
 ∃(A:Option Addr) (c:Nat),e= .returned (.slice A m c)∧Own w' w.heap.size 166 4 A m c (inCs ys)∧Keeps NO w w'
theorem Zox (w:World) (A:Option Addr) (n c B:Nat) (l:List EvR) (ys:List Inp) (m:Nat) (most:Int) (hr:Rd w B A 1 n ((Zay l).map by8)) (hB:B≤w.heap.size) (hnc:n≤c) (hn:n≤1000000)
  (hl:l.length=m) (m0:1≤m) (m1:m≤64) (hy:ys.length=m) (hev:∀(i:Nat) (x:EvR) (y:Inp),l[i]?=some x→ys[i]?=some y→EvIn most x y):
  Calls Tryz.prog 56 #[.slice A n c,.int .i64 most] w (Zvi w m ys):=by
 have HP:Hid (Zam (Zay l)=(m,(enc m).length,0)):=zz (by unfold Zay;rw [hl];exact Zc4 m (by omega) _)
 have HRv:=zz (Varint.read_any (Zay l) A n c B w hr (by omega))
 have hro:Varint.out (Zay l)= .tuple #[.int .u64 m,.int .i64 (enc m).length,.int .i64 0]:=by unfold Varint.out;rw [HP.out];rfl
 rw [hro] at HRv
 have hbl:(enc m).length+(evsb l).length=n:=by have:=hr.1;simp [Zay,hl] at this;omega
 obtain⟨q,hq⟩:∃q,q=(enc m).length:=⟨_,rfl⟩
 rw [←hq] at HRv hbl
 obtain⟨A',hsl,hsr,_⟩:=Zcr (P:=Tryz.prog) Zbu A n c .i64 (q:Int) (by omega) (by omega) hnc
 rw [Int.toNat_natCast] at hsl hsr
 have HR0:Hid (Rd w B A' 1 (n-q) ((evsb (l.drop 0)).map by8)):=zz (by
  have:=hsr w B _ hr
  have e:List.drop (q*1) ((Zay l).map by8)=(evsb (l.drop 0)).map by8:=by
   rw [←List.map_drop,Nat.mul_one,List.drop_zero]
   unfold Zay
   rw [hl,hq,List.drop_left]
  rwa [e] at this)
 have HSl:=zz hsl
 have HL:=zz hl
 have HY:=zz hy
 have HE:=zz hev
 have e0:((m:Int)==0)=false:=by simp;omega
 have e1:decide ((64:Int)<(m:Int))=false:=by simp;omega
 have em:IntKind.i64.wrap (m:Int)=m:=IntWalk.i64_in _ (by omega)
 have K0:=zz (Kz0 NO w)
 clear hr hsl hsr hro HP hq hl hy hev
 go_enter Tryz.func56,Tryz.ntmps56
 go_wp2_with fail
 go_step3
 go_wp2_with fail
 refine HRv.out.mono ?_
 rintro e w' ⟨rfl,rfl⟩
 have hsl:=HSl.out
 clear HSl HRv
 go_wp2_with fail
 go_step3
 go_wp2_with fail
 clear hsl
 go_loopw [8,9] (fun ov rv wr=> ∃(j:Nat) (A1:Option Addr) (c1:Nat) (A2:Option Addr) (n2 c2:Nat),j≤m∧ov= .slice A1 j c1∧rv= .slice A2 n2 c2∧n2≤c2∧n2≤n∧Hid (Own wr w.heap.size 166 4 A1 j c1 (inCs (ys.take j)))∧Hid (Rd wr B A2 1 n2 ((evsb (l.drop j)).map by8))∧Hid (Keeps NO w wr)) (fun ov _ _=> match ov with | .slice _ j _=> m-j | _=> 0)
 case atStart=> exact⟨0,none,0,A',n-q,c-q,by omega,rfl,rfl,by omega,by omega,zz (Own.nil _ _ _ _),HR0,K0⟩
 case round=>
  obtain⟨j,A1,c1,A2,n2,c2,hj,rfl,rfl,hnc2,hn2,O1,R2,K1⟩:=hrel
  clear K0 HR0
  by_cases hlt:j<m
  ·have HLT:Hid (j+1≤m):=hlt
   obtain⟨x,hx⟩:∃x,l[j]?=some x:=⟨l[j]'(by rw [HL.out];exact hlt),by simp⟩
   obtain⟨y,hy⟩:∃y,ys[j]?=some y:=⟨ys[j]'(by rw [HY.out];exact hlt),by simp⟩
   have hxy:=HE.out j x y hx hy
   have HT:=zz (Zlp hy)
   have hd:=Zmd hx
   have R2':Hid (Rd wr B A2 1 n2 ((evb x.tm x.wt x.ts++evsb (l.drop (j+1))).map by8)):=zz (by rw [←hd];exact R2.out)
   have hlen:(evb x.tm x.wt x.ts).length+(evsb (l.drop (j+1))).length=n2:=by have:=R2'.out.1;simp at this;omega
   have hs:=K1.out.size
   have HI:=zz hxy.inp
   have HD:=zz (Zt5 wr A2 n2 c2 B x.ts x.tm x.wt (evsb (l.drop (j+1))) R2'.out (by omega) hxy.tags hxy.n hxy.tm.1 hxy.tm.2 hxy.wt.1 hxy.wt.2 (by omega) hnc2)
   obtain⟨u,hu⟩:∃u,u=(evb x.tm x.wt x.ts).length:=⟨_,rfl⟩
   rw [←hu] at hlen
   have HU:=zz hu
   have hts:=hxy.n
   obtain⟨A3,hsl,hsr,_⟩:=Zcr (P:=Tryz.prog) Zbu A2 n2 c2 .i64 (u:Int) (by omega) (by omega) hnc2
   rw [Int.toNat_natCast] at hsl hsr
   have R3:Hid (Rd wr B A3 1 (n2-u) ((evsb (l.drop (j+1))).map by8)):=zz (by
    have:=hsr wr B _ R2'.out
    have e:List.drop (u*1) (List.map by8 (evb x.tm x.wt x.ts++evsb (l.drop (j+1))))=(evsb (l.drop (j+1))).map by8:=by
     rw [←List.map_drop,Nat.mul_one,hu,List.drop_left]
    rwa [e] at this)
   have HSl:=zz hsl
   have hltI:decide ((j:Int)<(m:Int))=true:=by simp;omega
   have wj:(0:Int)≤(j:Int):=by omega
   clear hsl hsr hu hxy hd R2 R2' hx hy HE
   go_wp2_with fail
   refine HD.out.mono ?_
   rintro e w2 ⟨A4,c4,rfl,o4,k4⟩
   rw [←HU.out]
   have O4:=zz o4
   have K4:=zz k4
   clear o4 k4 HD HU
   generalize x.ts.length=nt at*
   go_upto_region 8 with fail
   have kA:=(Kz0 NO w2).alloc (.cells #[.slice A4 nt c4,.int .i64 x.tm,.int .u64 x.wt] 67)
   have BE:=zz (Blk.new w2 67 #[.slice A4 nt c4,.int .i64 x.tm,.int .u64 x.wt])
   have O4:=zz (O4.out.kept kA (fun _ _ h=> h))
   have K4:=zz (K4.out.trans kA)
   clear kA
   generalize w2.alloc _=w3 at*
   generalize w2.heap.size=X at*
   have f0:=BE.out.cell 0
   have f1:=BE.out.cell 1
   have f2:=BE.out.cell 2
   have hsl:=HSl.out
   go_wp2_with fail
   refine(HI.out _ A4 nt c4 _ (O4.out.rd (by omega)) (Nat.le_refl _) hts).mono ?_
   rintro e w5 ⟨rfl,k5⟩
   have K5:=zz (K4.out.trans k5)
   have O5:=zz (O1.out.kept K5.out (fun _ _ h=> h))
   have R5:=zz (R3.out.kept K5.out (fun _ _ h=> h))
   have hs5:=K5.out.size
   clear k5 K4 O4 f0 f1 f2 BE HSl hsl HI O1 R3
   unfold inC
   go_wp2_with (at_builtin;refine Za5 _ Zt1 rfl (.tmp 50) (.tmp 54) rfl w.heap.size _ rfl (by exact O5.out.kept ((Kz0 NO _).alloc _) (fun _ _ h=> h)) _ (m:=1) (inC y) rfl (by exact Blk.rd (xs:=inC y) (Blk.new_at _ _ _ _ (by first | rfl | simp)) rfl) (Zs8 y) (by simp only [maxLen];omega) (by omega) (by simp;omega) ?_;intro A7 c7 w7 o7 k7 _;rw [←HT.out] at o7;have O7:=zz o7;have K7:=zz (((Kz0 (inB A1) w5).alloc (.cells #[.string y.key,.int .i64 y.tm,.int .u64 y.wt,.int .i64 y.vd] 166)).trans k7);clear o7 k7)
   go_roundw
   case rel=> exact⟨j+1,A7,c7,A3,n2-u,c2-u,HLT.out,by first | rfl | go_num,rfl,by omega,by omega,O7,zz (R5.out.kept K7.out (fun b hb e=> by have:=O5.out.inB e;omega)),zz ((K1.out.trans K5.out).step K7.out (fun b hb e=> by have:=O5.out.inB e;omega))⟩
   case measure=> have:=HLT.out;simp;omega
  ·obtain rfl:j=m:=by omega
   have hd:l.drop j= []:=List.drop_of_length_le (by rw [HL.out];exact Nat.le_refl _)
   have hz:n2=0:=by have:=R2.out.1;rw [hd] at this;simpa [evsb] using this.symm
   have HTk:Hid (ys.take j=ys):=zz (List.take_of_length_le (by rw [HY.out];exact Nat.le_refl _))
   rw [HTk.out] at O1
   subst hz
   clear hd R2
   go_wp2_with fail
   go_loopw [8] (fun ov wr'=> ov= .slice A1 j c1∧wr'=wr) (fun _ _=> 0)
   case atStart=> exact⟨rfl,rfl⟩
   case round=>
    obtain⟨rfl,rfl⟩:=hrel
    go_wp2_with fail
    rw [Exit.noGoto_ret]
    go_ret
    exact⟨A1,c1,rfl,O1.out,K1.out⟩
end Go.Proofs.YtjamiaamngalgaaGreat
