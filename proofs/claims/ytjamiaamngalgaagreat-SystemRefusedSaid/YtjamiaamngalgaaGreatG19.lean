/-
  Parts: The copy of a configurat. No conditions beyond those of the statement.
-/
import Derived.Test.YtjamiaamngalgaaGreatG04
import Derived.Test.YtjamiaamngalgaaGreatG16
import Derived.Test.YtjamiaamngalgaaGreatG18
set_option linter.unusedVariables false
set_option linter.unusedSimpArgs false
set_option maxRecDepth 1000000
set_option maxHeartbeats 4000000
namespace Go.Proofs.YtjamiaamngalgaaGreat
open Go.RowKit Cfp
noncomputable def clRg:Code:=((Tryz.f45.body.bind (findReg 1)).getD .skip)
theorem Zmr (w1:World) (X1 B:Nat) (c:Cfg) (C T:Option Addr) (n k j:Nat) (l:List (Int × Int)) (ts:List Int) (b1:Blk w1 X1 27 (cfC c C n k T 16 j)) (hr:Rd w1 B C 2 n (clv l)) (hT:Rd w1 B T 1 16 (ts.map (.int .u64))) (hB:B≤X1) (hn:n≤1000) (s0 s2 s3 s4 s5 s6 s7 s8 s9 s10 s11:Value):
  Code.wp Tryz.prog clRg (NormPost fun a' w'=> ∃C' k' T' j',(Blk w' X1 27 (cfC c C' n k' T' 16 j')∧Own w' w1.heap.size 35 2 C' n k' (clv l)∧Own w' w1.heap.size 23 1 T' 16 j' (ts.map (.int .u64))∧Keeps (· =X1) w1 w')∧(∃u3 u4 u5 u6 u7 u8 u9 u10:Value,a'=⟨#[s0,.pointer (some ⟨X1,0,none⟩),s2,u3,u4,u5,u6,u7,u8,u9,u10,s11],[]⟩)) ⟨#[s0,.pointer (some ⟨X1,0,none⟩),s2,s3,s4,s5,s6,s7,s8,s9,s10,s11],[]⟩ w1:=by
 have hX:=b1.lt
 have HSg:Hid (∀W,Keeps NO w1 W→W.cell? ⟨X1,14,none⟩=some (.slice C n k)∧W.cell? ⟨X1,15,none⟩=some (.slice T 16 j)):=zz (fun W kW=> ⟨(b1.kept kW (fun h=> h)).cell 14,(b1.kept kW (fun h=> h)).cell 15⟩)
 have k0:Keeps NO w1 w1.drew:=(Kz0 _ _).drew
 have KK:=zz k0
 have HB1:=zz b1
 have HR:=zz hr
 have HT:=zz hT
 clear b1 hr hT k0
 conv=> arg 2;whnf
 try dsimp only
 refine Zat (fun k=> k==7||k==9) (S:=fun W=> W.cell? ⟨X1,14,none⟩=some (.slice C n k)∧W.cell? ⟨X1,15,none⟩=some (.slice T 16 j)) (by kernel_rfl) (HSg.out _ KK.out) (fun hHeld=> ?_)
 refine tkL 0 ?_
 refine tkL 1 ?_
 refine tkL 3 ?_
 refine tkL 4 ?_
 obtain⟨wc,hwc⟩:∃x,x=w1.drew:=⟨_,rfl⟩
 rw [←hwc] at KK
 rw [←hwc]
 clear hwc hHeld
 refine Za2 (rs:= [2]) (by kernel_rfl) (by simp) (AllL.cons rfl (fun K hK=> ?_) AllL.nil)
 go_simp
 go_at_call 102
 refine(Zms (HR.out.kept KK.out (fun _ _ h=> h)) (by omega)).mono ?_
 rintro e w2 ⟨C',k',rfl,oC,kk⟩
 have K2:=zz (KK.out.trans kk)
 have OC:=zz (show Own w2 w1.heap.size 35 2 C' n k' (clv l) from oC.base_le (by have:=KK.out.size;omega))
 clear oC kk KK
 refine hK.out _ _ (HSg.out _ K2.out) (fun hHeld=> ?_)
 clear hK K hHeld
 (try simp only [Zpt])
 refine tkF 6 ?_
 refine Za2 (rs:= [5]) (by kernel_rfl) (by simp) (AllL.cons rfl (fun K hK=> ?_) AllL.nil)
 go_simp
 go_at_call 84
 refine(Zd0 (HT.out.kept K2.out (fun _ _ h=> h)) (by omega)).mono ?_
 rintro e w3 ⟨T',j',rfl,oT,kk⟩
 have OC:=zz (OC.out.kept kk (fun _ _ h=> h))
 have OT:=zz (show Own w3 w1.heap.size 23 1 T' 16 j' (ts.map (.int .u64)) from oT.base_le (by have:=K2.out.size;omega))
 have K3:=zz (K2.out.trans kk)
 clear oT kk K2
 refine hK.out _ _ (HSg.out _ K3.out) (fun hHeld=> ?_)
 clear hK K hHeld
 (try simp only [Zpt])
 have b3:=HB1.out.kept K3.out (fun h=> h)
 have q14:=b3.cell 14
 have q15:=b3.cell 15
 have f14:=b3.frozen 14
 have f15:=b3.frozen 15
 have BF:=zz ((b3.set 14 (.slice C' n k')).set 15 (.slice T' 16 j'))
 have kS:Keeps (· =X1) w3 ((w3.setCell ⟨X1,14,none⟩ (.slice C' n k')).setCell ⟨X1,15,none⟩ (.slice T' 16 j')):=Keeps.setCell (S:=(· =X1)) (p:=⟨X1,15,none⟩) (Keeps.setCell (S:=(· =X1)) (p:=⟨X1,14,none⟩) (Kz0 _ _) (.inl rfl) _) (.inl rfl) _
 have OC:=zz (OC.out.kept kS (fun b hb e=> by have:=(OC.out.inB hb).1;omega))
 have OT:=zz (OT.out.kept kS (fun b hb e=> by have:=(OT.out.inB hb).1;omega))
 have KF:=zz (K3.out.weak (S':=(· =X1)) (fun _ _ h=> h.elim) |>.trans kS)
 clear kS b3 HB1 K3
 refine Za2 (rs:= [7]) (by kernel_rfl) (by simp) (AllL.last rfl rfl (fun K hK=> ?_) AllL.nil)
 go_simp
 refine hK.out _ _ ?_
 clear hK K
 (try simp only [Zpt])
 refine tkF 8 ?_
 refine Za2 (rs:= [9]) (by kernel_rfl) (by simp) (AllL.last rfl rfl (fun K hK=> ?_) AllL.nil)
 go_simp
 refine hK.out _ _ ?_
 clear hK K
 (try simp only [Zpt])
 refine Zau (by kernel_rfl) ?_ _
 (try simp only [Zpt])
 exact⟨C',k',T',j',⟨BF.out,OC.out,OT.out,KF.out⟩,⟨_,_,_,_,_,_,_,_,rfl⟩⟩
def Zth (w:World) (c:Cfg) (n:Nat) (l:List (Int × Int)) (ts:List Int) (e:Ending) (w':World):Prop:=
 ∃C' k' T' j',e= .returned (Value.agg (cfC c C' n k' T' 16 j'))∧Own w' w.heap.size 35 2 C' n k' (clv l)∧Own w' w.heap.size 23 1 T' 16 j' (ts.map (.int .u64))∧Keeps NO w w'
theorem Zmt (w:World) (B:Nat) (c:Cfg) (C T:Option Addr) (n k j:Nat) (l:List (Int × Int)) (ts:List Int) (hr:Rd w B C 2 n (clv l)) (hT:Rd w B T 1 16 (ts.map (.int .u64))) (hB:B≤w.heap.size) (hn:n≤1000):
  Calls Tryz.prog 45 #[Value.agg (cfC c C n k T 16 j)] w (Zth w c n l ts):=by
 obtain⟨w2,hw2⟩:∃w2,w2=(w.alloc (.cells (cfC c C n k T 16 j) 27)).alloc (.cells #[.int .i64 0,.int .i64 0,.int .i64 0,.int .i64 0,.int .i64 0,.int .i64 0,.int .i64 0,.int .i64 0,.int .i64 0,.int .u64 0,.int .i64 0,.int .i64 0,.int .i64 0,.int .i64 0,.slice none 0 0,.slice none 0 0,.int .u64 0] 27):=⟨_,rfl⟩
 have k2:Keeps NO w w2:=by rw [hw2];exact((Kz0 _ _).alloc _).alloc _
 have B1:Hid (Blk w2 w.heap.size 27 (cfC c C n k T 16 j)):=zz (by rw [hw2];exact(Blk.new _ _ _).alloc _)
 have B2:Hid (Blk w2 (w.heap.size+1) 27 #[.int .i64 0,.int .i64 0,.int .i64 0,.int .i64 0,.int .i64 0,.int .i64 0,.int .i64 0,.int .i64 0,.int .i64 0,.int .u64 0,.int .i64 0,.int .i64 0,.int .i64 0,.int .i64 0,.slice none 0 0,.slice none 0 0,.int .u64 0]):=zz (by rw [hw2];exact Blk.new_at _ _ _ _ (by simp))
 have HR:=zz (hr.kept k2 (fun _ _ h=> h))
 have HT:=zz (hT.kept k2 (fun _ _ h=> h))
 have K2:=zz k2
 have HW:=zz hw2
 have hs2:w.heap.size+2≤w2.heap.size:=by rw [hw2];simp
 clear hw2 k2 hr hT
 go_enter Tryz.func45,Tryz.ntmps45
 go_upto_region 1 with fail
 rw [←HW.out]
 clear HW
 refine Code.wp_mono ?_ (Zmr w2 w.heap.size B c C T n k j l ts B1.out HR.out HT.out hB hn _ _ _ _ _ _ _ _ _ _ _)
 intro e a' w3 hex
 cases e <;> (first | exact hex.elim | skip)
 obtain⟨C',k',T',j',⟨b1,oC,oT,k3⟩,⟨u3,u4,u5,u6,u7,u8,u9,u10,rfl⟩⟩:=hex
 have B1:=zz b1
 have B2:=zz (B2.out.kept k3 (by omega))
 have OC:=zz oC
 have OT:=zz oT
 have K3:=zz (K2.out.step k3 (fun b hb e=> by omega))
 have hs3:=k3.size
 clear b1 oC oT k3 K2 HR HT
 try dsimp only
 go_wp2_with (first
  | (refine Zah _ rfl B1.out rfl (by rfl) ?_;simp only [Zpt])
  | (refine Zq5 (cs:=(cfC c C' n k' T' 16 j')) _ _ rfl B2.out (by kernel_rfl) rfl (by simp [Value.oneCell']) rfl rfl (by rfl) ?_;simp only [Zpt]))
 have kS:=Keeps.setRow w3 (w.heap.size+1) (cfC c C' n k' T' 16 j')
 have BR:=B2.out.row (cfC c C' n k' T' 16 j')
 refine bodyPost_ret (v:=Value.agg (cfC c C' n k' T' 16 j')) (by exact results_cell_row (p:=2) rfl _ _ (w.heap.size+1) _ _ (0,0) _ rfl BR Tryz.underlying27 rfl (by kernel_rfl)) rfl ?_
 exact⟨C',k',T',j',rfl,(OC.out.base_le (by omega)).kept kS (fun b hb e=> by have:=(OC.out.inB hb).1;omega),(OT.out.base_le (by omega)).kept kS (fun b hb e=> by have:=(OT.out.inB hb).1;omega),K3.out.step kS (fun b hb e=> by omega)⟩
end Go.Proofs.YtjamiaamngalgaaGreat
