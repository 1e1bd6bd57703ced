/-
  Parts: chain.free at int: one m. No conditions beyond those of the statement.
-/
import Derived.Test.YtjamiaamngalgaaGreatG04
import Derived.Test.YtjamiaamngalgaaGreatG35
set_option linter.unusedVariables false
set_option linter.unusedSimpArgs false
set_option maxRecDepth 1000000
set_option maxHeartbeats 4000000
namespace Go.Proofs.YtjamiaamngalgaaGreat
open Go.RowKit Cfp
namespace chI
noncomputable def rg7:Code:=((Tryz.f395.body.bind (findReg 7)).getD .skip)
theorem reg7 (w1:World) (B g n:Nat) (cs:Array Value) (UA NA PA:Option Addr) (uc nc pc:Nat) (us ns ps:List Value) (hb:Blk w1 g 530 cs) (hq:cs[4]?=some (.slice UA n uc)∧cs[5]?=some (.slice NA n nc)∧cs[6]?=some (.slice PA n pc))
  (oU:Own w1 B 4 1 UA n uc us) (oN:Own w1 B 3 1 NA n nc ns) (oP:Own w1 B 3 1 PA n pc ps) (hnp:∀q,inB NA q→¬inB PA q) (hn:n≤1000000) (hB:B≤w1.heap.size) (s1 s2 s3 s4 s5 s6 s7 s8 s9 s10 s11 s12 s13 s14 s15 s16 s17 s18 s19 s20 s21 s22 s23 s24 s25 s26 s27 s28 s29 s30 s31 s32 s33 s34 s35 s36 s37 s38 s39 s40 s41 s42 s43 s44 s45 s46 s47 s48 s49 s50 s51 s52 s53 s54 s55 s56 s57 s58 s59 s60 s61 s62 s63:Value):
  Code.wp Tryz.prog rg7 (NormPost fun a' w'=> (∃u19 u20 u21 u22 u23 u24 u25 u26 u27 u28 u29 u30 u31 u32 u33 u34 u35 u36 u37 u38 u39 u40 u41 u42 u43 u44 u45,a'=⟨#[.pointer (some ⟨g,0,none⟩),s1,s2,s3,s4,s5,s6,s7,s8,s9,s10,s11,s12,s13,s14,s15,s16,s17,s18,u19,u20,u21,u22,u23,u24,u25,u26,u27,u28,u29,u30,u31,u32,u33,u34,u35,u36,u37,u38,u39,u40,u41,u42,u43,u44,u45,s46,s47,s48,s49,s50,s51,s52,s53,s54,s55,s56,s57,s58,s59,s60,s61,s62,s63],[]⟩)∧Zn9 w1 B g 530 cs n UA NA PA us ns ps w') ⟨#[.pointer (some ⟨g,0,none⟩),s1,s2,s3,s4,s5,s6,s7,s8,s9,s10,s11,s12,s13,s14,s15,s16,s17,s18,s19,s20,s21,s22,s23,s24,s25,s26,s27,s28,s29,s30,s31,s32,s33,s34,s35,s36,s37,s38,s39,s40,s41,s42,s43,s44,s45,s46,s47,s48,s49,s50,s51,s52,s53,s54,s55,s56,s57,s58,s59,s60,s61,s62,s63],[]⟩ w1:=by
 have HFin:=zz (fun w8 A8 c8 A14 c14 A21 c21=> Zgd (w8:=w8) (A8:=A8) (c8:=c8) (A14:=A14) (c14:=c14) (A21:=A21) (c21:=c21) hb (by decide) oU oN oP)
 have HG:Hid (¬(inB UA g∨inB NA g∨inB PA g)):=zz (by
  rintro(e | e | e)
  ·exact oU.ne_blk hb (by decide) e rfl
  ·exact oN.ne_blk hb (by decide) e rfl
  ·exact oP.ne_blk hb (by decide) e rfl)
 have c4:=(hb.cell 4).trans hq.1
 have c5:=(hb.cell 5).trans hq.2.1
 have c6:=(hb.cell 6).trans hq.2.2
 have HSg:Hid (∀W,Keeps (fun q=> inB UA q∨inB NA q∨inB PA q) w1 W→(W.cell? ⟨g,4,none⟩=some (.slice UA n uc)∧W.cell? ⟨g,5,none⟩=some (.slice NA n nc)∧W.cell? ⟨g,6,none⟩=some (.slice PA n pc))):=zz (fun W kW=> ⟨kW.cell_some c4 HG.out,kW.cell_some c5 HG.out,kW.cell_some c6 HG.out⟩)
 have HR:=zz hb
 have HQ:=zz hq
 have HNP:=zz hnp
 have k0:Keeps (fun q=> inB UA q∨inB NA q∨inB PA q) w1 w1.drew:=(Kz0 _ _).drew
 have OU:Hid (Own w1.drew B 4 1 UA n uc us):=zz (oU.kept ((Kz0 NO w1).drew) (fun _ _ h=> h))
 have ON:Hid (Own w1.drew B 3 1 NA n nc ns):=zz (oN.kept ((Kz0 NO w1).drew) (fun _ _ h=> h))
 have OP:Hid (Own w1.drew B 3 1 PA n pc ps):=zz (oP.kept ((Kz0 NO w1).drew) (fun _ _ h=> h))
 have KK:=zz k0
 clear hb hq oU oN oP hnp c4 c5 c6 k0
 conv=> arg 2;whnf
 dsimp only
 refine Zat (fun k=> k==23||k==26||k==29) (S:=fun W=> W.cell? ⟨g,4,none⟩=some (.slice UA n uc)∧W.cell? ⟨g,5,none⟩=some (.slice NA n nc)∧W.cell? ⟨g,6,none⟩=some (.slice PA n pc)) (by kernel_rfl) (HSg.out _ KK.out) (fun hHeld=> ?_)
 refine tkL 0 ?_
 refine tkL 3 ?_
 refine tkL 4 ?_
 refine tkL 5 ?_
 refine tkL 6 ?_
 refine tkL 9 ?_
 refine tkL 10 ?_
 refine tkL 11 ?_
 refine tkL 12 ?_
 refine tkL 15 ?_
 refine tkL 16 ?_
 refine tkL 17 ?_
 refine tkL 18 ?_
 refine tkF 1 ?_
 refine tkF 2 ?_
 obtain⟨wc,hwc⟩:∃x,x=w1.drew:=⟨_,rfl⟩
 rw [←hwc] at OU ON OP KK
 rw [←hwc]
 clear hwc hHeld
 repeat'
  first
  | (
    (with_reducible have h9:Shut (∀a w',_→(_→Zai _ _ _ _ _ _ _ (Array.setIfInBounds _ 7 true) a w')→K a w'):=hK)
    clear h9
    go_simp
    obtain⟨gU,hg⟩:∃g,g=wc.heap.size:=⟨_,rfl⟩
    obtain⟨wn,hwn⟩:∃x,x=wc.alloc (.cells #[.bool false] 4):=⟨_,rfl⟩
    have k0:Keeps NO wc wn:=by rw [hwn];exact(Kz0 _ _).alloc _
    have OU:=zz (OU.out.kept k0 (fun _ _ h=> h))
    have ON:=zz (ON.out.kept k0 (fun _ _ h=> h))
    have OP:=zz (OP.out.kept k0 (fun _ _ h=> h))
    try (have LN:=zz (LN.out.kept k0 (fun _ _ h=> h)))
    try (have LP:=zz (LP.out.kept k0 (fun _ _ h=> h)))
    have KK:=zz (KK.out.step0 k0)
    have LU:Hid (Own wn 0 4 1 (some ⟨gU,0,none⟩) 1 1 [.bool false]):=zz (by rw [hwn];exact Own.new_at wc 0 _ #[.bool false] 1 1 gU hg (Nat.zero_le _) (by simp [maxLen]) rfl)
    rw [←hwn,←hg]
    refine hK.out _ _ (HSg.out _ KK.out) (fun _=> ?_)
    clear hK K hg hwn k0
    obtain⟨wc,rfl⟩:∃x:World,x=wn:=⟨_,rfl⟩
    (try simp only [Zpt])
    skip)
  | (
    (with_reducible have h9:Shut (∀a w',_→(_→Zai _ _ _ _ _ _ _ (Array.setIfInBounds _ 8 true) a w')→K a w'):=hK)
    clear h9
    refine Zao _ Zil (by rfl) (.tmp 25) (.tmp 26) (by rfl) B (A:=UA) (n:=n) (c:=uc) us (by simp [Act.eval,Act.put]) OU.out _ (A2:=some ⟨gU,0,none⟩) (m:=1) (c2:=1) [.bool false] (by simp [Act.eval,Act.put]) (LU.out.rd (by omega)) (by simp [Value.oneCell']) (by simp only [maxLen];omega) (by omega) (by have:=KK.out.size;omega) ?_
    intro AU cU wn o8 k8 hA8
    have ON:=zz (ON.out.kept k8 (fun q hq e=> OU.out.ne ON.out (by decide) e hq))
    try (have LN:=zz (LN.out.kept k8 (fun q hq e=> OU.out.ne LN.out (by decide) e hq)))
    have OP:=zz (OP.out.kept k8 (fun q hq e=> OU.out.ne OP.out (by decide) e hq))
    try (have LP:=zz (LP.out.kept k8 (fun q hq e=> OU.out.ne LP.out (by decide) e hq)))
    have HU:Hid (∀q,inB AU q→inB UA q∨w1.heap.size≤q):=zz (fun q hq=> (hA8 q hq).imp id (fun h=> by have:=KK.out.size;omega))
    have KK:=zz (KK.out.step k8 (fun q hq e=> .inl e))
    have OU:=zz o8
    clear o8 k8 hA8 LU
    refine hK.out _ _ (HSg.out _ KK.out) (fun _=> ?_)
    clear hK K
    obtain⟨wc,rfl⟩:∃x:World,x=wn:=⟨_,rfl⟩
    (try simp only [Zpt])
    skip)
  | (
    (with_reducible have h9:Shut (∀a w',_→(_→Zai _ _ _ _ _ _ _ (Array.setIfInBounds _ 13 true) a w')→K a w'):=hK)
    clear h9
    go_simp
    obtain⟨gN,hg⟩:∃g,g=wc.heap.size:=⟨_,rfl⟩
    obtain⟨wn,hwn⟩:∃x,x=wc.alloc (.cells #[.int .i64 (-1)] 3):=⟨_,rfl⟩
    have k0:Keeps NO wc wn:=by rw [hwn];exact(Kz0 _ _).alloc _
    try (have MN:Hid (∀q,inB PA q→q≠gN):=zz (fun q hq=> by have:=OP.out.inB hq;omega))
    have OU:=zz (OU.out.kept k0 (fun _ _ h=> h))
    have ON:=zz (ON.out.kept k0 (fun _ _ h=> h))
    have OP:=zz (OP.out.kept k0 (fun _ _ h=> h))
    try (have LU:=zz (LU.out.kept k0 (fun _ _ h=> h)))
    try (have LP:=zz (LP.out.kept k0 (fun _ _ h=> h)))
    have KK:=zz (KK.out.step0 k0)
    have LN:Hid (Own wn 0 3 1 (some ⟨gN,0,none⟩) 1 1 [.int .i64 (-1)]):=zz (by rw [hwn];exact Own.new_at wc 0 _ #[.int .i64 (-1)] 1 1 gN hg (Nat.zero_le _) (by simp [maxLen]) rfl)
    rw [←hwn,←hg]
    refine hK.out _ _ (HSg.out _ KK.out) (fun _=> ?_)
    clear hK K hg hwn k0
    obtain⟨wc,rfl⟩:∃x:World,x=wn:=⟨_,rfl⟩
    (try simp only [Zpt])
    skip)
  | (
    (with_reducible have h9:Shut (∀a w',_→(_→Zai _ _ _ _ _ _ _ (Array.setIfInBounds _ 14 true) a w')→K a w'):=hK)
    clear h9
    refine Zao _ Zcm (by rfl) (.tmp 31) (.tmp 32) (by rfl) B (A:=NA) (n:=n) (c:=nc) ns (by simp [Act.eval,Act.put]) ON.out _ (A2:=some ⟨gN,0,none⟩) (m:=1) (c2:=1) [.int .i64 (-1)] (by simp [Act.eval,Act.put]) (LN.out.rd (by omega)) (by simp [Value.oneCell']) (by simp only [maxLen];omega) (by omega) (by have:=KK.out.size;omega) ?_
    intro AN cN wn o8 k8 hA8
    have HNPo:=zz HNP.out
    have HNP:=zz (fun q (hq:inB AN q) e=> (hA8 q hq).elim (fun h=> HNP.out q h e) (fun h=> by have:=OP.out.inB e;omega))
    have OU:=zz (OU.out.kept k8 (fun q hq e=> ON.out.ne OU.out (by decide) e hq))
    try (have LU:=zz (LU.out.kept k8 (fun q hq e=> ON.out.ne LU.out (by decide) e hq)))
    have OP:=zz (OP.out.kept k8 (fun q hq e=> HNPo.out q e hq))
    try (have LP:=zz (LP.out.kept k8 (fun q hq e=> MP.out q e ((Za0 _ _ _).1 hq).symm)))
    have HN:Hid (∀q,inB AN q→inB NA q∨w1.heap.size≤q):=zz (fun q hq=> (hA8 q hq).imp id (fun h=> by have:=KK.out.size;omega))
    have KK:=zz (KK.out.step k8 (fun q hq e=> .inr (.inl e)))
    have ON:=zz o8
    clear o8 k8 hA8 LN
    refine hK.out _ _ (HSg.out _ KK.out) (fun _=> ?_)
    clear hK K
    obtain⟨wc,rfl⟩:∃x:World,x=wn:=⟨_,rfl⟩
    (try simp only [Zpt])
    skip)
  | (
    (with_reducible have h9:Shut (∀a w',_→(_→Zai _ _ _ _ _ _ _ (Array.setIfInBounds _ 19 true) a w')→K a w'):=hK)
    clear h9
    go_simp
    obtain⟨gP,hg⟩:∃g,g=wc.heap.size:=⟨_,rfl⟩
    obtain⟨wn,hwn⟩:∃x,x=wc.alloc (.cells #[.int .i64 (-1)] 3):=⟨_,rfl⟩
    have k0:Keeps NO wc wn:=by rw [hwn];exact(Kz0 _ _).alloc _
    try (have MP:Hid (∀q,inB NA q→q≠gP):=zz (fun q hq=> by have:=ON.out.inB hq;omega))
    have OU:=zz (OU.out.kept k0 (fun _ _ h=> h))
    have ON:=zz (ON.out.kept k0 (fun _ _ h=> h))
    have OP:=zz (OP.out.kept k0 (fun _ _ h=> h))
    try (have LU:=zz (LU.out.kept k0 (fun _ _ h=> h)))
    try (have LN:=zz (LN.out.kept k0 (fun _ _ h=> h)))
    have KK:=zz (KK.out.step0 k0)
    have LP:Hid (Own wn 0 3 1 (some ⟨gP,0,none⟩) 1 1 [.int .i64 (-1)]):=zz (by rw [hwn];exact Own.new_at wc 0 _ #[.int .i64 (-1)] 1 1 gP hg (Nat.zero_le _) (by simp [maxLen]) rfl)
    rw [←hwn,←hg]
    refine hK.out _ _ (HSg.out _ KK.out) (fun _=> ?_)
    clear hK K hg hwn k0
    obtain⟨wc,rfl⟩:∃x:World,x=wn:=⟨_,rfl⟩
    (try simp only [Zpt])
    skip)
  | (
    (with_reducible have h9:Shut (∀a w',_→(_→Zai _ _ _ _ _ _ _ (Array.setIfInBounds _ 20 true) a w')→K a w'):=hK)
    clear h9
    refine Zao _ Zcm (by rfl) (.tmp 37) (.tmp 38) (by rfl) B (A:=PA) (n:=n) (c:=pc) ps (by simp [Act.eval,Act.put]) OP.out _ (A2:=some ⟨gP,0,none⟩) (m:=1) (c2:=1) [.int .i64 (-1)] (by simp [Act.eval,Act.put]) (LP.out.rd (by omega)) (by simp [Value.oneCell']) (by simp only [maxLen];omega) (by omega) (by have:=KK.out.size;omega) ?_
    intro AP cP wn o8 k8 hA8
    have HNPo:=zz HNP.out
    have HNP:=zz (fun q hq (e:inB AP q)=> (hA8 q e).elim (HNP.out q hq) (fun h=> by have:=ON.out.inB hq;omega))
    have OU:=zz (OU.out.kept k8 (fun q hq e=> OP.out.ne OU.out (by decide) e hq))
    try (have LU:=zz (LU.out.kept k8 (fun q hq e=> OP.out.ne LU.out (by decide) e hq)))
    have ON:=zz (ON.out.kept k8 (fun q hq e=> HNPo.out q hq e))
    try (have LN:=zz (LN.out.kept k8 (fun q hq e=> MN.out q e ((Za0 _ _ _).1 hq).symm)))
    have HP:Hid (∀q,inB AP q→inB PA q∨w1.heap.size≤q):=zz (fun q hq=> (hA8 q hq).imp id (fun h=> by have:=KK.out.size;omega))
    have KK:=zz (KK.out.step k8 (fun q hq e=> .inr (.inr e)))
    have OP:=zz o8
    clear o8 k8 hA8 LP
    refine hK.out _ _ (HSg.out _ KK.out) (fun _=> ?_)
    clear hK K
    obtain⟨wc,rfl⟩:∃x:World,x=wn:=⟨_,rfl⟩
    (try simp only [Zpt])
    skip)
  | refine Za2 (rs:= [7,13,19]) (by decide+kernel) (by simp) (AllL.cons rfl (fun K hK=> ?_) (AllL.cons rfl (fun K hK=> ?_) (AllL.cons rfl (fun K hK=> ?_) AllL.nil)))
  | refine Za2 (rs:= [8,13,19]) (by decide+kernel) (by simp) (AllL.cons rfl (fun K hK=> ?_) (AllL.cons rfl (fun K hK=> ?_) (AllL.cons rfl (fun K hK=> ?_) AllL.nil)))
  | refine Za2 (rs:= [13,19]) (by decide+kernel) (by simp) (AllL.cons rfl (fun K hK=> ?_) (AllL.cons rfl (fun K hK=> ?_) AllL.nil))
  | refine Za2 (rs:= [14,19]) (by decide+kernel) (by simp) (AllL.cons rfl (fun K hK=> ?_) (AllL.cons rfl (fun K hK=> ?_) AllL.nil))
  | refine Za2 (rs:= [19]) (by decide+kernel) (by simp) (AllL.cons rfl (fun K hK=> ?_) AllL.nil)
  | refine Za2 (rs:= [20]) (by decide+kernel) (by simp) (AllL.cons rfl (fun K hK=> ?_) AllL.nil)
  | refine Za2 (rs:= [14]) (by decide+kernel) (by simp) (AllL.cons rfl (fun K hK=> ?_) AllL.nil)
  | refine Za2 (rs:= [13]) (by decide+kernel) (by simp) (AllL.cons rfl (fun K hK=> ?_) AllL.nil)
  | refine Za2 (rs:= [8,19]) (by decide+kernel) (by simp) (AllL.cons rfl (fun K hK=> ?_) (AllL.cons rfl (fun K hK=> ?_) AllL.nil))
  | refine Za2 (rs:= [8]) (by decide+kernel) (by simp) (AllL.cons rfl (fun K hK=> ?_) AllL.nil)
  | refine Za2 (rs:= [8,13]) (by decide+kernel) (by simp) (AllL.cons rfl (fun K hK=> ?_) (AllL.cons rfl (fun K hK=> ?_) AllL.nil))
  | refine Za2 (rs:= [7,19]) (by decide+kernel) (by simp) (AllL.cons rfl (fun K hK=> ?_) (AllL.cons rfl (fun K hK=> ?_) AllL.nil))
  | refine Za2 (rs:= [7]) (by decide+kernel) (by simp) (AllL.cons rfl (fun K hK=> ?_) AllL.nil)
  | refine Za2 (rs:= [7,13]) (by decide+kernel) (by simp) (AllL.cons rfl (fun K hK=> ?_) (AllL.cons rfl (fun K hK=> ?_) AllL.nil))
  | (
    have b8:=HR.out.kept KK.out (fun e=> HG.out e)
    have f4:=b8.frozen 4
    have f5:=b8.frozen 5
    have f6:=b8.frozen 6
    have d4:=(b8.cell 4).trans HQ.out.1
    have d5:=(b8.cell 5).trans HQ.out.2.1
    have d6:=(b8.cell 6).trans HQ.out.2.2
    have hpl8:=b8.lt
    clear b8
    refine tkF 21 ?_
    refine tkF 22 ?_
    refine Za2 (rs:= [23]) (by kernel_rfl) (by simp) (AllL.last rfl rfl (fun K hK=> ?_) AllL.nil)
    go_simp
    refine hK.out _ _ ?_
    clear hK K
    (try simp only [Zpt])
    refine tkF 24 ?_
    refine tkF 25 ?_
    refine Za2 (rs:= [26]) (by kernel_rfl) (by simp) (AllL.last rfl rfl (fun K hK=> ?_) AllL.nil)
    go_simp
    refine hK.out _ _ ?_
    clear hK K
    (try simp only [Zpt])
    refine tkF 27 ?_
    refine tkF 28 ?_
    refine Za2 (rs:= [29]) (by kernel_rfl) (by simp) (AllL.last rfl rfl (fun K hK=> ?_) AllL.nil)
    go_simp
    refine hK.out _ _ ?_
    clear hK K
    (try simp only [Zpt])
    refine Zau (by kernel_rfl) ?_ _
    (try simp only [Zpt])
    refine show _∧_ from⟨⟨_,_,_,_,_,_,_,_,_,_,_,_,_,_,_,_,_,_,_,_,_,_,_,_,_,_,_,rfl⟩,?_⟩
    exact HFin.out wc AU cU AN cN AP cP KK.out OU.out HU.out ON.out HN.out OP.out HP.out HNP.out
    skip)
end chI
end Go.Proofs.YtjamiaamngalgaaGreat
