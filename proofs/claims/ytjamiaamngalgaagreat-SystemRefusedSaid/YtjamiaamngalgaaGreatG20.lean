/-
  Parts: shard.New; cluster.New: a configura; The ledger's other answe; clock of a valid configu; cluster.judge of an i. No conditions beyond those of the statement.
-/
import Derived.Test.YtjamiaamngalgaaGreatG00
import Derived.Test.YtjamiaamngalgaaGreatG19
import Derived.Test.YtjamiaamngalgaaGreatG13
import Derived.Test.YtjamiaamngalgaaGreatG10
import Derived.Test.YtjamiaamngalgaaGreatG12
import Derived.Test.YtjamiaamngalgaaGreatG16
import Derived.Test.YtjamiaamngalgaaGreatG14
set_option linter.unusedVariables false
set_option linter.unusedSimpArgs false
set_option maxRecDepth 1000000
set_option maxHeartbeats 4000000
namespace Go.Proofs.YtjamiaamngalgaaGreat
open Go.RowKit Cfp
structure ShB (w:World) (B s a p q M:Nat) (c:Cfg) (C T:Option Addr) (n k j:Nat):Prop where
 le:B≤s∧B≤M
 blk:Blk w s 157 #[.pointer (some ⟨a,0,none⟩),.pointer (some ⟨p,0,none⟩),.int .i64 c.length,.int .i64 c.lateness,.int .i64 c.windows,.int .i64 c.shards,.int .i64 c.spread,.int .i64 c.queue,.int .i64 c.mode,.int .i64 c.slots,.int .i64 c.exact_,.int .u64 c.promote,.int .i64 c.depth,.int .i64 c.width,.int .i64 c.top,.int .i64 c.key,.slice C n k,.slice T 16 j,.int .u64 c.seed,.pointer (some ⟨q,0,none⟩),.map (some M)]
 map:w.heap[M]?=some (.map #[] 0)
theorem ShB.kept {w w':World} {B s a p q M:Nat} {c:Cfg} {C T:Option Addr} {n k j:Nat} {S:Nat→Prop} (h:ShB w B s a p q M c C T n k j) (kk:Keeps S w w') (h1:¬S s) (h2:¬S M):ShB w' B s a p q M c C T n k j:=
 ⟨h.le,h.blk.kept kk h1,(kk.block M (lt_of_block h.map) h2).trans h.map⟩
def Zvg (w:World) (a p:Nat) (c:Cfg) (C T:Option Addr) (n k j:Nat) (e:Ending) (w':World):Prop:=
 ∃s q G M,e= .returned (.tuple #[.pointer (some ⟨s,0,none⟩),.int .i64 0])∧ShB w' w.heap.size s a p q M c C T n k j∧IsQ w' w.heap.size q a p G c.queue.toNat [] (List.replicate c.queue.toNat Wt.zero)∧Keeps NO w w'
theorem Zki (w:World) (a p:Nat) (c:Cfg) (C T:Option Addr) (n k j:Nat) (h1:1≤c.queue) (h2:c.queue≤64):
  Calls Tryz.prog 14 #[.pointer (some ⟨a,0,none⟩),.pointer (some ⟨p,0,none⟩),Value.agg (cfC c C n k T 16 j)] w (Zvg w a p c C T n k j):=by
 obtain⟨qn,hq⟩:∃qn:Nat,c.queue=(qn:Int):=⟨c.queue.toNat,by omega⟩
 have HQn:=zz hq
 have hmm:∀w,(Instr.makeMap 155 none).run Tryz.prog w= .ok (.map (some w.heap.size)) (w.alloc (.map #[] 0)):=fun w=> run_makeMap _ w
 obtain⟨w1,hw1⟩:∃w1,w1=w.alloc (.cells (cfC c C n k T 16 j) 27):=⟨_,rfl⟩
 have k1:Keeps NO w w1:=by rw [hw1];exact(Kz0 _ _).alloc _
 have B1:Hid (Blk w1 w.heap.size 27 (cfC c C n k T 16 j)):=zz (by rw [hw1];exact Blk.new _ _ _)
 have q5:w1.cell? ⟨w.heap.size,5,none⟩=some (.int .i64 (qn:Int)):=by rw [←hq];exact B1.out.cell 5
 have K1:=zz k1
 have HW:=zz hw1
 clear hw1 k1 hq
 go_enter Tryz.func14,Tryz.ntmps14
 go_upto_region 1 with fail
 rw [←HW.out]
 clear HW
 go_wp2_with fail
 refine(Zri w1 a p qn (by have:=HQn.out;omega) (by have:=HQn.out;omega)).mono ?_
 rintro e w2 ⟨q,G,rfl,iq,kq⟩
 have B2:=zz (B1.out.kept kq (fun h=> h))
 have K2:=zz (K1.out.trans kq)
 have kM:=(Kz0 NO w2).alloc (.map #[] 0)
 have B3:=zz (B2.out.kept kM (fun h=> h))
 have hs2:=K2.out.size
 have hsw:=K1.out.size
 have IQ:=zz (iq.quiet kM)
 have HM:Hid ((w2.alloc (.map #[] 0)).heap[w2.heap.size]?=some (.map #[] 0)):=zz (heap_alloc_new w2 _)
 have K3:=zz (K2.out.trans kM)
 clear kq iq kM K2 q5
 go_wp2_with (first
  | (refine Zah _ rfl B2.out rfl (by rfl) ?_;simp only [Zpt])
  | (refine Zah _ rfl B3.out rfl (by rfl) ?_;simp only [Zpt]))
 go_ret2
 have hq:=HQn.out
 have hqt:c.queue.toNat=qn:=by omega
 unfold Zvg
 rw [hqt]
 have kB:=(Kz0 NO (w2.alloc (.map #[] 0))).alloc (.cells #[.pointer (some ⟨a,0,none⟩),.pointer (some ⟨p,0,none⟩),.int .i64 c.length,.int .i64 c.lateness,.int .i64 c.windows,.int .i64 c.shards,.int .i64 c.spread,.int .i64 c.queue,.int .i64 c.mode,.int .i64 c.slots,.int .i64 c.exact_,.int .u64 c.promote,.int .i64 c.depth,.int .i64 c.width,.int .i64 c.top,.int .i64 c.key,.slice C n k,.slice T 16 j,.int .u64 c.seed,.pointer (some ⟨q,0,none⟩),.map (some w2.heap.size)] 157)
 have iq:=IQ.out.quiet kB
 have kk:=K3.out.trans kB
 refine⟨_,q,G,w2.heap.size,rfl,⟨⟨by omega,by omega⟩,?_,?_⟩,⟨?_,iq.blk,iq.own.base_le (by omega)⟩,kk⟩
 ·exact Blk.new_at _ _ _ _ (by simp)
 ·exact(kB.block _ (lt_of_block HM.out) (fun h=> h)).trans HM.out
 ·have:=iq.le;omega
open Go.RowKit Cfp
theorem Zhq {w:World} {c:Cfg} {C T:Option Addr} {n k q j g off:Nat} (hc:∀i v,((cfC c C n k T q j):Array Value).toList[i]?=some v→w.cell? ⟨g,off+i,none⟩=some v):
  (loadVar 27 ⟨g,off,none⟩).run Tryz.prog w= .ok (Value.agg (cfC c C n k T q j)) w:=by
 have hl:=run_loadCells_list (P:=Tryz.prog) w ⟨g,off,none⟩ ((cfC c C n k T q j):Array Value).toList (fun i v hv=> by rw [Addr.add_lit];exact hc i v hv)
 have hi:(Tryz.prog.info? 27).map (·.size)=some 17:=by kernel_rfl
 have hagg:(isAgg 27).run Tryz.prog w= .ok true w:=by
  unfold isAgg
  rw [Sem.run_bind,run_underlying Tryz.underlying27 w]
  rfl
 cases hq:Tryz.prog.info? 27 with
 | none=> rw [hq] at hi;simp at hi
 | some i=>
   have hs:i.size=17:=by rw [hq] at hi;simpa using hi
   simp only [Array.length_toList,Array.toArray_toList,List.size_toArray,List.length_cons,List.length_nil] at hl
   simp [loadVar,Sem.run_bind,hagg,sizeOf,typeInfo,hq,hs]
   first | (rw [hl];rfl) | simp [hl]
theorem Zal {ops:Array Oper} {S:World→Prop} {o:Oper} {a:Act} {c:Cfg} {C T:Option Addr} {n k q j g off:Nat} (x:Operand) (ho:o.op= .load 27 x)
  (hS:∀w',S w'→∀i v,((cfC c C n k T q j):Array Value).toList[i]?=some v→w'.cell? ⟨g,off+i,none⟩=some v) (hx:a.eval x= .pointer (some ⟨g,off,none⟩)) (hw:Region.wanted o (yielded ops a.tmps)=true):
  YieldsIf Tryz.prog ops S o (Value.agg (cfC c C n k T q j)) a:=by
 refine .inl ⟨hw,fun w h=> ?_⟩
 have hr:=Zhq (hS w h)
 unfold execOp
 simp only [ho,hx,Instr.loadAt,Instr.sureAddr,Sem.run_bind,Sem.run_pure,Result.andThen_ok,hr]
abbrev cluC (c:Cfg) (C T:Option Addr) (n k j:Nat) (ar:Value) (SA:Option Addr) (ns cap:Nat) (led:Nat) (st:Option Addr) (sn sc:Nat) (skip:Int) (br:Bool) (wm:Int):Array Value:=
 #[.int .i64 c.length,.int .i64 c.lateness,.int .i64 c.windows,.int .i64 c.shards,.int .i64 c.spread,.int .i64 c.queue,.int .i64 c.mode,.int .i64 c.slots,.int .i64 c.exact_,.int .u64 c.promote,.int .i64 c.depth,.int .i64 c.width,.int .i64 c.top,.int .i64 c.key,.slice C n k,.slice T 16 j,.int .u64 c.seed,ar,.slice SA ns cap,.pointer (some ⟨led,0,none⟩),.slice st sn sc,.int .u64 skip,.bool br,.int .i64 wm]
noncomputable def Zvy:Code:=((Tryz.f9.body.bind (findReg 9)).getD .skip)
def Zps (w1:World) (a:Nat) (N:Int) (p:Nat) (w':World):Prop:=
 ∃B g mb,w1.heap.size≤B∧IsPo w' B p a N [PE.zero] (some ⟨g,0,none⟩) 1 mb (.map [])∧Keeps NO w1 w'
theorem Zo7 (w1:World) (X1 kc a:Nat) (c:Cfg) (C T:Option Addr) (n k j:Nat) (hf:Fine c) (HTr:Hid (∀W,Keeps NO w1 W→Calls Tryz.prog 47 #[Value.agg (cfC c C n k T 16 j)] W fun e w'=> e= .returned (.int .i64 (Za4 c))∧Keeps NO W w'))
  (b1:Blk w1 X1 27 (cfC c C n k T 16 j)) (b5:w1.cell? ⟨kc,17,none⟩=some (.pointer (some ⟨a,0,none⟩))) (s0 s2 s3 s4 s6 s7 s8 s9 s10 s11 s12 s13 s14 s15 s16 s17 s18 s19 s20 s21 s22 s23 s24 s25 s26 s27 s28 s29 s30 s31 s32 s33 s34 s35 s36 s37 s38 s39 s40 s41 s42 s43 s44 s45 s46 s47 s48 s49 s50 s51 s52 s53 s54 s55 s56 s57 s58 s59 s60 s61 s62 s63 s64 s65 s66 s67 s68 s69 s70 s71 s72 s73 s74 s75 s76 s77 s78 s79 s80 s81 s82:Value):
  Code.wp Tryz.prog Zvy (NormPost fun a' w'=> ∃p,Zps w1 a (Za4 c+c.shards*c.queue) p w'∧(∃u32 u33 u34 u35 u36 u37 u38 u39 u40 u41 u42 u43 u44 u45 u46 u47:Value,a'=⟨#[s0,.pointer (some ⟨X1,0,none⟩),s2,s3,s4,.pointer (some ⟨kc,0,none⟩),.int .i64 0,.pointer (some ⟨p,0,none⟩),s8,s9,s10,s11,s12,s13,s14,s15,s16,s17,s18,s19,s20,s21,s22,s23,s24,s25,s26,s27,s28,s29,s30,s31,u32,u33,u34,u35,u36,u37,u38,u39,u40,u41,u42,u43,u44,u45,u46,u47,s48,s49,s50,s51,s52,s53,s54,s55,s56,s57,s58,s59,s60,s61,s62,s63,s64,s65,s66,s67,s68,s69,s70,s71,s72,s73,s74,s75,s76,s77,s78,s79,s80,s81,s82],[]⟩)) ⟨#[s0,.pointer (some ⟨X1,0,none⟩),s2,s3,s4,.pointer (some ⟨kc,0,none⟩),s6,s7,s8,s9,s10,s11,s12,s13,s14,s15,s16,s17,s18,s19,s20,s21,s22,s23,s24,s25,s26,s27,s28,s29,s30,s31,s32,s33,s34,s35,s36,s37,s38,s39,s40,s41,s42,s43,s44,s45,s46,s47,s48,s49,s50,s51,s52,s53,s54,s55,s56,s57,s58,s59,s60,s61,s62,s63,s64,s65,s66,s67,s68,s69,s70,s71,s72,s73,s74,s75,s76,s77,s78,s79,s80,s81,s82],[]⟩ w1:=by
 have h1:=hf.shards
 have h2:=hf.windows
 have h3:=hf.slots
 have h4:=hf.exact_
 have h5:=hf.queue
 have m1:1≤c.shards*c.queue∧c.shards*c.queue≤512:=⟨by have:=Int.mul_le_mul h1.1 h5.1 (by omega) (by omega);omega,by have:=Int.mul_le_mul h1.2 h5.2 (by omega) (by omega);omega⟩
 have m2:0≤Za4 c∧Za4 c≤6144:=by
  unfold Za4
  have a1:0≤c.shards*c.windows∧c.shards*c.windows≤64:=⟨Int.mul_nonneg (by omega) (by omega),by have:=Int.mul_le_mul h1.2 h2.2 (by omega) (by omega);omega⟩
  exact⟨Int.mul_nonneg a1.1 (by omega),by have:=Int.mul_le_mul a1.2 (show c.slots+c.exact_≤96 by omega) (by omega) (by omega);omega⟩
 have wm:IntKind.i64.wrap (c.shards*c.queue)=c.shards*c.queue:=IntWalk.i64_in _ (by omega)
 have wa:IntKind.i64.wrap (Za4 c+c.shards*c.queue)=Za4 c+c.shards*c.queue:=IntWalk.i64_in _ (by omega)
 have HSg:Hid (∀W,Keeps NO w1 W→(Blk W X1 27 (cfC c C n k T 16 j)∧W.cell? ⟨kc,17,none⟩=some (.pointer (some ⟨a,0,none⟩)))∧W.cell? ⟨X1,3,none⟩=some (.int .i64 c.shards)∧W.cell? ⟨X1,5,none⟩=some (.int .i64 c.queue)):=zz (fun W kW=> ⟨⟨b1.kept kW (fun h=> h),kW.cell_some b5 (fun h=> h)⟩,(b1.kept kW (fun h=> h)).cell 3,(b1.kept kW (fun h=> h)).cell 5⟩)
 have k0:Keeps NO w1 w1.drew:=(Kz0 _ _).drew
 have KK:=zz k0
 clear b1 b5 k0 h1 h2 h3 h4 h5 hf
 conv=> arg 2;whnf
 dsimp only
 refine wp_region_held_drew (S:=fun W=> (Blk W X1 27 (cfC c C n k T 16 j)∧W.cell? ⟨kc,17,none⟩=some (.pointer (some ⟨a,0,none⟩)))∧W.cell? ⟨X1,3,none⟩=some (.int .i64 c.shards)∧W.cell? ⟨X1,5,none⟩=some (.int .i64 c.queue)) (by kernel_rfl) (HSg.out _ KK.out) (fun hHeld=> ?_)
 refine tkH 0 ?_ (hy:=by intro w hSw; (try dsimp only at hSw);obtain⟨⟨hS1,hS2⟩,hS3,hS4⟩:=hSw;clear hS1;go_simp;try (with_reducible rfl))
 refine tkH 1 ?_ (hy:=by intro w hSw; (try dsimp only at hSw);obtain⟨⟨hS1,hS2⟩,hS3,hS4⟩:=hSw;clear hS1;go_simp;try (with_reducible rfl))
 refine tkH 2 ?_ (hy:=by intro w hSw; (try dsimp only at hSw);obtain⟨⟨hS1,hS2⟩,hS3,hS4⟩:=hSw;clear hS1;go_simp;try (with_reducible rfl))
 refine tkH 3 ?_ (hy:=by intro w hSw; (try dsimp only at hSw);obtain⟨⟨hS1,hS2⟩,hS3,hS4⟩:=hSw;clear hS1;go_simp;try (with_reducible rfl))
 refine tkH 6 ?_ (hy:=by intro w hSw; (try dsimp only at hSw);obtain⟨⟨hS1,hS2⟩,hS3,hS4⟩:=hSw;clear hS1;go_simp;try (with_reducible rfl))
 refine tkH 7 ?_ (hy:=by intro w hSw; (try dsimp only at hSw);obtain⟨⟨hS1,hS2⟩,hS3,hS4⟩:=hSw;clear hS1;go_simp;try (with_reducible rfl))
 refine tkH 8 ?_ (hy:=by intro w hSw; (try dsimp only at hSw);obtain⟨⟨hS1,hS2⟩,hS3,hS4⟩:=hSw;clear hS1;go_simp;try (with_reducible rfl))
 refine tkH 9 ?_ (hy:=by intro w hSw; (try dsimp only at hSw);obtain⟨⟨hS1,hS2⟩,hS3,hS4⟩:=hSw;clear hS1;go_simp;try (with_reducible rfl))
 refine tkH 10 ?_ (hy:=by intro w hSw; (try dsimp only at hSw);obtain⟨⟨hS1,hS2⟩,hS3,hS4⟩:=hSw;clear hS1;go_simp;try (with_reducible rfl))
 refine wpAnyH_take (i:=4) (v:=_) rfl (by kernel_rfl) (by kernel_rfl) (by kernel_rfl) (fun _ _ _ h=> h) (Zbg (c:=c) (C:=C) (T:=T) (n:=n) (k:=k) (q:=16) (j:=j) (g:=X1) (.tmp 1) rfl (fun _ h=> h.1.1) (by simp [Act.eval,Act.put]) (by kernel_rfl)) (by assumption) ?_
 (try simp only [Zpt])
 generalize w1.drew=wd at*
 refine rd1 5 (fun K hK=> ?_)
 go_simp
 go_at_call 47
 refine(HTr.out _ KK.out).mono ?_
 rintro e w2 ⟨rfl,kk⟩
 have K2:=zz (KK.out.trans kk)
 clear kk KK HTr
 try go_wp2_with fail
 refine hK.out _ _ (HSg.out _ K2.out) (fun hHeld=> ?_)
 clear hK K
 (try simp only [Zpt])
 refine tkH 11 ?_ (hy:=by intro w hSw; (try dsimp only at hSw);obtain⟨⟨hS1,hS2⟩,hS3,hS4⟩:=hSw;clear hS1;go_simp;try (with_reducible rfl))
 refine rd1 12 (fun K hK=> ?_)
 go_simp
 go_at_call 13
 refine(Zrm w2 a (Za4 c+c.shards*c.queue) (by omega) (by omega)).mono ?_
 rintro e w3 ⟨p,g,mb,rfl,ip,kk⟩
 have K3:=zz (K2.out.trans kk)
 have hs2:=K2.out.size
 have IP:=zz ip
 clear kk K2 ip
 try go_wp2_with fail
 refine hK.out _ _ (HSg.out _ K3.out) (fun hHeld=> ?_)
 clear hK K
 (try simp only [Zpt])
 refine tkH 13 ?_ (hy:=by intro w hSw; (try dsimp only at hSw);obtain⟨⟨hS1,hS2⟩,hS3,hS4⟩:=hSw;clear hS1;go_simp;try (with_reducible rfl))
 refine tkH 14 ?_ (hy:=by intro w hSw; (try dsimp only at hSw);obtain⟨⟨hS1,hS2⟩,hS3,hS4⟩:=hSw;clear hS1;go_simp;try (with_reducible rfl))
 refine tkH 15 ?_ (hy:=by intro w hSw; (try dsimp only at hSw);obtain⟨⟨hS1,hS2⟩,hS3,hS4⟩:=hSw;clear hS1;go_simp;try (with_reducible rfl))
 refine tkH 16 ?_ (hy:=by intro w hSw; (try dsimp only at hSw);obtain⟨⟨hS1,hS2⟩,hS3,hS4⟩:=hSw;clear hS1;go_simp;try (with_reducible rfl))
 refine tkH 17 ?_ (hy:=by intro w hSw; (try dsimp only at hSw);obtain⟨⟨hS1,hS2⟩,hS3,hS4⟩:=hSw;clear hS1;go_simp;try (with_reducible rfl))
 refine wpAnyH_done (by kernel_rfl) ?_ _
 exact⟨p,⟨_,g,mb,hs2,IP.out,K3.out⟩,⟨_,_,_,_,_,_,_,_,_,_,_,_,_,_,_,_,rfl⟩⟩
open Go.RowKit Go.Maps Cfp
section
variable {w w':World} {B g M:Nat} {D:List (Int × Int)} {ac:Int} {rj:List Int}
theorem Zg9 (h:IsLed w B g M D ac rj):Calls Tryz.prog 115 #[.pointer (some ⟨g,0,none⟩)] w fun e w'=> e= .returned (.int .i64 ac)∧w=w':=by
 have q1:=h.cell1
 clear h
 go_enter Tryz.func115,Tryz.ntmps115
 go_wp2_with fail
 go_ret
 exact⟨rfl,rfl⟩
theorem Zlh (h:IsLed w B g M D ac rj) (z:Int) (z0: -9223372036854775808≤z) (z1:z<9223372036854775808):
  Calls Tryz.prog 138 #[.pointer (some ⟨g,0,none⟩),.int .i64 z] w fun e w'=> (∃v b,e= .returned (.tuple #[.int .u64 v,.bool b]))∧IsLed w' B g M (delD D z) ac rj∧Keeps (· =M) w w':=by
 have hl:=h.look z z0 z1 true
 simp only [if_pos] at hl
 have c0:=h.cell0
 obtain⟨w1,hd,h1,k1⟩:=h.del z z0 z1 0
 have H1:=zz h1
 have K1:=zz k1
 generalize Zb3 D z=tz at*
 generalize D.any _=bz at*
 clear h h1 k1
 go_enter Tryz.func138,Tryz.ntmps138
 go_wp2_with fail
 go_ret2
 exact⟨⟨_,_,rfl⟩,H1.out,K1.out⟩
end
theorem Zno {w:World} {s q:Nat} {v:Int} {cs:Array Value} (hb:Blk w s 157 cs) (hq:cs[19]?=some (.pointer (some ⟨q,0,none⟩))) (HQ:∀W,w=W→Calls Tryz.prog 165 #[.pointer (some ⟨q,0,none⟩)] W fun e w'=> e= .returned (.int .i64 v)∧w'=W):
  Calls Tryz.prog 116 #[.pointer (some ⟨s,0,none⟩)] w fun e w'=> e= .returned (.int .i64 v)∧w=w':=by
 have q1:=(hb.cell 19).trans hq
 have HQ':=zz (HQ w rfl)
 clear hb hq HQ
 go_enter Tryz.func116,Tryz.ntmps116
 go_wp2_with fail
 refine HQ'.out.mono ?_
 rintro e w1 ⟨rfl,rfl⟩
 go_wp2_with fail
 go_ret
 exact⟨rfl,rfl⟩
abbrev Zd3 (t:TypeId):Prop:=t≠144∧t≠147∧t≠306∧t≠151∧t≠310∧t≠223∧t≠242
def Zn5 (R:World→World→Prop):Prop:=∀W w',R W w'→∀b t cs,Zd3 t→Blk W b t cs→Blk w' b t cs
theorem Zkh {w:World} {s q:Nat} {cs:Array Value} (hb:Blk w s 157 cs) (hq:cs[19]?=some (.pointer (some ⟨q,0,none⟩))) (win:Int) (key:ByteArray) (tm wt:Int) (R:World→World→Prop) (hR:Zn5 R)
  (HP:∀W,Keeps NO w W→Calls Tryz.prog 61 #[.pointer (some ⟨q,0,none⟩),.int .i64 win,.agg #[.string key,.int .i64 tm,.int .u64 wt]] W fun e w'=> e= .returned (.int .i64 0)∧R W w'):
  Calls Tryz.prog 20 #[.pointer (some ⟨s,0,none⟩),.int .i64 win,.agg #[.string key,.int .i64 tm,.int .u64 wt]] w fun e w'=> e= .returned (.int .i64 0)∧∃W,Keeps NO w W∧R W w':=by
 have k1:=(Kz0 NO w).alloc (.cells #[.string key,.int .i64 tm,.int .u64 wt] 62)
 have b1:=Blk.new w 62 #[.string key,.int .i64 tm,.int .u64 wt]
 have HB:=zz (hb.kept k1 (fun h=> h))
 have HX:=zz b1
 have K1:=zz k1
 have HPh:=zz HP
 have HQc:=zz hq
 have HR:=zz hR
 clear k1 b1 hb HP hq hR
 go_enter Tryz.func20,Tryz.ntmps20
 go_upto_region 1 with fail
 generalize w.alloc _=w1 at*
 generalize w.heap.size=X at*
 go_upto_region 3 with fail
 have KK:=zz (K1.out.drew)
 have hS0:Blk w1.drew s 157 cs∧Blk w1.drew X 62 #[.string key,.int .i64 tm,.int .u64 wt]:=⟨HB.out.kept (S:=fun _=> False) (Kz0 _ w1).drew (fun h=> h),HX.out.kept (S:=fun _=> False) (Kz0 _ w1).drew (fun h=> h)⟩
 have HS0:=zz hS0
 clear HB HX K1
 refine wp_region_held_drew (S:=fun W=> Blk W s 157 cs∧Blk W X 62 #[.string key,.int .i64 tm,.int .u64 wt]) (by kernel_rfl) hS0 (fun hHeld=> ?_)
 clear hS0
 refine tkA 0 ?_
 refine tkA 1 ?_
 refine tkA 2 ?_
 refine tkA 3 ?_ (hy:=by intro w hSw; (try dsimp only at hSw); (have q1:=(hSw.1.cell 19).trans HQc.out);clear hSw;go_simp;try (with_reducible rfl))
 refine tkA 4 ?_
 refine tkA 5 ?_ (hy:=by intro w hSw; (try dsimp only at hSw); (have q1:=hSw.2.cell 0;have q2:=hSw.2.cell 1;have q3:=hSw.2.cell 2);clear hSw;go_simp;try (with_reducible rfl))
 generalize w1.drew=wd at*
 refine rd1 6 (fun K hK=> ?_)
 go_simp
 go_at_call 61
 refine(HPh.out _ KK.out).mono ?_
 rintro e w3 ⟨rfl,r3⟩
 have R3:=zz r3
 clear r3
 try go_wp2_with fail
 refine hK.out _ _ (⟨HR.out _ _ R3.out _ _ _ (by decide) HS0.out.1,HR.out _ _ R3.out _ _ _ (by decide) HS0.out.2⟩) (fun hHeld=> ?_)
 clear hK K
 (try simp only [Zpt])
 refine tkA 7 ?_
 refine wpAnyH_done (by kernel_rfl) ?_ _
 go_wp2_with fail
 go_ret
 exact⟨rfl,wd,KK.out,R3.out⟩
open Go.RowKit Cfp
theorem Ze7 (c:Cfg) (h:Fine c) (C T:Option Addr) (n k q j:Nat) (A:Option Addr) (m cp B:Nat) (zs:List Int) (w:World) (hr:Rd w B A 1 m (zs.map (.int .i64))) (hB:B≤w.heap.size) (hz:∀z∈zs,0≤z∧z≤1099511627776) (hm:m≤4):
  Calls Tryz.prog 62 #[Value.agg (cfC c C n k T q j),.slice A m cp] w fun e w'=> e= .returned (.bool true)∧Keeps NO w w':=by
 have B1:=zz (Blk.new w 27 (cfC c C n k T q j))
 have k1:=(Kz0 NO w).alloc (.cells (cfC c C n k T q j) 27)
 have HR:=zz (hr.kept k1 (fun _ _ h=> h))
 have K1:=zz k1
 have HZ:=zz hz
 have HL:=zz (show zs.length=m by have:=hr.1;simpa using this)
 have HC:=zz (fun W=> Zfu c h C T n k q j W)
 clear k1 hr hz h
 go_enter Tryz.func62,Tryz.ntmps62
 go_upto_region 1 with fail
 generalize w.alloc _=w1 at*
 generalize w.heap.size=X at*
 go_wp2_with fail
 go_loop [6,9] (fun _ iv=> ∃i:Nat,i≤m∧iv= .int .i64 i) (fun _ iv=> m-(intOf iv).toNat)
 case atStart=> exact⟨0,by omega,rfl⟩
 case round=>
  obtain⟨i,hi,rfl⟩:=hrel
  by_cases hlt:i<m
  ·have HLT:Hid (i+1≤m):=hlt
   have hil:i<zs.length:=by rw [HL.out];exact hlt
   obtain⟨b,off,rfl,hbB,hcell⟩:=HR.out.2 (by omega)
   have f1:=hcell i (.int .i64 zs[i]) (by simp [hil])
   have hz:=HZ.out zs[i] (by simp)
   generalize zs[i]=z at*
   have hltI:(i:Int)<(m:Int):=by omega
   have hj0:(0:Int)≤(i:Int):=by omega
   have z0:=hz.1
   have z1:=hz.2
   clear hcell hz
   go_wp2_with fail
   go_round
   case rel=> exact⟨i+1,HLT.out,by go_num⟩
   case measure=> have:=HLT.out;simp [intOf];omega
  ·obtain rfl:i=m:=by omega
   go_wp2_with (refine Zah _ rfl B1.out rfl (by rfl) ?_;simp only [Zpt])
   refine(HC.out _).mono ?_
   rintro e w2 ⟨rfl,rfl⟩
   go_wp2_with fail
   go_ret
   exact⟨rfl,K1.out.alloc _⟩
theorem Zep (c:Cfg) (h:Fine c) (C T:Option Addr) (n k q j:Nat) (t:Int) (w:World) (t0:0≤t) (t1:t≤1099511627776):
  Calls Tryz.prog 21 #[Value.agg (cfC c C n k T q j),.int .i64 t] w fun e w'=> e= .returned (.int .i64 (t / c.length))∧Keeps NO w w':=by
 have B1:=zz (Blk.new w 27 (cfC c C n k T q j))
 have K1:=zz ((Kz0 NO w).alloc (.cells (cfC c C n k T q j) 27))
 have HV:=zz (fun A cp B m zs W hr hB hz hm=> Ze7 c h C T n k q j A m cp B zs W hr hB hz hm)
 have hl:=h.length
 clear h
 go_enter Tryz.func21,Tryz.ntmps21
 go_upto_region 1 with fail
 generalize w.alloc _=w1 at*
 generalize w.heap.size=X at*
 go_wp2_with (refine Zah _ rfl B1.out rfl (by rfl) ?_;simp only [Zpt])
 have k2:=(Kz0 NO w1).alloc (.cells #[.int .i64 t] 3)
 have BN:=Blk.new w1 3 #[.int .i64 t]
 have hs2:=BN.lt
 refine(HV.out _ _ _ _ [t] _ (BN.rd (xs:= [.int .i64 t]) (n:=1) (sz:=1) rfl) (Nat.le_refl _) (by simp;omega) (by omega)).mono ?_
 rintro e w2 ⟨rfl,kk⟩
 have B2:=B1.out.kept (k2.trans kk) (fun h=> h)
 have K2:=zz (K1.out.trans (k2.trans kk))
 have f0:=B2.cell 0
 clear k2 BN hs2 kk B2 B1 K1 HV
 go_wp2_with fail
 go_ret
 exact⟨rfl,K2.out⟩
def Zcv (c:Cfg) (t:Int):Int:=if t≤c.lateness then 0 else(t-c.lateness) / c.length
theorem Zob {c:Cfg} {t:Int} (h:t≤c.lateness):Zcv c t=0:=if_pos h
theorem Zoc {c:Cfg} {t:Int} (h:c.lateness<t):Zcv c t=(t-c.lateness) / c.length:=if_neg (by omega)
theorem Zod (c:Cfg) (h:Fine c) (t:Int) (t0:0≤t) (t1:t≤1099511627776):0≤Zcv c t∧Zcv c t≤1099511627776:=by
 have h1:=h.length
 have h2:=h.lateness
 unfold Zcv
 split
 ·omega
 ·have a:=Int.ediv_nonneg (a:=t-c.lateness) (b:=c.length) (by omega) (by omega)
  have b:=Int.ediv_le_self (a:=t-c.lateness) c.length (by omega)
  omega
theorem Zmp (c:Cfg) (h:Fine c) (C T:Option Addr) (n k q j:Nat) (t:Int) (w:World) (t0:0≤t) (t1:t≤1099511627776):
  Calls Tryz.prog 73 #[Value.agg (cfC c C n k T q j),.int .i64 t] w fun e w'=> e= .returned (.int .i64 (Zcv c t))∧Keeps NO w w':=by
 have B1:=zz (Blk.new w 27 (cfC c C n k T q j))
 have K1:=zz ((Kz0 NO w).alloc (.cells (cfC c C n k T q j) 27))
 have HV:=zz (fun A cp B m zs W hr hB hz hm=> Ze7 c h C T n k q j A m cp B zs W hr hB hz hm)
 have hl:=h.length
 have hla:=h.lateness
 clear h
 go_enter Tryz.func73,Tryz.ntmps73
 go_upto_region 1 with fail
 generalize w.alloc _=w1 at*
 generalize w.heap.size=X at*
 go_wp2_with (refine Zah _ rfl B1.out rfl (by rfl) ?_;simp only [Zpt])
 have k2:=(Kz0 NO w1).alloc (.cells #[.int .i64 t] 3)
 have BN:=Blk.new w1 3 #[.int .i64 t]
 have hs2:=BN.lt
 refine(HV.out _ _ _ _ [t] _ (BN.rd (xs:= [.int .i64 t]) (n:=1) (sz:=1) rfl) (Nat.le_refl _) (by simp;omega) (by omega)).mono ?_
 rintro e w2 ⟨rfl,kk⟩
 have B2:=B1.out.kept (k2.trans kk) (fun h=> h)
 have K2:=zz (K1.out.trans (k2.trans kk))
 have f0:=B2.cell 0
 have f1:=B2.cell 1
 clear k2 BN hs2 kk B2 B1 K1 HV
 by_cases hc:t≤c.lateness
 ·have h0:decide (0=0)=true:=rfl
  clear h0
  have hv:=zz (Zob hc)
  go_wp2_with fail
  all_goals
   go_ret
   refine⟨?_,K2.out⟩
   rw [hv.out]
   first | rfl | (have e0:t-c.lateness=0:=by omega
                  simp [e0])
 ·have hv:=zz (Zoc (c:=c) (t:=t) (by omega))
  go_wp2_with fail
  all_goals
   go_ret
   refine⟨?_,K2.out⟩
   rw [hv.out]
   first | rfl | (simp;omega)
def Zdu (c:Cfg) (wm t:Int):Int:=if t / c.length<Zcv c wm then 3 else if Zcv c wm+c.windows≤t / c.length then 4 else 0
theorem Zqh (c:Cfg) (h:Fine c) (t:Int) (t0:0≤t) (t1:t≤1099511627776):0≤t / c.length∧t / c.length≤1099511627776:=by
 have h1:=h.length
 have a:=Int.ediv_nonneg (a:=t) (b:=c.length) (by omega) (by omega)
 have b:=Int.ediv_le_self (a:=t) c.length (by omega)
 omega
theorem Zhk (c:Cfg) (h:Fine c) (C T:Option Addr) (n k q j:Nat) (wm t:Int) (w:World) (m0:0≤wm) (m1:wm≤1099511627776) (t0:0≤t) (t1:t≤1099511627776):
  Calls Tryz.prog 93 #[Value.agg (cfC c C n k T q j),.int .i64 wm,.int .i64 t] w fun e w'=> e= .returned (.int .i64 (Zdu c wm t))∧Keeps NO w w':=by
 have B1:=zz (Blk.new w 27 (cfC c C n k T q j))
 have K1:=zz ((Kz0 NO w).alloc (.cells (cfC c C n k T q j) 27))
 have HV:=zz (fun A cp B m zs W hr hB hz hm=> Ze7 c h C T n k q j A m cp B zs W hr hB hz hm)
 have hl:=h.length
 have hwn:=h.windows
 have HLo:=zz (fun W=> Zmp c h C T n k q j wm W m0 m1)
 have HWi:=zz (fun W=> Zep c h C T n k q j t W t0 t1)
 have hb1:=Zod c h wm m0 m1
 have hb2:=Zqh c h t t0 t1
 obtain⟨lo,hlo⟩:∃lo,lo=Zcv c wm:=⟨_,rfl⟩
 obtain⟨wi,hwi⟩:∃wi,wi=t / c.length:=⟨_,rfl⟩
 have HX:=zz (show Zdu c wm t=if wi<lo then 3 else if lo+c.windows≤wi then 4 else 0 by rw [hlo,hwi];rfl)
 rw [←hlo] at HLo hb1
 rw [←hwi] at HWi hb2
 clear hlo hwi h
 go_enter Tryz.func93,Tryz.ntmps93
 go_upto_region 1 with fail
 generalize w.alloc _=w1 at*
 generalize w.heap.size=X at*
 go_wp2_with (refine Zah _ rfl B1.out rfl (by rfl) ?_;simp only [Zpt])
 have k2:=(Kz0 NO w1).alloc (.cells #[.int .i64 wm,.int .i64 t] 3)
 have BN:=Blk.new w1 3 #[.int .i64 wm,.int .i64 t]
 have hs2:=BN.lt
 refine(HV.out _ _ _ _ [wm,t] _ (BN.rd (xs:= [.int .i64 wm,.int .i64 t]) (n:=2) (sz:=1) rfl) (Nat.le_refl _) (by simp;omega) (by omega)).mono ?_
 rintro e w2 ⟨rfl,kk⟩
 have B2:=zz (B1.out.kept (k2.trans kk) (fun h=> h))
 have K2:=zz (K1.out.trans (k2.trans kk))
 clear k2 BN hs2 kk B1 K1 HV
 go_upto_region 3 with fail
 have HSg:Hid (∀W,Keeps NO w2 W→Blk W X 27 (cfC c C n k T q j)):=zz (fun W kW=> B2.out.kept kW (fun h=> h))
 have KK:=zz ((Kz0 NO w2).drew)
 clear B2
 refine wp_region_held_drew (S:=fun W=> Blk W X 27 (cfC c C n k T q j)) (by kernel_rfl) (HSg.out _ KK.out) (fun hHeld=> ?_)
 refine tkH 1 ?_
 refine tkH 4 ?_
 refine wpAnyH_take (i:=0) (v:=_) rfl (by kernel_rfl) (by kernel_rfl) (by kernel_rfl) (fun _ _ _ h=> h) (Zbg (c:=c) (C:=C) (T:=T) (n:=n) (k:=k) (q:=q) (j:=j) (g:=X) (.tmp 3) rfl (fun _ h=> h) (by simp [Act.eval,Act.put]) (by kernel_rfl)) (by assumption) ?_
 (try simp only [Zpt])
 refine wpAnyH_take (i:=3) (v:=_) rfl (by kernel_rfl) (by kernel_rfl) (by kernel_rfl) (fun _ _ _ h=> h) (Zbg (c:=c) (C:=C) (T:=T) (n:=n) (k:=k) (q:=q) (j:=j) (g:=X) (.tmp 3) rfl (fun _ h=> h) (by simp [Act.eval,Act.put]) (by kernel_rfl)) (by assumption) ?_
 (try simp only [Zpt])
 generalize w2.drew=wd at*
 refine rd1 2 (fun K hK=> ?_)
 go_simp
 go_at_call 73
 refine(HLo.out _).mono ?_
 rintro e w3 ⟨rfl,kk⟩
 have K3:=zz (KK.out.trans kk)
 clear kk KK HLo
 try go_wp2_with fail
 refine hK.out _ _ (HSg.out _ K3.out) (fun hHeld=> ?_)
 clear hK K
 (try simp only [Zpt])
 refine rd1 5 (fun K hK=> ?_)
 go_simp
 go_at_call 21
 refine(HWi.out _).mono ?_
 rintro e w4 ⟨rfl,kk⟩
 have K4:=zz (K3.out.trans kk)
 clear kk K3 HWi
 try go_wp2_with fail
 refine hK.out _ _ (HSg.out _ K4.out) (fun hHeld=> ?_)
 clear hK K
 (try simp only [Zpt])
 refine tkH 6 ?_
 refine tkH 7 ?_
 refine wpAnyH_done (by kernel_rfl) ?_ _
 have f2:=(HSg.out _ K4.out).cell 2
 clear HSg
 by_cases c1:wi<lo
 ·go_wp2_with fail
  go_ret
  exact⟨by rw [HX.out,if_pos c1];rfl,K2.out.trans K4.out⟩
 ·by_cases c2:lo+c.windows≤wi
  ·go_wp2_with fail
   go_ret
   exact⟨by rw [HX.out,if_neg (by omega),if_pos c2];rfl,K2.out.trans K4.out⟩
  ·go_wp2_with fail
   go_ret
   exact⟨by rw [HX.out,if_neg (by omega),if_neg (by omega)];rfl,K2.out.trans K4.out⟩
open Go.RowKit Go.Maps Cfp
theorem Zcz {W:World} {g:Nat} {c:Cfg} {C T:Option Addr} {n k j:Nat} {ar:Value} {SA:Option Addr} {ns cap led:Nat} {st:Option Addr} {sn sc:Nat} {skip:Int} {br:Bool} {wm:Int}
  (h:Blk W g 123 (cluC c C T n k j ar SA ns cap led st sn sc skip br wm)):∀i v,((cfC c C n k T 16 j):Array Value).toList[i]?=some v→W.cell? ⟨g,0+i,none⟩=some v:=by
 intro i v hv
 rw [Nat.zero_add,h.cell i]
 have hi:i<17:=(List.getElem?_eq_some_iff.1 hv).1
 rw [←hv]
 rcases(show i=0∨i=1∨i=2∨i=3∨i=4∨i=5∨i=6∨i=7∨i=8∨i=9∨i=10∨i=11∨i=12∨i=13∨i=14∨i=15∨i=16 by omega) with rfl | rfl | rfl | rfl | rfl | rfl | rfl | rfl | rfl | rfl | rfl | rfl | rfl | rfl | rfl | rfl | rfl <;> rfl
def Zvn (w:World) (R:World→World→Prop) (B led M:Nat) (D:List (Int × Int)) (ac:Int) (rj:List Int) (win wt:Int) (e:Ending) (w':World):Prop:=
 e= .returned (.int .i64 0)∧∃wx wy,Keeps NO w wx∧R wx wy∧IsLed w' B led M (putD D win (Zb3 D win+wt)) (ac+1) rj∧Keeps (fun k=> k=led∨k=M) wy w'
theorem Zoo (w:World) (kc:Nat) (c:Cfg) (hf:Fine c) (C T:Option Addr) (n k j:Nat) (ar:Value) (SB ns cap led:Nat) (st:Option Addr) (sn sc:Nat) (skip:Int) (br:Bool) (wm:Int)
  (hb:Blk w kc 123 (cluC c C T n k j ar (some ⟨SB,0,none⟩) ns cap led st sn sc skip br wm)) (m0:0≤wm) (m1:wm≤1099511627776)
  (B M:Nat) (D:List (Int × Int)) (ac:Int) (rj:List Int) (hl:IsLed w B led M D ac rj) (a0:0≤ac) (a1:ac<1000000000) (hkl:kc≠led) (hkM:kc≠M)
  (key:ByteArray) (tm wt:Int) (t0:0≤tm) (t1:tm≤1099511627776) (w0:1≤wt) (w1:wt≤9223372036854775808)
  (hv:Zdu c wm tm=0) (win:Int) (hwin:win=tm / c.length) (hfi:Sat.fits (Zb3 D win) wt=true) (hsum:Zb3 D win+wt<18446744073709551616)
  (r:Nat) (s:Nat) (HRo:∀W,Keeps NO w W→Calls Tryz.prog 19 #[Value.agg (cfC c C n k T 16 j),.string key,.int .i64 ac] W fun e w'=> e= .returned (.int .i64 r)∧Keeps NO W w')
  (hr:r<ns) (hS:∀W,Keeps NO w W→W.cell? ⟨SB,r,none⟩=some (.pointer (some ⟨s,0,none⟩)))
  (q:Int) (HLe:∀W,Keeps NO w W→Calls Tryz.prog 116 #[.pointer (some ⟨s,0,none⟩)] W fun e w'=> e= .returned (.int .i64 q)∧W=w') (hq:(q==c.queue)=false)
  (R:World→World→Prop) (hR:Zn5 R) (hRl:∀W w',Keeps NO w W→R W w'→IsLed w' B led M D ac rj)
  (HP:∀W,Keeps NO w W→Calls Tryz.prog 20 #[.pointer (some ⟨s,0,none⟩),.int .i64 win,.agg #[.string key,.int .i64 tm,.int .u64 wt]] W fun e w'=> e= .returned (.int .i64 0)∧R W w'):
  Calls Tryz.prog 57 #[.pointer (some ⟨kc,0,none⟩),.agg #[.string key,.int .i64 tm,.int .u64 wt,.int .i64 0]] w (Zvn w R B led M D ac rj win wt):=by
 have k1:=(Kz0 NO w).alloc (.cells #[.string key,.int .i64 tm,.int .u64 wt,.int .i64 0] 166)
 have b1:=Blk.new w 166 #[.string key,.int .i64 tm,.int .u64 wt,.int .i64 0]
 have HK0:=zz (hb.kept k1 (fun h=> h))
 have HI:=zz b1
 have K1:=zz k1
 have HVe:=zz (fun W=> Zhk c hf C T n k 16 j wm tm W m0 m1 t0 t1)
 rw [hv] at HVe
 have HWi:=zz (fun W=> Zep c hf C T n k 16 j tm W t0 t1)
 rw [←hwin] at HWi
 have hwb:=Zqh c hf tm t0 t1
 rw [←hwin] at hwb
 have HFt:=zz (fun W (kW:Keeps NO w W)=> Zi8 (hl.quiet kW) win wt (by omega) (by omega) (by omega) (by omega))
 rw [hfi] at HFt
 have HAc:=zz (fun W (kW:Keeps NO w W)=> Zg9 (hl.quiet kW))
 have HA2:=zz (fun W (hW:IsLed W B led M D ac rj)=> Zjl hW win wt (by omega) (by omega) (by omega) (by omega) hfi hsum a0 a1)
 have HRo:=zz HRo
 have HS:=zz hS
 have HLe:=zz HLe
 have HP:=zz HP
 have HR:=zz hR
 have HRl:=zz hRl
 have hq5:(q==c.queue)=false:=hq
 clear k1 b1 hb hf hv hfi hl hS hR hRl hwin hq hsum
 go_enter Tryz.func57,Tryz.ntmps57
 go_upto_region 1 with fail
 have i0:=HI.out.cell 0
 have i1:=HI.out.cell 1
 have i2:=HI.out.cell 2
 have i3:=HI.out.cell 3
 generalize w.alloc _=w1 at*
 generalize w.heap.size=I at*
 go_upto_region 4 with fail
 have kX:=(Kz0 NO w1).alloc (.cells #[.string key,.int .i64 tm,.int .u64 wt] 62)
 have HX:=zz (Blk.new w1 62 #[.string key,.int .i64 tm,.int .u64 wt])
 have HKC:=zz (HK0.out.kept kX (fun h=> h))
 have K2:=zz (K1.out.trans kX)
 clear kX HK0 K1 HI i0 i1 i2 i3
 generalize w1.alloc _=w2 at*
 generalize w1.heap.size=X at*
 have HSg:Hid (∀W,Keeps NO w2 W→(Blk W kc 123 (cluC c C T n k j ar (some ⟨SB,0,none⟩) ns cap led st sn sc skip br wm)∧Blk W X 62 #[.string key,.int .i64 tm,.int .u64 wt])):=zz (fun W kW=> ⟨HKC.out.kept kW (fun h=> h),HX.out.kept kW (fun h=> h)⟩)
 clear HKC HX
 have KK:=zz ((Kz0 NO w2).drew)
 refine wp_region_held_drew (S:=fun W=> Blk W kc 123 (cluC c C T n k j ar (some ⟨SB,0,none⟩) ns cap led st sn sc skip br wm)∧Blk W X 62 #[.string key,.int .i64 tm,.int .u64 wt]) (by kernel_rfl) (HSg.out _ KK.out) (fun hHeld=> ?_)
 refine tkA 0 ?_
 refine tkA 1 ?_
 refine tkA 2 ?_
 refine wpAnyH_take (i:=3) (v:=_) rfl (by kernel_rfl) (by kernel_rfl) (by kernel_rfl) (fun _ _ _ h=> h) (Zal (c:=c) (C:=C) (T:=T) (n:=n) (k:=k) (q:=16) (j:=j) (g:=kc) (off:=0) (.tmp 18) rfl (fun _ h=> Zcz h.1) (by simp [Act.eval,Act.put]) (by kernel_rfl)) (by assumption) ?_
 (try simp only [Zpt])
 refine tkA 4 ?_
 refine tkA 5 ?_
 refine tkA 6 ?_
 refine tkA 7 ?_ (hy:=by intro w hSw; (try dsimp only at hSw); (have q1:=hSw.1.cell 23);clear hSw;go_simp;try (with_reducible rfl))
 refine tkA 8 ?_
 refine tkA 9 ?_ (hy:=by intro w hSw; (try dsimp only at hSw); (have q1:=hSw.2.cell 1);clear hSw;go_simp;try (with_reducible rfl))
 generalize w2.drew=wd at*
 refine rd1 10 (fun K hK=> ?_)
 go_simp
 go_at_call 93
 refine(HVe.out _).mono ?_
 rintro e w3 ⟨rfl,kk⟩
 have K3:=zz (KK.out.trans kk)
 clear kk KK HVe
 try go_wp2_with fail
 refine hK.out _ _ (HSg.out _ K3.out) (fun hHeld=> ?_)
 clear hK K
 (try simp only [Zpt])
 refine tkA 11 ?_
 refine wpAnyH_done (by kernel_rfl) ?_ _
 go_upto_region 7 with fail
 have KK:=zz (K3.out.drew)
 clear K3
 refine wp_region_held_drew (S:=fun W=> Blk W kc 123 (cluC c C T n k j ar (some ⟨SB,0,none⟩) ns cap led st sn sc skip br wm)∧Blk W X 62 #[.string key,.int .i64 tm,.int .u64 wt]) (by kernel_rfl) (HSg.out _ KK.out) (fun hHeld=> ?_)
 refine tkA 0 ?_
 refine tkA 1 ?_
 refine tkA 2 ?_
 refine wpAnyH_take (i:=3) (v:=_) rfl (by kernel_rfl) (by kernel_rfl) (by kernel_rfl) (fun _ _ _ h=> h) (Zal (c:=c) (C:=C) (T:=T) (n:=n) (k:=k) (q:=16) (j:=j) (g:=kc) (off:=0) (.tmp 32) rfl (fun _ h=> Zcz h.1) (by simp [Act.eval,Act.put]) (by kernel_rfl)) (by assumption) ?_
 (try simp only [Zpt])
 refine tkA 4 ?_
 refine tkA 5 ?_ (hy:=by intro w hSw; (try dsimp only at hSw); (have q1:=hSw.2.cell 1);clear hSw;go_simp;try (with_reducible rfl))
 generalize w3.drew=we at*
 refine rd1 6 (fun K hK=> ?_)
 go_simp
 go_at_call 21
 refine(HWi.out _).mono ?_
 rintro e w4 ⟨rfl,kk⟩
 have K4:=zz (KK.out.trans kk)
 clear kk KK HWi
 try go_wp2_with fail
 refine hK.out _ _ (HSg.out _ K4.out) (fun hHeld=> ?_)
 clear hK K
 (try simp only [Zpt])
 refine tkA 7 ?_
 refine wpAnyH_done (by kernel_rfl) ?_ _
 go_upto_region 8 with fail
 have KK:=zz (K4.out.drew)
 clear K4
 refine wp_region_held_drew (S:=fun W=> Blk W kc 123 (cluC c C T n k j ar (some ⟨SB,0,none⟩) ns cap led st sn sc skip br wm)∧Blk W X 62 #[.string key,.int .i64 tm,.int .u64 wt]) (by kernel_rfl) (HSg.out _ KK.out) (fun hHeld=> ?_)
 refine tkA 0 ?_
 refine tkA 1 ?_
 refine tkA 2 ?_
 refine tkA 3 ?_ (hy:=by intro w hSw; (try dsimp only at hSw); (have q1:=hSw.1.cell 19);clear hSw;go_simp;try (with_reducible rfl))
 refine tkA 4 ?_
 refine tkA 5 ?_
 refine tkA 6 ?_ (hy:=by intro w hSw; (try dsimp only at hSw); (have q1:=hSw.2.cell 2);clear hSw;go_simp;try (with_reducible rfl))
 generalize w4.drew=wf at*
 refine rd1 7 (fun K hK=> ?_)
 go_simp
 go_at_call 114
 refine(HFt.out _ (K2.out.trans KK.out)).mono ?_
 rintro e w5 ⟨rfl,rfl⟩
 clear HFt
 try go_wp2_with fail
 refine hK.out _ _ (HSg.out _ KK.out) (fun hHeld=> ?_)
 clear hK K
 (try simp only [Zpt])
 refine tkA 8 ?_
 refine wpAnyH_done (by kernel_rfl) ?_ _
 go_upto_region 10 with fail
 have K5:=zz (KK.out.drew)
 clear KK
 have HSh:Hid (∀W,Keeps NO w2 W→(Blk W kc 123 (cluC c C T n k j ar (some ⟨SB,0,none⟩) ns cap led st sn sc skip br wm)∧Blk W X 62 #[.string key,.int .i64 tm,.int .u64 wt])∧W.cell? ⟨SB,r,none⟩=some (.pointer (some ⟨s,0,none⟩))):=zz (fun W kW=> ⟨HSg.out W kW,HS.out W (K2.out.trans kW)⟩)
 refine wp_region_held_drew (S:=fun W=> (Blk W kc 123 (cluC c C T n k j ar (some ⟨SB,0,none⟩) ns cap led st sn sc skip br wm)∧Blk W X 62 #[.string key,.int .i64 tm,.int .u64 wt])∧W.cell? ⟨SB,r,none⟩=some (.pointer (some ⟨s,0,none⟩))) (by kernel_rfl) (HSh.out _ K5.out) (fun hHeld=> ?_)
 refine tkA 0 ?_
 refine tkA 1 ?_
 refine tkA 2 ?_
 refine tkA 3 ?_ (hy:=by intro w hSw; (try dsimp only at hSw); (have q1:=hSw.1.1.cell 18);clear hSw;go_simp;try (with_reducible rfl))
 refine tkA 4 ?_
 refine tkA 5 ?_
 refine tkA 6 ?_
 refine wpAnyH_take (i:=7) (v:=_) rfl (by kernel_rfl) (by kernel_rfl) (by kernel_rfl) (fun _ _ _ h=> h) (Zal (c:=c) (C:=C) (T:=T) (n:=n) (k:=k) (q:=16) (j:=j) (g:=kc) (off:=0) (.tmp 52) rfl (fun _ h=> Zcz h.1.1) (by simp [Act.eval,Act.put]) (by kernel_rfl)) (by assumption) ?_
 (try simp only [Zpt])
 refine tkA 8 ?_
 refine tkA 9 ?_ (hy:=by intro w hSw; (try dsimp only at hSw); (have q1:=hSw.1.2.cell 0);clear hSw;go_simp;try (with_reducible rfl))
 refine tkA 10 ?_
 refine tkA 11 ?_
 refine tkA 12 ?_
 refine tkA 13 ?_ (hy:=by intro w hSw; (try dsimp only at hSw); (have q1:=hSw.1.1.cell 19);clear hSw;go_simp;try (with_reducible rfl))
 generalize wf.drew=wg at*
 refine rd1 14 (fun K hK=> ?_)
 go_simp
 go_at_call 115
 refine(HAc.out _ (K2.out.trans K5.out)).mono ?_
 rintro e w6 ⟨rfl,rfl⟩
 clear HAc
 try go_wp2_with fail
 refine hK.out _ _ (HSh.out _ K5.out) (fun hHeld=> ?_)
 clear hK K
 (try simp only [Zpt])
 refine rd1 15 (fun K hK=> ?_)
 go_simp
 go_at_call 19
 refine(HRo.out _ (K2.out.trans K5.out)).mono ?_
 rintro e w7 ⟨rfl,kk⟩
 have K7:=zz (K5.out.trans kk)
 clear kk HRo K5
 try go_wp2_with fail
 refine hK.out _ _ (HSh.out _ K7.out) (fun hHeld=> ?_)
 clear hK K
 (try simp only [Zpt])
 have hrI:(r:Int)<(ns:Int):=by omega
 have hr0:(0:Int)≤(r:Int):=by omega
 refine tkA 16 ?_
 refine tkA 17 ?_ (hy:=by intro w hSw; (try dsimp only at hSw); (have q1:=hSw.2);clear hSw;go_simp;try (with_reducible rfl))
 refine tkA 18 ?_
 refine wpAnyH_done (by kernel_rfl) ?_ _
 clear HSh
 go_upto_region 11 with fail
 have K8:=zz (K7.out.drew)
 clear K7
 refine wp_region_held_drew (S:=fun W=> Blk W kc 123 (cluC c C T n k j ar (some ⟨SB,0,none⟩) ns cap led st sn sc skip br wm)∧Blk W X 62 #[.string key,.int .i64 tm,.int .u64 wt]) (by kernel_rfl) (HSg.out _ K8.out) (fun hHeld=> ?_)
 refine tkA 0 ?_
 refine tkA 2 ?_
 refine tkA 3 ?_
 refine tkA 4 ?_
 refine tkA 5 ?_
 refine tkA 6 ?_ (hy:=by intro w hSw; (try dsimp only at hSw); (have q1:=hSw.1.cell 5);clear hSw;go_simp;try (with_reducible rfl))
 generalize w7.drew=wh at*
 refine rd1 1 (fun K hK=> ?_)
 go_simp
 go_at_call 116
 refine(HLe.out _ (K2.out.trans K8.out)).mono ?_
 rintro e w8 ⟨rfl,rfl⟩
 clear HLe
 try go_wp2_with fail
 refine hK.out _ _ (HSg.out _ K8.out) (fun hHeld=> ?_)
 clear hK K
 (try simp only [Zpt])
 refine tkA 7 ?_
 refine tkA 8 ?_
 refine tkA 9 ?_
 refine tkA 10 ?_
 refine tkA 11 ?_ (hy:=by intro w hSw; (try dsimp only at hSw); (have q1:=hSw.2.cell 0;have q2:=hSw.2.cell 1;have q3:=hSw.2.cell 2);clear hSw;go_simp;try (with_reducible rfl))
 refine rd1 12 (fun K hK=> ?_)
 go_simp
 go_at_call 20
 refine(HP.out _ (K2.out.trans K8.out)).mono ?_
 rintro e w9 ⟨rfl,r9⟩
 have hs8:=HSg.out _ K8.out
 have HS9:=zz (show Blk w9 kc 123 (cluC c C T n k j ar (some ⟨SB,0,none⟩) ns cap led st sn sc skip br wm)∧Blk w9 X 62 #[.string key,.int .i64 tm,.int .u64 wt] from⟨HR.out _ _ r9 _ _ _ (by decide) hs8.1,HR.out _ _ r9 _ _ _ (by decide) hs8.2⟩)
 have HL9:=zz (HRl.out _ _ (K2.out.trans K8.out) r9)
 have R9:=zz r9
 clear r9 hs8 HP
 try go_wp2_with fail
 refine hK.out _ _ (HS9.out) (fun hHeld=> ?_)
 clear hK K
 (try simp only [Zpt])
 refine tkA 13 ?_
 refine tkA 14 ?_
 refine wpAnyH_done (by kernel_rfl) ?_ _
 go_upto_region 13 with fail
 have HSd:=zz (show Blk w9.drew kc 123 (cluC c C T n k j ar (some ⟨SB,0,none⟩) ns cap led st sn sc skip br wm)∧Blk w9.drew X 62 #[.string key,.int .i64 tm,.int .u64 wt] from HS9.out)
 have HLd:=zz (HL9.out.quiet (Kz0 _ _).drew)
 have KD:=zz ((Kz0 NO w9).drew)
 refine wp_region_held_drew (S:=fun W=> Blk W kc 123 (cluC c C T n k j ar (some ⟨SB,0,none⟩) ns cap led st sn sc skip br wm)∧Blk W X 62 #[.string key,.int .i64 tm,.int .u64 wt]) (by kernel_rfl) HSd.out (fun hHeld=> ?_)
 refine tkA 0 ?_
 refine tkA 1 ?_
 refine tkA 2 ?_
 refine tkA 3 ?_ (hy:=by intro w hSw; (try dsimp only at hSw); (have q1:=hSw.1.cell 19);clear hSw;go_simp;try (with_reducible rfl))
 refine tkA 4 ?_
 refine tkA 5 ?_
 refine tkA 6 ?_ (hy:=by intro w hSw; (try dsimp only at hSw); (have q1:=hSw.2.cell 2);clear hSw;go_simp;try (with_reducible rfl))
 generalize w9.drew=wi at*
 refine rd1 7 (fun K hK=> ?_)
 go_simp
 go_at_call 117
 refine(HA2.out _ HLd.out).mono ?_
 rintro e wj ⟨rfl,hlj,kj⟩
 have hXl:X≠led:=HSd.out.2.ne HLd.out.blk (by decide)
 have hXM:X≠M:=fun e=> HLd.out.map.ne_blk HSd.out.2 e.symm
 have HLj:=zz hlj
 have Kj:=zz kj
 clear hlj kj
 try go_wp2_with fail
 refine hK.out _ _ (⟨HSd.out.1.kept Kj.out (fun e=> e.elim hkl hkM),HSd.out.2.kept Kj.out (fun e=> e.elim hXl hXM)⟩) (fun hHeld=> ?_)
 clear hK K
 (try simp only [Zpt])
 refine wpAnyH_done (by kernel_rfl) ?_ _
 go_wp2_with fail
 go_ret
 exact⟨rfl,wh,w9,K2.out.trans K8.out,R9.out,HLj.out,(KD.out.weak (fun _ _ h=> h.elim)).trans Kj.out⟩
end Go.Proofs.YtjamiaamngalgaaGreat
