/-
  Parts: Routing of valid configu; Routing of valid configu. No conditions beyond those of the statement.
-/
import Derived.Test.YtjamiaamngalgaaGreatG00
import Derived.Test.YtjamiaamngalgaaGreatG08
set_option linter.unusedVariables false
set_option linter.unusedSimpArgs false
set_option maxRecDepth 1000000
set_option maxHeartbeats 4000000
namespace Go.Proofs.YtjamiaamngalgaaGreat
open Go.RowKit Cfp
theorem Zr3 (G sp:Nat) (hs:sp≤8) (w:World):(Instr.sliceAt 142 (.pointer (some ⟨G,0,none⟩)) none (some (.int .i64 (sp:Int))) (some (.int .i64 (sp:Int)))).run Tryz.prog w= .ok (.slice (some ⟨G,0,none⟩) sp sp) w:=by
 have ht:Tryz.prog.underlying 142=some (.array 8 3):=by first | exact Tryz.underlying142 | kernel_rfl
 have hi:(Tryz.prog.info? 3).map (fun i=> (i.zero,i.size,i.bytes))=some (some (.int .i64 0),1,8):=by kernel_rfl
 obtain⟨i,h1,h2,h3,h4⟩:=info_parts hi
 have hb1:∀code w',(Instr.sliceBound (.int .i64 (sp:Int)) 8 code).run Tryz.prog w'= .ok sp w':=fun code w'=> by
  rw [run_sliceBound _ _ _ _ _ (by omega) (by omega)];simp
 have hb2:∀code w',(Instr.sliceBound (.int .i64 (sp:Int)) sp code).run Tryz.prog w'= .ok sp w':=fun code w'=> by
  rw [run_sliceBound _ _ _ _ _ (by omega) (by omega)];simp
 simp [Instr.sliceAt,Instr.sureAddr,run_underlying ht,Instr.sliceBounds,sizeOf,typeInfo,h1,h3,hs,Addr.add,hb1,hb2]
theorem Zq6 (c:Cfg) (h:Rtd c) (C T:Option Addr) (n k j B:Nat) (w:World) (zs:List Int) (hz:∀z∈zs,0≤z∧z<18446744073709551616) (hr:Rd w B T 1 16 (zs.map (.int .u64))) (s:ByteArray) (hs:s.size≤140737488351232):
  Calls Tryz.prog 60 #[Value.agg (cfC c C n k T 16 j),.string s] w (Zhs w (Zdy c (Zcb c zs s) c.spread.toNat)):=by
 have h1:=h.shards
 have h2:=h.spread
 have hb:=Zse c h zs s
 have HH:=zz (fun W (hr:Rd W B T 1 16 (zs.map (.int .u64)))=> Zsd c h C T n k j B W zs hz hr s hs)
 have CH:=zz (fun W=> Zce c h C T n k j W)
 obtain⟨hm,hhm⟩:∃hm,hm=Zcb c zs s:=⟨_,rfl⟩
 rw [←hhm] at HH hb ⊢
 have HB:=zz (Znp c h hm)
 have HR:=zz hr
 obtain⟨sp,hsp⟩:∃sp:Nat,c.spread=(sp:Int):=⟨c.spread.toNat,by omega⟩
 have HSP:=zz hsp
 have hst:c.spread.toNat=sp:=by omega
 rw [hst]
 clear hst
 rw [hsp] at h2
 clear hr hhm hsp
 go_enter Tryz.func60,Tryz.ntmps60
 go_wp2_with fail
 refine(CH.out _).mono ?_
 rintro e w1 ⟨rfl,hw1⟩
 have b1:=Blk.new w 27 (cfC c C n k T 16 j)
 have k1:Keeps NO (w.alloc (.cells (cfC c C n k T 16 j) 27)) w1:=by rw [hw1];exact(Kz0 _ _).alloc _
 have K1:=zz (((Kz0 NO w).alloc (.cells (cfC c C n k T 16 j) 27)).trans k1)
 have kA:=(Kz0 NO w1).alloc (.cells #[.int .i64 0,.int .i64 0,.int .i64 0,.int .i64 0,.int .i64 0,.int .i64 0,.int .i64 0,.int .i64 0] 142)
 have bb:=b1.kept k1 (fun h=> h)
 have B1:=zz (bb.kept kA (fun h=> h))
 have A1:=zz (Blk.new w1 142 #[.int .i64 0,.int .i64 0,.int .i64 0,.int .i64 0,.int .i64 0,.int .i64 0,.int .i64 0,.int .i64 0])
 have K2:=zz (K1.out.trans kA)
 have HR2:=zz (HR.out.kept K2.out (fun _ _ h=> h))
 have hwl:=bb.lt
 clear b1 k1 hw1 HR kA bb
 go_upto_region 4 with fail
 generalize w1.alloc (.cells #[.int .i64 0,.int .i64 0,.int .i64 0,.int .i64 0,.int .i64 0,.int .i64 0,.int .i64 0,.int .i64 0] 142)=w2 at*
 have hGw:w.heap.size≤w1.heap.size:=by omega
 generalize w1.heap.size=G at*
 go_wp2_with (refine Zah _ rfl B1.out rfl (by rfl) ?_;simp only [Zpt])
 refine(HH.out _ HR2.out).mono ?_
 rintro e w3 ⟨rfl,k3⟩
 have K3:=zz (K2.out.trans k3)
 have B3:=zz (B1.out.kept k3 (fun h=> h))
 have A3:=zz (A1.out.kept k3 (fun h=> h))
 have q4:w3.cell? ⟨w.heap.size,4,none⟩=some (.int .i64 c.spread):=B3.out.cell 4
 rw [HSP.out] at q4
 clear k3 K2 B1 A1 HR2 HH CH
 go_wp2_with fail
 go_loopw [7,16] (fun _ iv wr=> ∃(i:Nat) (vs:List Int),i≤sp∧iv= .int .i64 i∧Hid (vs.length=8)∧Hid (∀q,q<i→vs.getD q 0=(hm+(q:Int)) % c.shards)∧Blk wr G 142 (vs.map (.int .i64)).toArray∧Blk wr w.heap.size 27 (cfC c C n k T 16 j)∧Keeps NO w wr) (fun _ iv _=> sp-(intOf iv).toNat)
 case atStart=> exact⟨0,[0,0,0,0,0,0,0,0],by omega,rfl,by rfl,fun q hq=> by omega,A3.out,B3.out,K3.out⟩
 case round=>
  obtain⟨i,vs,hi,rfl,HV,HQ,ab,bb,kp⟩:=hrel
  have AB:=zz ab
  have BB:=zz bb
  have KP:=zz kp
  have hGl:=ab.lt
  have q3:wr.cell? ⟨w.heap.size,3,none⟩=some (.int .i64 c.shards):=bb.cell 3
  have q4':wr.cell? ⟨w.heap.size,4,none⟩=some (.int .i64 c.spread):=bb.cell 4
  rw [HSP.out] at q4'
  clear ab bb kp A3 B3 K3 q4
  by_cases hlt:i<sp
  ·have hc:=AB.out.cell i
   have hf:=AB.out.frozen i
   have hvl:=HV.out
   obtain⟨v,hv⟩:∃v,v=vs.getD i 0:=⟨_,rfl⟩
   have hc':wr.cell? ⟨G,i,none⟩=some (.int .i64 v):=by rw [hc,hv];simp [List.getD,show i<vs.length by omega]
   have hi0:(0:Int)≤(i:Int):=by omega
   have hi1:(i:Int)<8:=by omega
   have hltI:(i:Int)<(sp:Int):=by omega
   have hw1:IntKind.i64.wrap (hm+(i:Int))=hm+(i:Int):=IntWalk.i64_in _ (by omega)
   have hrm:(hm+(i:Int)).tmod c.shards=(hm+(i:Int)) % c.shards:=Int.tmod_eq_emod_of_nonneg (by omega)
   have hbi:=HB.out i
   have hw2:IntKind.i64.wrap ((hm+(i:Int)) % c.shards)=(hm+(i:Int)) % c.shards:=IntWalk.i64_in _ (by omega)
   clear hc hv hvl
   go_wp2_with fail
   have HVL:=HV.out
   go_roundw
   case rel=>
    refine⟨i+1,vs.set i ((hm+(i:Int)) % c.shards),by omega,by go_num,by show _=_;simp [HVL],?_,?_,?_,?_⟩
    ·intro q hq
     by_cases hqi:q=i
     ·subst hqi
      simp [List.getD,List.getElem?_set,show q<vs.length by omega]
     ·have:=HQ.out q (by omega)
      simp only [List.getD,List.getElem?_set,if_neg (Ne.symm hqi)] at this ⊢
      exact this
    ·have:=AB.out.set i (.int .i64 ((hm+(i:Int)) % c.shards))
     rw [List.setIfInBounds_toArray,←List.map_set] at this
     exact this
    ·exact BB.out.far (p:=⟨G,i,none⟩) (by show w.heap.size≠G;exact BB.out.ne AB.out (by decide)) _
    ·exact Keeps.setCell (p:=⟨G,i,none⟩) KP.out (.inr hGw) _
   case measure=> simp [intOf];omega
  ·obtain rfl:i=sp:=by omega
   have hsl:=Zr3 G i (by omega)
   go_wp2_with fail
   go_ret
   have hL:(Zdy c hm i).length=i:=Zfs c hm i
   refine⟨some ⟨G,0,none⟩,i,by rw [hL];rfl,by omega,by simp only [maxLen];omega,⟨by simp [hL],fun _=> ⟨G,0,rfl,hGl,fun q u hq=> ?_⟩⟩,KP.out⟩
   have hqi:q<i:=by
    have:=(List.getElem?_eq_some_iff.1 hq).1
    simpa [hL] using this
   have h1:=HQ.out q hqi
   have h2:=HV.out
   rw [Nat.zero_add,AB.out.cell q]
   rw [←hq]
   have h3:=Zft c hm i q hqi
   simp only [List.getD] at h1 h3
   have e1:vs[q]?=some ((hm+(q:Int)) % c.shards):=by
    rw [List.getElem?_eq_getElem (by omega)] at h1 ⊢
    simpa using h1
   have e2:(Zdy c hm i)[q]?=some ((hm+(q:Int)) % c.shards):=by
    rw [List.getElem?_eq_getElem (by omega)] at h3 ⊢
    simpa using h3
   simp [e1,e2]
open Go.RowKit Cfp
def Zf1 (c:Cfg) (hm:Int) (n:Int):Int:=(hm+n % c.spread) % c.shards
theorem Znu (c:Cfg) (h:Rtd c) (C T:Option Addr) (n k j B:Nat) (w:World) (zs:List Int) (hz:∀z∈zs,0≤z∧z<18446744073709551616) (hr:Rd w B T 1 16 (zs.map (.int .u64))) (s:ByteArray) (hs:s.size≤140737488351232)
  (x:Int) (x0:0≤x) (x1:x<9223372036854775808):
  Calls Tryz.prog 19 #[Value.agg (cfC c C n k T 16 j),.string s,.int .i64 x] w fun e w'=> e= .returned (.int .i64 (Zf1 c (Zcb c zs s) x))∧Keeps NO w w':=by
 have h2:=h.spread
 have h1:=h.shards
 have HH:=zz (fun W (hr:Rd W B T 1 16 (zs.map (.int .u64)))=> Zq6 c h C T n k j B W zs hz hr s hs)
 obtain⟨hm,hhm⟩:∃hm,hm=Zcb c zs s:=⟨_,rfl⟩
 rw [←hhm] at HH ⊢
 have HR:=zz hr
 obtain⟨sp,hst⟩:∃sp,sp=c.spread.toNat:=⟨_,rfl⟩
 rw [←hst] at HH
 have hsp:c.spread=(sp:Int):=by omega
 unfold Zf1
 have HS:=zz hsp
 rw [hsp] at h2
 have hsl:=Zfs c hm sp
 have hi0:0≤x % (sp:Int):=Int.emod_nonneg _ (by omega)
 have hi1:x % (sp:Int)<(sp:Int):=Int.emod_lt_of_pos _ (by omega)
 have hsg:=Zft c hm sp (x % (sp:Int)).toNat (by omega)
 rw [Int.toNat_of_nonneg hi0] at hsg
 have HSG:=zz hsg
 have HSL:=zz hsl
 have HV:Hid ((hm+x % c.spread) % c.shards=(hm+x % (sp:Int)) % c.shards):=by show _=_;rw [hsp]
 rw [HV.out]
 clear hr hhm hsp hst hsg hsl
 go_enter Tryz.func19,Tryz.ntmps19
 go_wp2_with fail
 have b1:=Blk.new w 27 (cfC c C n k T 16 j)
 have k1:=(Kz0 NO w).alloc (.cells (cfC c C n k T 16 j) 27)
 refine(HH.out _ (HR.out.kept k1 (fun _ _ h=> h))).mono ?_
 rintro e w3 ⟨A,cc,rfl,lc,cm,rl,k3⟩
 have K3:=zz (k1.trans k3)
 obtain⟨ln,hln⟩:∃ln,ln=(Zdy c hm sp).length:=⟨_,rfl⟩
 rw [←hln] at lc rl ⊢
 obtain rfl:ln=sp:=by rw [hln,HSL.out]
 obtain⟨b,off,rfl,hb,hc⟩:=rl.2 (by omega)
 obtain⟨y,hy⟩:∃y:Nat,x % (ln:Int)=(y:Int):=⟨(x % (ln:Int)).toNat,by omega⟩
 have hcell:=hc y (.int .i64 ((hm+x % (ln:Int)) % c.shards)) (by
  have h3:=HSG.out
  rw [hy,Int.toNat_natCast] at h3
  have hyl:y<(Zdy c hm ln).length:=by rw [HSL.out];omega
  rw [hy,←h3]
  simp [List.getD,hyl])
 obtain⟨v,hv⟩:∃v,v=(hm+x % (ln:Int)) % c.shards:=⟨_,rfl⟩
 rw [←hv] at hcell
 have HVV:=zz hv
 have hrm:x.tmod (ln:Int)=(y:Int):=by rw [Int.tmod_eq_emod_of_nonneg x0,hy]
 have e0:((ln:Int)==0)=false:=by simp;omega
 have hw:IntKind.i64.wrap (y:Int)=(y:Int):=IntWalk.i64_in _ (by omega)
 have hy1:(y:Int)<(ln:Int):=by omega
 have hy0:(0:Int)≤(y:Int):=by omega
 clear k1 k3 b1 hln rl hc hy hv HSG HH HR HV hi0 hi1
 go_wp2_with fail
 go_ret
 exact⟨Zaa HVV.out,K3.out⟩
end Go.Proofs.YtjamiaamngalgaaGreat
