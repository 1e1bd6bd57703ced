/-
  Parts: Routing of valid configu. No conditions beyond those of the statement.
-/
import Derived.Test.YtjamiaamngalgaaGreatG06
import Derived.Test.YtjamiaamngalgaaGreatG01
import Derived.Deep.CutRange
import Derived.Deep.RegionHeld3
set_option linter.unusedVariables false
set_option linter.unusedSimpArgs false
set_option maxRecDepth 1000000
set_option maxHeartbeats 4000000
namespace Go.Proofs.YtjamiaamngalgaaGreat
open Go.RowKit Cfp
structure Rtd (c:Cfg):Prop where
 shards:1≤c.shards∧c.shards≤8
 spread:1≤c.spread∧c.spread≤c.shards
 seed:0≤c.seed∧c.seed<18446744073709551616
theorem Zce (c:Cfg) (h:Rtd c) (C T:Option Addr) (n k j:Nat) (w:World):
  Calls Tryz.prog 69 #[Value.agg (cfC c C n k T 16 j)] w fun e w'=> e= .returned (.int .i64 0)∧w'=w.alloc (.cells (cfC c C n k T 16 j) 27):=by
 have h1:=h.shards
 have h2:=h.spread
 go_enter Tryz.func69,Tryz.ntmps69
 go_wp2_with (go_at_call 133;refine(Hash.check_16 _ _ _).mono ?_;rintro e w1 ⟨rfl,rfl⟩)
 go_ret
 exact⟨rfl,rfl⟩
def Zcb (c:Cfg) (zs:List Int) (s:ByteArray):Int:=Hash.slot (Hash.key zs c.seed s.data.toList) c.shards
theorem Zse (c:Cfg) (h:Rtd c) (zs:List Int) (s:ByteArray):0≤Zcb c zs s∧Zcb c zs s<c.shards:=by
 have h1:=h.shards
 unfold Zcb Hash.slot
 rw [if_neg (by omega)]
 exact⟨Int.emod_nonneg _ (by omega),Int.emod_lt_of_pos _ (by omega)⟩
theorem Zul (zs:List Int) (seed:Int) (l:List UInt8):0≤Hash.key zs seed l∧Hash.key zs seed l<18446744073709551616:=by
 unfold Hash.key
 split
 ·exact Hash.fin_bd _
 ·omega
theorem Zsd (c:Cfg) (h:Rtd c) (C T:Option Addr) (n k j B:Nat) (w:World) (zs:List Int) (hz:∀z∈zs,0≤z∧z<18446744073709551616) (hr:Rd w B T 1 16 (zs.map (.int .u64))) (s:ByteArray) (hs:s.size≤140737488351232):
  Calls Tryz.prog 119 #[Value.agg (cfC c C n k T 16 j),.string s] w fun e w'=> e= .returned (.int .i64 (Zcb c zs s))∧Keeps NO w w':=by
 have h1:=h.shards
 have kb:=Zul zs c.seed s.data.toList
 have KK:=zz (fun W (hr:Rd W B T 1 16 (zs.map (.int .u64)))=> Hash.key_any zs hz T 16 j B W hr c.seed h.seed.1 h.seed.2 s hs)
 have KS:=zz (fun W=> Hash.slot_any (Hash.key zs c.seed s.data.toList) c.shards kb.1 kb.2 (by omega) (by omega) W)
 have CH:=zz (fun W=> Zce c h C T n k j W)
 unfold Zcb
 obtain⟨hv,hhv⟩:∃hv,hv=Hash.key zs c.seed s.data.toList:=⟨_,rfl⟩
 rw [←hhv] at KK KS kb ⊢
 obtain⟨sv,hsv⟩:∃sv,sv=Hash.slot hv c.shards:=⟨_,rfl⟩
 rw [←hsv] at KS ⊢
 have HR:=zz hr
 clear hr hhv hsv
 go_enter Tryz.func119,Tryz.ntmps119
 go_wp2_with fail
 refine(CH.out _).mono ?_
 rintro e w1 ⟨rfl,hw1⟩
 have b1:=Blk.new w 27 (cfC c C n k T 16 j)
 have k1:Keeps NO (w.alloc (.cells (cfC c C n k T 16 j) 27)) w1:=by rw [hw1];exact(Kz0 _ _).alloc _
 have K1:=zz (((Kz0 NO w).alloc (.cells (cfC c C n k T 16 j) 27)).trans k1)
 have HR1:=zz (HR.out.kept K1.out (fun _ _ h=> h))
 have HK1:=zz (fun q=> KK.out (w1.drewN q) (HR1.out.drewN q))
 obtain⟨c0,c1,c2,c3,c4,c5,c6,c7,c8,c9,c10,c11,c12,c13,c14,c15,c16⟩:=Zb1 (b1.kept k1 (fun h=> h))
 clear b1 k1 hw1 HR KK c0 c1 c2 c4 c5 c6 c7 c8 c9 c10 c11 c12 c13 c14
 go_wp2_with fail
 go_quiet ((first
  | (go_at_call 172;first | exact Zd7 (HK1.out _) | exact Ze0 (HK1.out _))
  | (go_at_call 171;first | exact Zbs (KS.out _) | exact Zas (KS.out _))))
 go_wp2_with fail
 go_ret
 exact⟨rfl,K1.out.drewN _⟩
def Zdy (c:Cfg) (hm:Int) (k:Nat):List Int:=(List.range k).map fun(i:Nat)=> (hm+(i:Int)) % c.shards
theorem Zfs (c:Cfg) (hm:Int) (k:Nat):(Zdy c hm k).length=k:=by simp [Zdy]
theorem Zft (c:Cfg) (hm:Int) (k i:Nat) (hi:i<k):(Zdy c hm k).getD i 0=(hm+(i:Int)) % c.shards:=by simp [Zdy,List.getD,hi]
theorem Znp (c:Cfg) (h:Rtd c) (hm:Int) (i:Nat):0≤(hm+(i:Int)) % c.shards∧(hm+(i:Int)) % c.shards<c.shards:=
 have h1:=h.shards
 ⟨Int.emod_nonneg _ (by omega),Int.emod_lt_of_pos _ (by omega)⟩
def Zhs (w:World) (L:List Int) (e:Ending) (w':World):Prop:=
 ∃(A:Option Addr) (cc:Nat),e= .returned (.slice A L.length cc)∧L.length≤cc∧cc≤maxLen∧Rd w' w'.heap.size A 1 L.length (L.map (.int .i64))∧Keeps NO w w'
end Go.Proofs.YtjamiaamngalgaaGreat
