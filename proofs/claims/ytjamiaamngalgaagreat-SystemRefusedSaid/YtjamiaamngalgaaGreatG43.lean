/-
  Parts: tier.open of a tier in u; tier.New's deferred clos. No conditions beyond those of the statement.
-/
import Derived.Test.YtjamiaamngalgaaGreatG42
import Derived.Defers
set_option linter.unusedVariables false
set_option linter.unusedSimpArgs false
set_option maxRecDepth 1000000
set_option maxHeartbeats 4000000
namespace Go.Proofs.YtjamiaamngalgaaGreat
open Go.RowKit Cfp
theorem Zex (w:World) (tr M:Nat) (hc:w.cell? ⟨tr,23,none⟩=some (.map (some M))):Calls Tryz.prog 128 #[.pointer (some ⟨tr,0,none⟩)] w fun e w'=> e= .returned (.bool true)∧w=w':=by
 have qT:∀(w:World) (r:Option Nat),(binOp .neq 256 (.map r) (.map none)).run Tryz.prog w= .ok (.bool (!r.isNone)) w:=fun w r=> run_neq_map_nil w _ _ _ r Tryz.underlying256
 go_enter Tryz.func128,Tryz.ntmps128
 go_wp2_with fail
 go_ret
 exact⟨rfl,rfl⟩
theorem Zqu (w:World) (tr B t:Nat) (p:SvP) (k:ByteArray) (v tot:Int) (h:Tb1 w B t p (some (k,v)) tot) (hk:k.size≤140737488351232) (c19:w.cell? ⟨tr,19,none⟩=some (.pointer (some ⟨t,0,none⟩))) (c10:w.cell? ⟨tr,10,none⟩=some (.int .i64 0)):
  Calls Tryz.prog 191 #[.pointer (some ⟨tr,0,none⟩),.string k] w fun e w'=> e= .returned (.int .i64 0)∧Keeps NO w w':=by
 have HG:=zz (Zq0 w B t p tot k v h hk)
 have hl:tr<w.heap.size:=block_lt_of_cell c10
 clear h
 go_enter Tryz.func191,Tryz.ntmps191
 go_wp2_with fail
 refine HG.out.mono ?_
 rintro e w1 ⟨rfl,k1⟩
 have d10:=k1.cell_some c10 (fun h=> h)
 have hl1:tr<w1.heap.size:=block_lt_of_cell d10
 have K1:=zz k1
 clear k1 c19 c10 HG
 go_upto_region 2 with fail
 have k2:=(Kz0 NO w1).alloc (.cells #[.string k,.int .u64 v,.int .u64 0] 263)
 have e10:=k2.cell_some d10 (fun h=> h)
 have K2:=zz (K1.out.trans k2)
 clear k2 d10
 generalize w1.alloc _=w2 at*
 go_quiet (fail)
 go_wp2_with fail
 go_ret
 exact⟨rfl,K2.out.drewN _⟩
open Go.RowKit Cfp
theorem Zcd {P:Program} {c:Code} {Q:Exit→Act→World→Prop} {a:Act} {w:World} (h:Code.wp P c (fun e a w=> (∀x,e≠ .panic x)∧Q e a w) a w):Code.wp P c Q a w:=
 Code.wp_mono (fun _ _ _ h=> h.2) h
theorem Zk6 (w:World) (x y:Nat) (u:FrameMode) (hu:u≠ .run) (hc:w.cell? ⟨x,0,none⟩=some (.int .i64 0)):
  CallsD Tryz.prog 185 #[.pointer (some ⟨x,0,none⟩),.pointer (some ⟨y,0,none⟩)] u w fun e u' w'=> u'=u∧(e= .returned (.tuple #[])∧w'=w):=by
 go_enter_d Tryz.func185,Tryz.ntmps185
 go_wp2_with fail
 go_end0
 exact⟨rfl,rfl⟩
end Go.Proofs.YtjamiaamngalgaaGreat
