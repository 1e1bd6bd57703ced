/-
  Parts: Regions of guarded opera; A valid configuration pa; What a valid configurati. No conditions beyond those of the statement.
-/
import Derived.Test.YtjamiaamngalgaaGreatG00
import Derived.Test.YtjamiaamngalgaaGreatG04
import Derived.Deep.CutRange
import Derived.Deep.CutBlock
import Derived.RegionTactic
import Derived.Deep.RegionHeld3
import Derived.IntWalk
set_option linter.unusedVariables false
set_option linter.unusedSimpArgs false
set_option maxRecDepth 1000000
set_option maxHeartbeats 4000000
namespace Go.Proofs.YtjamiaamngalgaaGreat
open Go.RowKit Cfp
section
variable {P:Program} {ops:Array Oper} {Q:Exit→Act→World→Prop} {a:Act} {w:World} {rest:List Oper} {o:Oper}
theorem Zbw (hw:Region.wanted o (yielded ops a.tmps)=true) (h:o.wp P a w (wpList P ops Q rest) Q):wpList P ops Q (o :: rest) a w:=by
 show if Region.wanted o (yielded ops a.tmps) then _ else _
 rw [if_pos hw]
 exact .inl h
theorem Za3 {v:Value} (hw:Region.wanted o (yielded ops a.tmps)=true) (hr:(execOp a.eval o).run P w= .ok (.value v) w) (h:wpList P ops Q rest (a.put o.dst v) w):wpList P ops Q (o :: rest) a w:=
 Zbw hw (by unfold Oper.wp;rw [hr];exact h)
theorem wvV (v:Value) (h:wpList P ops Q rest (a.put o.dst v) w) (hw:Region.wanted o (yielded ops a.tmps)=true:=by kernel_rfl) (hr:(execOp a.eval o).run P w= .ok (.value v) w:=by kernel_rfl):wpList P ops Q (o :: rest) a w:=Za3 hw hr h
theorem wvP (v:Value) {a':Act} (h:wpList P ops Q rest a' w) (hw:Region.wanted o (yielded ops a.tmps)=true:=by kernel_rfl) (hr:(execOp a.eval o).run P w= .ok (.value v) w:=by kernel_rfl) (ha:a.put o.dst v=a':=by((try simp only [Zpt]);try rfl)):wpList P ops Q (o :: rest) a w:=Za3 hw hr (by rw [ha];exact h)
def sk (ops:Array Oper):List Oper→Act→Option Act
 | [],a=> some a
 | o :: l,a=>
   match Region.wanted o (yielded ops a.tmps) with
   | false=> sk ops l (a.put o.dst undef)
   | true=> match o.op with
     | .move x=> sk ops l (a.put o.dst (a.eval x))
     | .pick c x y=> match a.eval c with
       | .bool true=> sk ops l (a.put o.dst (a.eval x))
       | .bool false=> sk ops l (a.put o.dst (a.eval y))
       | _=> none
     | _=> none
theorem Zgz (hw:Region.wanted o (yielded ops a.tmps)=false) (h:wpList P ops Q rest (a.put o.dst undef) w):wpList P ops Q (o :: rest) a w:=by
 show if Region.wanted o (yielded ops a.tmps) then _ else _
 rw [if_neg (by simp [hw])]
 exact h
theorem Zpw (h:Q .normal a w):wpList P ops Q [] a w:=h
theorem Zpx {b off:Nat} {v:Value} {x:Operand} (ho:o.op= .load 24 x) (hw:Region.wanted o (yielded ops a.tmps)=true) (hx:a.eval x= .pointer (some ⟨b,off,none⟩)) (hc:w.cell? ⟨b,off,none⟩=some v) (h:wpList Tryz.prog ops Q rest (a.put o.dst v) w):wpList Tryz.prog ops Q (o :: rest) a w:=by
 refine Zbw hw ?_
 unfold Oper.wp execOp
 simp only [ho,hx]
 go_simp
 exact h
theorem Zav {b off:Nat} {v:Value} {x:Operand} (ho:o.op= .load 3 x) (hw:Region.wanted o (yielded ops a.tmps)=true) (hx:a.eval x= .pointer (some ⟨b,off,none⟩)) (hc:w.cell? ⟨b,off,none⟩=some v) (h:wpList Tryz.prog ops Q rest (a.put o.dst v) w):wpList Tryz.prog ops Q (o :: rest) a w:=by
 refine Zbw hw ?_
 unfold Oper.wp execOp
 simp only [ho,hx]
 go_simp
 exact h
end
open Go.RowKit Cfp
def Room (c:Cfg) (l:List (Int × Int)):Prop:=∃p d,l.length=p+1∧l[p]?=some d∧8*c.width≤d.1∧32≤d.1∧c.key≤d.1
theorem Zez {P:Program} (ts:Array TypeId) (t:TypeId) (x y z u:Int) (w:World):(Builtin.max_ ts t #[.int .i64 x,.int .i64 y,.int .i64 z,.int .i64 u]).run P w= .ok (.int .i64 (max (max (max x y) z) u)) w:=by
 simp [Builtin.max_,Builtin.max2]
 repeat' split
 all_goals omega
theorem Zaz {W W':World} {o:Obj} (h:W'=W.alloc o):Keeps NO W W':=by
 rw [h];exact(Kz0 _ _).alloc _
theorem Zhm (c:Cfg) (h:Fine c) (l:List (Int × Int)) (hl:Za7 l=0) (hm:Room c l) (C T:Option Addr) (n k j B:Nat) (w:World) (hr:Rd w B C 2 n (clv l)) (hB:B≤w.heap.size) (e1:(c.mode != 1)=false):
  Calls Tryz.prog 96 #[Value.agg (cfC c C n k T 16 j)] w fun e w'=> e= .returned (.int .i64 0)∧Keeps NO w w':=by
 obtain⟨p,d,hp,hd,hm1,hm2,hm3⟩:=hm
 have hlen:l.length=n:=by have:=hr.1;rw [Zax] at this;omega
 obtain⟨⟨n0,n1⟩,hb⟩:=Zan l hl
 have hbd:=hb d (List.mem_of_getElem? hd)
 obtain rfl:n=p+1:=by omega
 have HR:=zz hr
 have HD:=zz (Zbb l p d hd).1
 have h6:=h.width
 have hp7:p≤7:=by omega
 have HCs:=zz (fun W (kW:Keeps NO w W)=> Zes l hl C (p+1) k B W (hr.kept kW (fun _ _ h=> h)) (Nat.le_trans hB kW.size))
 have HCl:=zz (fun W=> (Zip c h C T (p+1) k 16 j W).mono fun e w' h=> And.intro (show e=Ending.returned (.int .i64 0) from h.1) (show Keeps NO W w' from Zaz h.2))
 have HRo:=zz (fun W=> (Zfy c h C T (p+1) k j W).mono fun e w' h=> And.intro (show e=Ending.returned (.int .i64 0) from h.1) (show Keeps NO W w' from Zaz h.2))
 have HD0:Hid (decide (c.queue<1)=false):=zz (by have:=h.queue;simp;omega)
 have HD1:Hid (decide (64<c.queue)=false):=zz (by have:=h.queue;simp;omega)
 have HD3:Hid (decide (c.slots<1)=false):=zz (by have:=h.slots;simp;omega)
 have HD4:Hid (decide (64<c.slots)=false):=zz (by have:=h.slots;simp;omega)
 have HD5:Hid (decide (c.exact_<0)=false):=zz (by have:=h.exact_;simp;omega)
 have HD6:Hid (decide (32<c.exact_)=false):=zz (by have:=h.exact_;simp;omega)
 have HD7:Hid (decide (c.depth<1)=false):=zz (by have:=h.depth;simp;omega)
 have HD8:Hid (decide (4<c.depth)=false):=zz (by have:=h.depth;simp;omega)
 have HD9:Hid (decide (c.width<1)=false):=zz (by have:=h.width;simp;omega)
 have HD10:Hid (decide (256<c.width)=false):=zz (by have:=h.width;simp;omega)
 have HD11:Hid (decide (c.top<1)=false):=zz (by have:=h.top;simp;omega)
 have HD12:Hid (decide (64<c.top)=false):=zz (by have:=h.top;simp;omega)
 have HD13:Hid (decide (c.key<1)=false):=zz (by have:=h.key;simp;omega)
 have HD14:Hid (decide (255<c.key)=false):=zz (by have:=h.key;simp;omega)
 have hmx:=fun ts t x y z u w=> Zez (P:=Tryz.prog) ts t x y z u w
 have hmy:decide (d.1<max (max (max (8*c.width) 32) 24) c.key)=false:=by simp;omega
 have w8:IntKind.i64.wrap (8*c.width)=8*c.width:=IntWalk.i64_in _ (by omega)
 have HMy:=zz hmy
 have H6:=zz h6
 have HY:=zz (And.intro hm1 (And.intro hm2 hm3))
 clear hr hp hd hlen n0 n1 hb hm1 hm2 hm3 hmy h6 h hl hbd
 have B0:=zz (Blk.new w 27 (cfC c C (p+1) k T 16 j))
 have K0:=zz ((Kz0 NO w).alloc (.cells (cfC c C (p+1) k T 16 j) 27))
 go_enter Tryz.func96,Tryz.ntmps96
 go_upto_region 1 with fail
 generalize w.alloc _=w0 at*
 generalize w.heap.size=X at*
 refine wp_region_list ?_
 refine Zah (.tmp 1) rfl B0.out rfl (by kernel_rfl) ?_
 simp only [Zpt]
 refine Zbw rfl ?_
 go_simp
 refine(HCl.out _).mono ?_
 rintro e w1 ⟨rfl,kk⟩
 have K1:=zz (K0.out.trans kk)
 have B1:=zz (B0.out.kept kk (fun h=> h))
 clear kk B0 K0 HCl
 dsimp only
 refine Za3 (v:= .bool false) rfl rfl ?_
 simp only [Zpt]
 refine Za3 rfl rfl ?_
 simp only [Zpt]
 refine Zah (.tmp 1) rfl B1.out rfl (by kernel_rfl) ?_
 simp only [Zpt]
 refine Zbw rfl ?_
 go_simp
 refine(HRo.out _).mono ?_
 rintro e w2 ⟨rfl,kk⟩
 have K2:=zz (K1.out.trans kk)
 have B2:=zz (B1.out.kept kk (fun h=> h))
 clear kk B1 K1 HRo
 dsimp only
 have f5:w2.cell? ⟨X,5,none⟩=some (.int .i64 c.queue):=B2.out.cell 5
 have f6:w2.cell? ⟨X,6,none⟩=some (.int .i64 c.mode):=B2.out.cell 6
 have f7:w2.cell? ⟨X,7,none⟩=some (.int .i64 c.slots):=B2.out.cell 7
 have f8:w2.cell? ⟨X,8,none⟩=some (.int .i64 c.exact_):=B2.out.cell 8
 have f10:w2.cell? ⟨X,10,none⟩=some (.int .i64 c.depth):=B2.out.cell 10
 have f11:w2.cell? ⟨X,11,none⟩=some (.int .i64 c.width):=B2.out.cell 11
 have f12:w2.cell? ⟨X,12,none⟩=some (.int .i64 c.top):=B2.out.cell 12
 have f13:w2.cell? ⟨X,13,none⟩=some (.int .i64 c.key):=B2.out.cell 13
 have f14:w2.cell? ⟨X,14,none⟩=some (.slice C (p+1) k):=B2.out.cell 14
 generalize (Value.agg (cfC c C (p+1) k T 16 j))=V at*
 refine Za3 (v:= .bool false) rfl rfl ?_
 simp only [Zpt]
 refine wvP (.bool false) ?_
 refine wvP (.bool false) ?_
 refine wvP (.pointer (some ⟨X,5,none⟩)) ?_
 refine Zav rfl (by kernel_rfl) rfl f5 ?_
 simp only [Zpt]
 refine wvP (.bool (decide (c.queue<1))) ?_
 rw [HD0.out]
 refine wvP (.bool false) ?_
 refine wvP (.bool false) ?_
 refine wvP (.pointer (some ⟨X,5,none⟩)) ?_
 refine Zav rfl (by kernel_rfl) rfl f5 ?_
 simp only [Zpt]
 refine wvP (.bool (decide (64<c.queue))) ?_
 rw [HD1.out]
 refine wvP (.bool false) ?_
 refine wvP (.bool false) ?_
 refine wvP (.pointer (some ⟨X,6,none⟩)) ?_
 refine Zav rfl (by kernel_rfl) rfl f6 ?_
 simp only [Zpt]
 refine wvP (.bool (c.mode != 1)) ?_
 rw [e1]
 refine wvP (.bool false) ?_
 refine Zgz (by kernel_rfl) ?_
 simp only [Zpt]
 refine Zgz (by kernel_rfl) ?_
 simp only [Zpt]
 refine Zgz (by kernel_rfl) ?_
 simp only [Zpt]
 refine wvP (.bool false) ?_
 refine wvP (.bool false) ?_
 refine wvP (.bool false) ?_
 refine wvP (.pointer (some ⟨X,7,none⟩)) ?_
 refine Zav rfl (by kernel_rfl) rfl f7 ?_
 simp only [Zpt]
 refine wvP (.bool (decide (c.slots<1))) ?_
 rw [HD3.out]
 refine wvP (.bool false) ?_
 refine wvP (.bool false) ?_
 refine wvP (.pointer (some ⟨X,7,none⟩)) ?_
 refine Zav rfl (by kernel_rfl) rfl f7 ?_
 simp only [Zpt]
 refine wvP (.bool (decide (64<c.slots))) ?_
 rw [HD4.out]
 refine wvP (.bool false) ?_
 refine wvP (.bool false) ?_
 refine wvP (.pointer (some ⟨X,8,none⟩)) ?_
 refine Zav rfl (by kernel_rfl) rfl f8 ?_
 simp only [Zpt]
 refine wvP (.bool (decide (c.exact_<0))) ?_
 rw [HD5.out]
 refine wvP (.bool false) ?_
 refine wvP (.bool false) ?_
 refine wvP (.pointer (some ⟨X,8,none⟩)) ?_
 refine Zav rfl (by kernel_rfl) rfl f8 ?_
 simp only [Zpt]
 refine wvP (.bool (decide (32<c.exact_))) ?_
 rw [HD6.out]
 refine wvP (.bool false) ?_
 refine wvP (.bool false) ?_
 refine wvP (.pointer (some ⟨X,10,none⟩)) ?_
 refine Zav rfl (by kernel_rfl) rfl f10 ?_
 simp only [Zpt]
 refine wvP (.bool (decide (c.depth<1))) ?_
 rw [HD7.out]
 refine wvP (.bool false) ?_
 refine wvP (.bool false) ?_
 refine wvP (.pointer (some ⟨X,10,none⟩)) ?_
 refine Zav rfl (by kernel_rfl) rfl f10 ?_
 simp only [Zpt]
 refine wvP (.bool (decide (4<c.depth))) ?_
 rw [HD8.out]
 refine wvP (.bool false) ?_
 refine wvP (.bool false) ?_
 refine wvP (.pointer (some ⟨X,11,none⟩)) ?_
 refine Zav rfl (by kernel_rfl) rfl f11 ?_
 simp only [Zpt]
 refine wvP (.bool (decide (c.width<1))) ?_
 rw [HD9.out]
 refine wvP (.bool false) ?_
 refine wvP (.bool false) ?_
 refine wvP (.pointer (some ⟨X,11,none⟩)) ?_
 refine Zav rfl (by kernel_rfl) rfl f11 ?_
 simp only [Zpt]
 refine wvP (.bool (decide (256<c.width))) ?_
 rw [HD10.out]
 refine wvP (.bool false) ?_
 refine wvP (.bool false) ?_
 refine wvP (.pointer (some ⟨X,12,none⟩)) ?_
 refine Zav rfl (by kernel_rfl) rfl f12 ?_
 simp only [Zpt]
 refine wvP (.bool (decide (c.top<1))) ?_
 rw [HD11.out]
 refine wvP (.bool false) ?_
 refine wvP (.bool false) ?_
 refine wvP (.pointer (some ⟨X,12,none⟩)) ?_
 refine Zav rfl (by kernel_rfl) rfl f12 ?_
 simp only [Zpt]
 refine wvP (.bool (decide (64<c.top))) ?_
 rw [HD12.out]
 refine wvP (.bool false) ?_
 refine wvP (.bool false) ?_
 refine wvP (.pointer (some ⟨X,13,none⟩)) ?_
 refine Zav rfl (by kernel_rfl) rfl f13 ?_
 simp only [Zpt]
 refine wvP (.bool (decide (c.key<1))) ?_
 rw [HD13.out]
 refine wvP (.bool false) ?_
 refine wvP (.bool false) ?_
 refine wvP (.pointer (some ⟨X,13,none⟩)) ?_
 refine Zav rfl (by kernel_rfl) rfl f13 ?_
 simp only [Zpt]
 refine wvP (.bool (decide (255<c.key))) ?_
 rw [HD14.out]
 refine wvP (.bool false) ?_
 refine wvP (.bool false) ?_
 refine wvP (.pointer (some ⟨X,14,none⟩)) ?_
 refine Zpx rfl (by kernel_rfl) rfl f14 ?_
 simp only [Zpt]
 refine Zbw rfl ?_
 go_simp
 refine(HCs.out _ K2.out).mono ?_
 rintro e w3 ⟨rfl,kk⟩
 have K3:=zz (K2.out.trans kk)
 have B3:=zz (B2.out.kept kk (fun h=> h))
 clear kk B2 K2 HCs
 dsimp only
 refine wvP (.bool false) ?_
 refine wvP (.bool false) ?_
 refine Zpw ?_
 have f11:w3.cell? ⟨X,11,none⟩=some (.int .i64 c.width):=B3.out.cell 11
 have f13:w3.cell? ⟨X,13,none⟩=some (.int .i64 c.key):=B3.out.cell 13
 have f14':w3.cell? ⟨X,14,none⟩=some (.slice C (p+1) k):=B3.out.cell 14
 obtain⟨b,off,rfl,hbB,hcell⟩:=(HR.out.kept K3.out (fun _ _ h=> h)).2 (by omega)
 have f1:=hcell _ _ HD.out
 have h6:=H6.out
 have hmy:=HMy.out
 clear B3 f5 f6 f7 f8 f10 f12 f14 hcell
 go_wp2_with fail
 all_goals first
  | (go_ret;exact⟨rfl,K3.out⟩)
  | (have hy:=HY.out;exfalso;omega)
theorem Zhl (c:Cfg) (h:Fine c) (l:List (Int × Int)) (hl:Za7 l=0) (hm:Room c l) (C T:Option Addr) (n k j B:Nat) (w:World) (hr:Rd w B C 2 n (clv l)) (hB:B≤w.heap.size) (e1:(c.mode != 1)=true) (e2:(c.mode != 2)=false):
  Calls Tryz.prog 96 #[Value.agg (cfC c C n k T 16 j)] w fun e w'=> e= .returned (.int .i64 0)∧Keeps NO w w':=by
 obtain⟨p,d,hp,hd,hm1,hm2,hm3⟩:=hm
 have hlen:l.length=n:=by have:=hr.1;rw [Zax] at this;omega
 obtain⟨⟨n0,n1⟩,hb⟩:=Zan l hl
 have hbd:=hb d (List.mem_of_getElem? hd)
 obtain rfl:n=p+1:=by omega
 have HR:=zz hr
 have HD:=zz (Zbb l p d hd).1
 have h6:=h.width
 have hp7:p≤7:=by omega
 have HCs:=zz (fun W (kW:Keeps NO w W)=> Zes l hl C (p+1) k B W (hr.kept kW (fun _ _ h=> h)) (Nat.le_trans hB kW.size))
 have HCl:=zz (fun W=> (Zip c h C T (p+1) k 16 j W).mono fun e w' h=> And.intro (show e=Ending.returned (.int .i64 0) from h.1) (show Keeps NO W w' from Zaz h.2))
 have HRo:=zz (fun W=> (Zfy c h C T (p+1) k j W).mono fun e w' h=> And.intro (show e=Ending.returned (.int .i64 0) from h.1) (show Keeps NO W w' from Zaz h.2))
 have HD0:Hid (decide (c.queue<1)=false):=zz (by have:=h.queue;simp;omega)
 have HD1:Hid (decide (64<c.queue)=false):=zz (by have:=h.queue;simp;omega)
 have HD3:Hid (decide (c.slots<1)=false):=zz (by have:=h.slots;simp;omega)
 have HD4:Hid (decide (64<c.slots)=false):=zz (by have:=h.slots;simp;omega)
 have HD5:Hid (decide (c.exact_<0)=false):=zz (by have:=h.exact_;simp;omega)
 have HD6:Hid (decide (32<c.exact_)=false):=zz (by have:=h.exact_;simp;omega)
 have HD7:Hid (decide (c.depth<1)=false):=zz (by have:=h.depth;simp;omega)
 have HD8:Hid (decide (4<c.depth)=false):=zz (by have:=h.depth;simp;omega)
 have HD9:Hid (decide (c.width<1)=false):=zz (by have:=h.width;simp;omega)
 have HD10:Hid (decide (256<c.width)=false):=zz (by have:=h.width;simp;omega)
 have HD11:Hid (decide (c.top<1)=false):=zz (by have:=h.top;simp;omega)
 have HD12:Hid (decide (64<c.top)=false):=zz (by have:=h.top;simp;omega)
 have HD13:Hid (decide (c.key<1)=false):=zz (by have:=h.key;simp;omega)
 have HD14:Hid (decide (255<c.key)=false):=zz (by have:=h.key;simp;omega)
 have hmx:=fun ts t x y z u w=> Zez (P:=Tryz.prog) ts t x y z u w
 have hmy:decide (d.1<max (max (max (8*c.width) 32) 24) c.key)=false:=by simp;omega
 have w8:IntKind.i64.wrap (8*c.width)=8*c.width:=IntWalk.i64_in _ (by omega)
 have HMy:=zz hmy
 have H6:=zz h6
 have HY:=zz (And.intro hm1 (And.intro hm2 hm3))
 clear hr hp hd hlen n0 n1 hb hm1 hm2 hm3 hmy h6 h hl hbd
 have B0:=zz (Blk.new w 27 (cfC c C (p+1) k T 16 j))
 have K0:=zz ((Kz0 NO w).alloc (.cells (cfC c C (p+1) k T 16 j) 27))
 go_enter Tryz.func96,Tryz.ntmps96
 go_upto_region 1 with fail
 generalize w.alloc _=w0 at*
 generalize w.heap.size=X at*
 refine wp_region_list ?_
 refine Zah (.tmp 1) rfl B0.out rfl (by kernel_rfl) ?_
 simp only [Zpt]
 refine Zbw rfl ?_
 go_simp
 refine(HCl.out _).mono ?_
 rintro e w1 ⟨rfl,kk⟩
 have K1:=zz (K0.out.trans kk)
 have B1:=zz (B0.out.kept kk (fun h=> h))
 clear kk B0 K0 HCl
 dsimp only
 refine Za3 (v:= .bool false) rfl rfl ?_
 simp only [Zpt]
 refine Za3 rfl rfl ?_
 simp only [Zpt]
 refine Zah (.tmp 1) rfl B1.out rfl (by kernel_rfl) ?_
 simp only [Zpt]
 refine Zbw rfl ?_
 go_simp
 refine(HRo.out _).mono ?_
 rintro e w2 ⟨rfl,kk⟩
 have K2:=zz (K1.out.trans kk)
 have B2:=zz (B1.out.kept kk (fun h=> h))
 clear kk B1 K1 HRo
 dsimp only
 have f5:w2.cell? ⟨X,5,none⟩=some (.int .i64 c.queue):=B2.out.cell 5
 have f6:w2.cell? ⟨X,6,none⟩=some (.int .i64 c.mode):=B2.out.cell 6
 have f7:w2.cell? ⟨X,7,none⟩=some (.int .i64 c.slots):=B2.out.cell 7
 have f8:w2.cell? ⟨X,8,none⟩=some (.int .i64 c.exact_):=B2.out.cell 8
 have f10:w2.cell? ⟨X,10,none⟩=some (.int .i64 c.depth):=B2.out.cell 10
 have f11:w2.cell? ⟨X,11,none⟩=some (.int .i64 c.width):=B2.out.cell 11
 have f12:w2.cell? ⟨X,12,none⟩=some (.int .i64 c.top):=B2.out.cell 12
 have f13:w2.cell? ⟨X,13,none⟩=some (.int .i64 c.key):=B2.out.cell 13
 have f14:w2.cell? ⟨X,14,none⟩=some (.slice C (p+1) k):=B2.out.cell 14
 generalize (Value.agg (cfC c C (p+1) k T 16 j))=V at*
 refine Za3 (v:= .bool false) rfl rfl ?_
 simp only [Zpt]
 refine wvP (.bool false) ?_
 refine wvP (.bool false) ?_
 refine wvP (.pointer (some ⟨X,5,none⟩)) ?_
 refine Zav rfl (by kernel_rfl) rfl f5 ?_
 simp only [Zpt]
 refine wvP (.bool (decide (c.queue<1))) ?_
 rw [HD0.out]
 refine wvP (.bool false) ?_
 refine wvP (.bool false) ?_
 refine wvP (.pointer (some ⟨X,5,none⟩)) ?_
 refine Zav rfl (by kernel_rfl) rfl f5 ?_
 simp only [Zpt]
 refine wvP (.bool (decide (64<c.queue))) ?_
 rw [HD1.out]
 refine wvP (.bool false) ?_
 refine wvP (.bool false) ?_
 refine wvP (.pointer (some ⟨X,6,none⟩)) ?_
 refine Zav rfl (by kernel_rfl) rfl f6 ?_
 simp only [Zpt]
 refine wvP (.bool (c.mode != 1)) ?_
 rw [e1]
 refine wvP (.bool true) ?_
 refine wvP (.pointer (some ⟨X,6,none⟩)) ?_
 refine Zav rfl (by kernel_rfl) rfl f6 ?_
 simp only [Zpt]
 refine wvP (.bool (c.mode != 2)) ?_
 rw [e2]
 refine wvP (.bool false) ?_
 refine wvP (.bool false) ?_
 refine wvP (.bool false) ?_
 refine wvP (.pointer (some ⟨X,7,none⟩)) ?_
 refine Zav rfl (by kernel_rfl) rfl f7 ?_
 simp only [Zpt]
 refine wvP (.bool (decide (c.slots<1))) ?_
 rw [HD3.out]
 refine wvP (.bool false) ?_
 refine wvP (.bool false) ?_
 refine wvP (.pointer (some ⟨X,7,none⟩)) ?_
 refine Zav rfl (by kernel_rfl) rfl f7 ?_
 simp only [Zpt]
 refine wvP (.bool (decide (64<c.slots))) ?_
 rw [HD4.out]
 refine wvP (.bool false) ?_
 refine wvP (.bool false) ?_
 refine wvP (.pointer (some ⟨X,8,none⟩)) ?_
 refine Zav rfl (by kernel_rfl) rfl f8 ?_
 simp only [Zpt]
 refine wvP (.bool (decide (c.exact_<0))) ?_
 rw [HD5.out]
 refine wvP (.bool false) ?_
 refine wvP (.bool false) ?_
 refine wvP (.pointer (some ⟨X,8,none⟩)) ?_
 refine Zav rfl (by kernel_rfl) rfl f8 ?_
 simp only [Zpt]
 refine wvP (.bool (decide (32<c.exact_))) ?_
 rw [HD6.out]
 refine wvP (.bool false) ?_
 refine wvP (.bool false) ?_
 refine wvP (.pointer (some ⟨X,10,none⟩)) ?_
 refine Zav rfl (by kernel_rfl) rfl f10 ?_
 simp only [Zpt]
 refine wvP (.bool (decide (c.depth<1))) ?_
 rw [HD7.out]
 refine wvP (.bool false) ?_
 refine wvP (.bool false) ?_
 refine wvP (.pointer (some ⟨X,10,none⟩)) ?_
 refine Zav rfl (by kernel_rfl) rfl f10 ?_
 simp only [Zpt]
 refine wvP (.bool (decide (4<c.depth))) ?_
 rw [HD8.out]
 refine wvP (.bool false) ?_
 refine wvP (.bool false) ?_
 refine wvP (.pointer (some ⟨X,11,none⟩)) ?_
 refine Zav rfl (by kernel_rfl) rfl f11 ?_
 simp only [Zpt]
 refine wvP (.bool (decide (c.width<1))) ?_
 rw [HD9.out]
 refine wvP (.bool false) ?_
 refine wvP (.bool false) ?_
 refine wvP (.pointer (some ⟨X,11,none⟩)) ?_
 refine Zav rfl (by kernel_rfl) rfl f11 ?_
 simp only [Zpt]
 refine wvP (.bool (decide (256<c.width))) ?_
 rw [HD10.out]
 refine wvP (.bool false) ?_
 refine wvP (.bool false) ?_
 refine wvP (.pointer (some ⟨X,12,none⟩)) ?_
 refine Zav rfl (by kernel_rfl) rfl f12 ?_
 simp only [Zpt]
 refine wvP (.bool (decide (c.top<1))) ?_
 rw [HD11.out]
 refine wvP (.bool false) ?_
 refine wvP (.bool false) ?_
 refine wvP (.pointer (some ⟨X,12,none⟩)) ?_
 refine Zav rfl (by kernel_rfl) rfl f12 ?_
 simp only [Zpt]
 refine wvP (.bool (decide (64<c.top))) ?_
 rw [HD12.out]
 refine wvP (.bool false) ?_
 refine wvP (.bool false) ?_
 refine wvP (.pointer (some ⟨X,13,none⟩)) ?_
 refine Zav rfl (by kernel_rfl) rfl f13 ?_
 simp only [Zpt]
 refine wvP (.bool (decide (c.key<1))) ?_
 rw [HD13.out]
 refine wvP (.bool false) ?_
 refine wvP (.bool false) ?_
 refine wvP (.pointer (some ⟨X,13,none⟩)) ?_
 refine Zav rfl (by kernel_rfl) rfl f13 ?_
 simp only [Zpt]
 refine wvP (.bool (decide (255<c.key))) ?_
 rw [HD14.out]
 refine wvP (.bool false) ?_
 refine wvP (.bool false) ?_
 refine wvP (.pointer (some ⟨X,14,none⟩)) ?_
 refine Zpx rfl (by kernel_rfl) rfl f14 ?_
 simp only [Zpt]
 refine Zbw rfl ?_
 go_simp
 refine(HCs.out _ K2.out).mono ?_
 rintro e w3 ⟨rfl,kk⟩
 have K3:=zz (K2.out.trans kk)
 have B3:=zz (B2.out.kept kk (fun h=> h))
 clear kk B2 K2 HCs
 dsimp only
 refine wvP (.bool false) ?_
 refine wvP (.bool false) ?_
 refine Zpw ?_
 have f11:w3.cell? ⟨X,11,none⟩=some (.int .i64 c.width):=B3.out.cell 11
 have f13:w3.cell? ⟨X,13,none⟩=some (.int .i64 c.key):=B3.out.cell 13
 have f14':w3.cell? ⟨X,14,none⟩=some (.slice C (p+1) k):=B3.out.cell 14
 obtain⟨b,off,rfl,hbB,hcell⟩:=(HR.out.kept K3.out (fun _ _ h=> h)).2 (by omega)
 have f1:=hcell _ _ HD.out
 have h6:=H6.out
 have hmy:=HMy.out
 clear B3 f5 f6 f7 f8 f10 f12 f14 hcell
 go_wp2_with fail
 all_goals first
  | (go_ret;exact⟨rfl,K3.out⟩)
  | (have hy:=HY.out;exfalso;omega)
theorem Zer (c:Cfg) (h:Fine c) (l:List (Int × Int)) (hl:Za7 l=0) (hm:Room c l) (C T:Option Addr) (n k j B:Nat) (w:World) (hr:Rd w B C 2 n (clv l)) (hB:B≤w.heap.size):
  Calls Tryz.prog 96 #[Value.agg (cfC c C n k T 16 j)] w fun e w'=> e= .returned (.int .i64 0)∧Keeps NO w w':=by
 by_cases e:c.mode=1
 ·exact Zhm c h l hl hm C T n k j B w hr hB (by simp [e])
 ·exact Zhl c h l hl hm C T n k j B w hr hB (by simp [e]) (by have:=h.mode;simp;omega)
open Go.RowKit Cfp
theorem box1 {w w4:World} {t:TypeId} {cs:Array Value} (k:Keeps NO (w.alloc (.cells cs t)) w4):Blk w4 w.heap.size t cs∧Keeps NO w w4:=
 ⟨(Blk.new w t cs).kept k (fun h=> h),((Kz0 NO w).alloc _).trans k⟩
theorem Zi4 {a b A B:Int} (ha:0≤a∧a≤A) (hb:0≤b∧b≤B):0≤a*b∧a*b≤A*B:=
 ⟨Int.mul_nonneg ha.1 hb.1,Int.le_trans (Int.mul_le_mul_of_nonneg_right ha.2 hb.1) (Int.mul_le_mul_of_nonneg_left hb.2 (Int.le_trans ha.1 ha.2))⟩
theorem Fine.sw {c:Cfg} (h:Fine c):0≤c.shards*c.windows∧c.shards*c.windows≤64:=Zi4 (A:=8) (B:=8) (by have:=h.shards;omega) (by have:=h.windows;omega)
theorem Fine.swd {c:Cfg} (h:Fine c):0≤c.shards*c.windows*c.depth∧c.shards*c.windows*c.depth≤256:=Zi4 (A:=64) (B:=4) h.sw (by have:=h.depth;omega)
theorem Fine.sq {c:Cfg} (h:Fine c):0≤c.shards*c.queue∧c.shards*c.queue≤512:=Zi4 (A:=8) (B:=64) (by have:=h.shards;omega) (by have:=h.queue;omega)
theorem Fine.tr {c:Cfg} (h:Fine c):0≤Za4 c∧Za4 c≤6144:=Zi4 (A:=64) (B:=96) h.sw (by have:=h.slots;have:=h.exact_;omega)
theorem Zj0 (c:Cfg) (h:Fine c) (l:List (Int × Int)) (hl:Za7 l=0) (hm:Room c l) (C T:Option Addr) (n k j B:Nat) (w:World) (hr:Rd w B C 2 n (clv l)) (hB:B≤w.heap.size):
  Calls Tryz.prog 98 #[Value.agg (cfC c C n k T 16 j)] w fun e w'=> e= .returned (.int .i64 (Za4 c))∧Keeps NO w w':=by
 have HR:=zz hr
 have h1:=h.shards
 have h2:=h.windows
 have h3:=h.slots
 have h4:=h.exact_
 have h5:=h.sw
 have h6:=h.tr
 have hw1:IntKind.i64.wrap (c.shards*c.windows)=c.shards*c.windows:=IntWalk.i64_in _ (by omega)
 have hw2:IntKind.i64.wrap (c.shards*c.windows*(c.slots+c.exact_))=c.shards*c.windows*(c.slots+c.exact_):=IntWalk.i64_in _ (by unfold Za4 at h6;omega)
 have HW1:=zz hw1
 have HW2:=zz hw2
 clear hr hw1 hw2
 go_enter Tryz.func98,Tryz.ntmps98
 go_wp2_with fail
 refine(Zer c h l hl hm _ _ _ _ _ B _ (HR.out.kept ((Kz0 NO w).alloc _) (fun _ _ h=> h)) (Nat.le_trans hB ((Kz0 NO w).alloc _).size)).mono ?_
 rintro e w4 ⟨rfl,k4⟩
 obtain⟨b4,k4⟩:=box1 k4
 have f2:w4.cell? ⟨w.heap.size,2,none⟩=some (.int .i64 c.windows):=b4.cell 2
 have f3:w4.cell? ⟨w.heap.size,3,none⟩=some (.int .i64 c.shards):=b4.cell 3
 have f7:w4.cell? ⟨w.heap.size,7,none⟩=some (.int .i64 c.slots):=b4.cell 7
 have f8:w4.cell? ⟨w.heap.size,8,none⟩=some (.int .i64 c.exact_):=b4.cell 8
 have K4:=zz k4
 have hw1:=HW1.out
 have hw2:=HW2.out
 clear k4 b4
 go_wp2_with fail
 go_ret
 refine⟨Zaa ?_,K4.out⟩
 unfold Za4
 first | rfl | (simp only [wrap64] at *; omega)
theorem Zfw (n:Nat) (hn:n≤65536) (w:World):(Instr.makeSlice 22 (.int .i64 (n:Int)) (.int .i64 (n:Int))).run Tryz.prog w= .ok (.slice (some ⟨w.heap.size,0,none⟩) n n) (w.alloc (.cells (List.replicate n (.int .i64 0)).toArray 3)):=by
 have hi:(Tryz.prog.info? 3).map (fun i=> (i.zero,i.size,i.bytes))=some (some (.int .i64 0),1,8):=by kernel_rfl
 obtain⟨i,h1,h2,h3,h4⟩:=info_parts hi
 have hr:=run_make (P:=Tryz.prog) w 22 3 i (.int .i64 0) Tryz.underlying22 h1 h2 .i64 .i64 (n:Int) (n:Int) (by omega) (by omega) (by rw [h4];omega) (by omega)
 rw [hr,Int.toNat_natCast,h3,Nat.mul_one]
 have:madeCells (Value.int .i64 0).cells n=(List.replicate n (Value.int .i64 0)).toArray:=by
  apply Array.ext'
  rw [show(Value.int .i64 0).cells= #[Value.int .i64 0] from rfl]
  refine List.ext_getElem (by simp [madeCells]) (fun j h1 h2=> ?_)
  simp [madeCells,Nat.mod_one]
 rw [this]
def Nums (w:World) (g:Nat) (zs:List Int):Prop:=Blk w g 3 (zs.map (.int .i64)).toArray
theorem Nums.kept {S:Nat→Prop} {w w':World} {g:Nat} {zs:List Int} (h:Nums w g zs) (k:Keeps S w w') (hg:¬S g):Nums w' g zs:=Blk.kept h k hg
theorem Nums.cell {w:World} {g:Nat} {zs:List Int} (h:Nums w g zs) (i:Nat) (hi:i<zs.length):w.cell? ⟨g,i,none⟩=some (.int .i64 (zs.getD i 0)):=by
 rw [Blk.cell h];simp [List.getD,hi]
theorem Nums.frozen {w:World} {g:Nat} {zs:List Int} (h:Nums w g zs) (i:Nat):w.frozen? ⟨g,i,none⟩=false:=Blk.frozen h i
theorem Nums.add {w:World} {g:Nat} {zs:List Int} (h:Nums w g zs) (i:Nat) (x:Int):Nums (w.setCell ⟨g,i,none⟩ (.int .i64 (zs.getD i 0+x))) g (Zbk zs i x):=by
 have:=Blk.set h i (.int .i64 (zs.getD i 0+x))
 unfold Nums Zbk
 simpa [List.map_set] using this
theorem Nums.lt {w:World} {g:Nat} {zs:List Int} (h:Nums w g zs):g<w.heap.size:=Blk.lt h
theorem Zb1 {w:World} {g:Nat} {c:Cfg} {C T:Option Addr} {n k j:Nat} (h:Blk w g 27 (cfC c C n k T 16 j)):
  (w.cell? ⟨g,0,none⟩=some (.int .i64 c.length)∧w.cell? ⟨g,1,none⟩=some (.int .i64 c.lateness)∧w.cell? ⟨g,2,none⟩=some (.int .i64 c.windows)∧w.cell? ⟨g,3,none⟩=some (.int .i64 c.shards)∧
   w.cell? ⟨g,4,none⟩=some (.int .i64 c.spread)∧w.cell? ⟨g,5,none⟩=some (.int .i64 c.queue)∧w.cell? ⟨g,6,none⟩=some (.int .i64 c.mode)∧w.cell? ⟨g,7,none⟩=some (.int .i64 c.slots)∧
   w.cell? ⟨g,8,none⟩=some (.int .i64 c.exact_)∧w.cell? ⟨g,9,none⟩=some (.int .u64 c.promote)∧w.cell? ⟨g,10,none⟩=some (.int .i64 c.depth)∧w.cell? ⟨g,11,none⟩=some (.int .i64 c.width)∧
   w.cell? ⟨g,12,none⟩=some (.int .i64 c.top)∧w.cell? ⟨g,13,none⟩=some (.int .i64 c.key)∧w.cell? ⟨g,14,none⟩=some (.slice C n k)∧w.cell? ⟨g,15,none⟩=some (.slice T 16 j)∧
   w.cell? ⟨g,16,none⟩=some (.int .u64 c.seed)):=
 ⟨h.cell 0,h.cell 1,h.cell 2,h.cell 3,h.cell 4,h.cell 5,h.cell 6,h.cell 7,h.cell 8,h.cell 9,h.cell 10,h.cell 11,h.cell 12,h.cell 13,h.cell 14,h.cell 15,h.cell 16⟩
end Go.Proofs.YtjamiaamngalgaaGreat
