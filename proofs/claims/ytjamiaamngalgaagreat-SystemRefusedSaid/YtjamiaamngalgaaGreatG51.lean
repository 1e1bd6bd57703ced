/-
  Parts: tier.Release of a tier w; tier.New over shared mem; shard.Step of the first; shard.Step of the first; shard.Dr. No conditions beyond those of the statement.
-/
import Derived.Test.YtjamiaamngalgaaGreatG00
import Derived.Test.YtjamiaamngalgaaGreatG47
import Derived.Test.YtjamiaamngalgaaGreatG50
import Derived.Maps.RangeWalk
import Derived.Test.YtjamiaamngalgaaGreatG48
import Derived.Test.YtjamiaamngalgaaGreatG20
import Derived.Test.YtjamiaamngalgaaGreatG34
import Derived.Test.YtjamiaamngalgaaGreatG35
set_option linter.unusedVariables false
set_option linter.unusedSimpArgs false
set_option maxRecDepth 1000000
set_option maxHeartbeats 4000000
namespace Go.Proofs.YtjamiaamngalgaaGreat
open Go.WideMaps Go.RowKit Go.ChangeMaps Go.MapKept Go.WideShapes Go.Maps Cfp
theorem Mp.ownsS {w:World} {M:Nat} {key:ByteArray} {v:Value} (h:Mp Tryz.prog 9 enS w M [(key,v)]) (hk:key.size≤maxLen):
  ∃D0:DataW Unit,w.ownsMap Tryz.prog 9 anyV M 1 D0∧Maps.size D0=1∧∀kl,Maps.has D0 kl=true→kl= .string key.data.toList:=by
 obtain⟨es,c,h1,h2,h3,h4,h5⟩:=h
 have hlen:es.size=1:=by have:=congrArg List.length h2;simpa using this
 obtain⟨x,hx⟩:∃x,es.toList= [x]:=by
  have:es.toList.length=1:=by rw [Array.length_toList,hlen]
  exact List.length_eq_one_iff.1 this
 rw [hx] at h2
 simp only [List.map_cons,List.map_nil,List.cons.injEq,Prod.mk.injEq,and_true] at h2
 have hkey:keyOf Tryz.prog 9 x.key=some (.string key.data.toList):=by rw [h2.1];exact keyOf_string_mk Tryz.underlying9 hk
 refine⟨.map ((es.toList.map (Go.WideElems.rg Tryz.prog 9 anyV)).foldr DataW.insert []),⟨es,c,h1,⟨by rw [hlen];decide,h5,fun y hy=> ?_⟩,by omega,rfl⟩,?_,?_⟩
 ·rw [hx] at hy
  obtain rfl:=List.mem_singleton.1 hy
  exact⟨(.string key.data.toList,.nil),by unfold Go.WideElems.rd;rw [hkey];rfl⟩
 ·rw [hx];rfl
 ·intro kl hkl
  rw [hx] at hkl
  have:Go.WideElems.rg Tryz.prog 9 anyV x=(.string key.data.toList,.nil):=by unfold Go.WideElems.rg Go.WideElems.rd;rw [hkey];rfl
  simp only [List.map_cons,List.map_nil,List.foldr_cons,List.foldr_nil,this] at hkl
  obtain⟨p,hp,hpk⟩:=List.any_eq_true.1 hkl
  have hp':p=(.string key.data.toList,.nil):=by simpa [DataW.insert] using hp
  subst hp'
  exact(WideAt.sameKey_eq hpk).symm
theorem Zdm {P:Program} {w:World} {ops:Array Oper} {rest:List Oper} {o:Oper} {a:Act} {Q:Exit→Act→World→Prop} (hg:o.guard=none) (it:Operand) (hop:o.op=Op.next it false) (r:Nat) (hit:a.eval it= .pointer (some ⟨r,0,none⟩))
  (hrun:∀ty,(Instr.next (.pointer (some ⟨r,0,none⟩)) false ty).run P w= .ok (.tuple #[.bool false]) w) (hK:wpList P ops Q rest (a.put o.dst (.tuple #[.bool false])) w):wpList P ops Q (o :: rest) a w:=by
 refine wpList_plain hg fun K' hK'=> ?_
 unfold Oper.wp
 simp [execOp,hop,hit,hrun,Result.andThen]
 exact hK' _ _ hK
theorem Zjt {s t:ByteArray} (h:s.data.toList=t.data.toList):s=t:=by
 obtain⟨⟨s⟩⟩:=s
 obtain⟨⟨t⟩⟩:=t
 simp at h
 subst h
 rfl
theorem Zok (key:Value) (kl:Lit) (h:keyOf Tryz.prog 9 key=some kl):∃x:ByteArray,key= .string x:=by
 cases key <;> simp [keyOf,mapKey,Tryz.underlying9] at h
 exact⟨_,rfl⟩
def TRel (w:World) (B:Nat) (mb:MB) (nk:Int) (sh:List (Int × Int)) (P:TP) (m:Int) (e:Ending) (w':World):Prop:=
 e= .returned (.tuple #[])∧∃(E':List PE) (s':Ar),Mm w' B P.a P.p mb nk sh E' s' m∧Keeps (fun b=> GvF mb P.M w b∨b=P.tr) w w'
theorem Zqt (w:World) (B:Nat) (mb:MB) (nk:Int) (sh:List (Int × Int)) (P:TP) (u:Option (ByteArray × Int)) (R:Cmp.Rows) (t1 t2:Int) (E:List PE) (s:Ar) (m:Int) (key:ByteArray) (i1 k1:Nat) (g1:Int) (i2 k2:Nat) (g2:Int) (id:Nat)
  (h:Tu w P u R t1 t2 [(key,hdV i2 k2 g2 id)] [.int .i64 (i1:Int),.int .i64 (k1:Int),.int .i64 g1]) (hm:Mm w B P.a P.p mb nk sh E s m) (hne:P.M≠mb) (hk:key.size≤255) (l1:LV s i1 k1 g1 []) (l2:LV s i2 k2 g2 []) (hap:¬(i2=i1∧k2=k1)) (x:PE) (ex:E[id]?=some x) (xu:0<x.users) (hm9:m<800000):
  Calls Tryz.prog 186 #[.pointer (some ⟨P.tr,0,none⟩)] w (TRel w B mb nk sh P m):=by
 have HOp:=zz (Zex w P.tr P.M (h.blk.cell 23))
 have c22:w.cell? ⟨P.tr,22,none⟩=some (.slice P.A 1 P.cc):=h.blk.cell 22
 obtain⟨GA,hGA,_,_⟩:=h.rw.some_ (by omega)
 have hrw:=h.rw
 rw [hGA] at hrw
 have r0:=hrw.cell 0 (by omega)
 have r1:=hrw.cell 1 (by omega)
 have r2:=hrw.cell 2 (by omega)
 rw [hGA] at c22
 have H:=zz h
 have HM:=zz hm
 have HL1:=zz l1
 have HL2:=zz l2
 have HAp:=zz hap
 have HE:=zz ex
 have HGA:=zz hGA
 clear h hm l1 l2 hap ex hrw hGA
 go_enter Tryz.func186,Tryz.ntmps186
 go_wp2_with fail
 refine HOp.out.mono ?_
 rintro e w1 ⟨rfl,rfl⟩
 clear HOp
 go_upto_region 2 with fail
 go_loopw [13] (fun iv wr=> (iv= .int .i64 0∧wr=w)∨(iv= .int .i64 1∧Hid (∃s1,Tu wr P u R t1 t2 [(key,hdV i2 k2 g2 id)] [.int .i64 (i1:Int),.int .i64 (k1:Int),.int .i64 g1]∧Mm wr B P.a P.p mb nk sh E s1 m∧LV s1 i2 k2 g2 []∧Keeps (GvF mb P.M w) w wr))) (fun iv _=> 1-(intOf iv).toNat)
 case atStart=> exact .inl ⟨rfl,rfl⟩
 case round=>
  rcases hrel with ⟨rfl,rfl⟩ | ⟨rfl,HR⟩
  ·go_upto_region 4 with fail
   have kX:=(Kz0 NO wr).alloc (.cells #[.int .i64 (i1:Int),.int .i64 (k1:Int),.int .i64 g1] 236)
   have HB:=zz (Blk.new wr 236 #[.int .i64 (i1:Int),.int .i64 (k1:Int),.int .i64 g1])
   have KX:=zz kX
   clear kX c22 r0 r1 r2
   generalize wr.alloc _=w1 at*
   generalize wr.heap.size=X at*
   have K1:=zz (KX.out.drew)
   have HS1:=zz (show w1.drew.cell? ⟨P.tr,0,none⟩=some (.pointer (some ⟨P.a,0,none⟩))∧Blk w1.drew X 236 #[.int .i64 (i1:Int),.int .i64 (k1:Int),.int .i64 g1] from⟨(H.out.quiet K1.out).blk.cell 0,HB.out.kept ((Kz0 NO w1).drew) (fun h=> h)⟩)
   refine wp_region_held_drew (S:=fun W=> W.cell? ⟨P.tr,0,none⟩=some (.pointer (some ⟨P.a,0,none⟩))∧Blk W X 236 #[.int .i64 (i1:Int),.int .i64 (k1:Int),.int .i64 g1]) (by kernel_rfl) HS1.out (fun hHeld=> ?_)
   refine tkA 0 ?_
   refine tkA 1 ?_
   refine tkA 2 ?_
   refine tkA 3 ?_ (hy:=by intro w hSw; (try dsimp only at hSw); (have q1:=hSw.1);clear hSw;go_simp;try (with_reducible rfl))
   refine tkA 4 ?_ (hy:=by intro w hSw; (try dsimp only at hSw); (have q1:=hSw.2.cell 0;have q2:=hSw.2.cell 1;have q3:=hSw.2.cell 2);clear hSw;go_simp;try (with_reducible rfl))
   generalize w1.drew=wd at*
   refine rd1 5 (fun K hK=> ?_)
   go_simp
   go_at_call 122
   refine(Zlb (HM.out.quiet K1.out) i1 k1 g1 HL1.out).mono ?_
   rintro e w2 ⟨rfl,s2,m2,lv2,_,kk2⟩
   have HR2:=zz (show∃s1,Tu w2 P u R t1 t2 [(key,hdV i2 k2 g2 id)] [.int .i64 (i1:Int),.int .i64 (k1:Int),.int .i64 g1]∧Mm w2 B P.a P.p mb nk sh E s1 m∧LV s1 i2 k2 g2 []∧Keeps (GvF mb P.M wr) wr w2 from
    ⟨s2,(H.out.quiet K1.out).mm kk2 hne,m2,(lv2 _ _ _ _).2 ⟨HL2.out,HAp.out⟩,GvF.trans (GvF.quiet K1.out) (GvF.mm (M:=P.M) kk2)⟩)
   have HS2:=zz (show w2.cell? ⟨P.tr,0,none⟩=some (.pointer (some ⟨P.a,0,none⟩))∧Blk w2 X 236 #[.int .i64 (i1:Int),.int .i64 (k1:Int),.int .i64 g1] from⟨((H.out.quiet K1.out).mm kk2 hne).blk.cell 0,HS1.out.2.mm kk2 (by decide) (by decide) (by decide) (by decide) (by decide)⟩)
   clear m2 lv2 kk2 H HM HB HS1 K1 KX
   try go_wp2_with fail
   refine hK.out _ _ (HS2.out) (fun hHeld=> ?_)
   clear hK K
   (try simp only [Zpt])
   refine wpAnyH_done (by kernel_rfl) ?_ _
   go_wp2_with fail
   go_roundw
   case rel=> exact .inr ⟨rfl,HR2⟩
   case measure=> simp [intOf]
  ·obtain⟨wo,rfl⟩:∃wo:World,wo=wr:=⟨_,rfl⟩
   obtain⟨s1,t1',m1',lv1',kk1⟩:=HR.out
   have HT:=zz t1'
   have HM1:=zz m1'
   have HLv:=zz lv1'
   have HK1:=zz kk1
   have c23:wo.cell? ⟨P.tr,23,none⟩=some (.map (some P.M)):=t1'.blk.cell 23
   obtain⟨D0,hown,hsz,hkey⟩:=t1'.mp.ownsS (by simp only [maxLen];omega)
   have HKey:=zz hkey
   clear t1' m1' lv1' kk1 hkey c22 r0 r1 r2 H HM
   go_wp2_with (first | (at_range;refine wpList_range_own _ rfl _ 256 rfl 9 373 (string_keyed Tryz.underlying9) Tryz.underlying256 anyV P.M 1 D0 rfl hown ?_;intro w6 hrg hg6 hs6) | go_in)
   go_frame
   rw [hsz] at hrg
   have K6:=zz ((Kz0 NO wo).grown hg6 (fun k e _=> by cases e))
   obtain⟨r,hr⟩:∃r,r=wo.heap.size:=⟨_,rfl⟩
   rw [←hr] at hrg ⊢
   have HRg:=zz hrg
   have HRr:=zz hr
   clear hrg hg6 hs6 hown hr c23
   go_loopw [] (fun wr=> wr=w6∨Hid (∃es cl since seen c0 E9 s9,wr.heap[P.M]?=some (.map es cl)∧es.toList= []∧wr.heap[r]?=some (.mapIter (some P.M) since seen c0)∧since≤c0∧Tu wr P u R t1 t2 [] [.int .i64 (i1:Int),.int .i64 (k1:Int),.int .i64 g1]∧Mm wr B P.a P.p mb nk sh E9 s9 m∧Keeps (GvF mb P.M w) w wr)) (fun wr=> wr.rangeLeft P.M r)
   case atStart=> exact .inl rfl
   case round=>
    rcases hrel with rfl | HB
    ·have hrg:=HRg.out
     go_wp2_with (at_next;refine wpList_next_ranges _ rfl _ rfl 9 (string_keyed Tryz.underlying9) anyV (fun s:ByteArray=> Value.string s) (fun v:Value=> v) Zok (fun v y _=> ⟨v,rfl⟩) P.M r 1 D0 _ _ rfl hrg ?_ ?_)
     intro xk cv kl yd yl w7 cnt' hkx hlk hyd hyl hat hrg7 hlt hg7 hs7 hen
     have hkl:=HKey.out kl hlk
     have hxe:xk=key:=by
      rw [keyOf_string_mk Tryz.underlying9 (by
       have:=hkx
       simp only [keyOf,mapKey,Tryz.underlying9] at this
       by_cases h9:xk.size≤maxLen
       ·exact h9
       ·rw [if_neg h9] at this;cases this)] at hkx
      rw [hkl] at hkx
      injection hkx with hkx
      injection hkx with hkx
      exact Zjt hkx
     subst hxe
     have hre:=HRr.out
     have k7:=K6.out.grown hg7 (fun k e hlt=> by injection e with e;omega)
     have HT7:=zz (HT.out.quiet k7)
     have K7:=zz k7
     obtain⟨es7,cl7,since,seen,c0,hb7,_,_,_,hr7,_,_,_,_,hsc,_⟩:=hrg7
     have HI7:=zz (And.intro hr7 hsc)
     have HGv:=zz (Znj w7 B mb nk sh P u R t1 t2 _ _ E s1 m HT7.out (HM1.out.quiet k7) hne 0 xk i2 k2 g2 id rfl HLv.out x HE.out xu hm9)
     have HLe:=zz hrg.left_eq
     have hr7':r<w7.heap.size:=(Array.getElem?_eq_some_iff.1 hr7).1
     clear k7 hb7 hr7 hsc hg7 hs7 hrg hre hkx hlk hat hlt hkl
     go_wp2_with fail
     refine HGv.out.mono ?_
     rintro e w8 ⟨rfl,E9,s9,t9,m9,lv9,k9⟩
     have hr8:w8.heap[r]?=some (.mapIter (some P.M) since seen c0):=by
      refine(k9.block r hr7' ?_).trans HI7.out.1
      rintro(h1 | h1)
      ·rcases h1 with ⟨_,cs,ty,h2,_⟩ | ⟨_,⟨cs,ty,h2,_⟩ | ⟨_,es,c,h2⟩⟩
       ·have:=h2.symm.trans HI7.out.1;injection this with this;cases this
       ·have:=h2.symm.trans HI7.out.1;injection this with this;cases this
       ·have:=h2.symm.trans HI7.out.1;injection this with this;cases this
      ·obtain⟨es,c,h2,_⟩:=HT7.out.mp
       have h3:=HI7.out.1
       rw [h1] at h3
       have:=h2.symm.trans h3;injection this with this;cases this
     have mp9:Mp Tryz.prog 9 enS w8 P.M []:=t9.mp
     obtain⟨es9,cl9,hb9,he9,_⟩:=mp9
     have hes9:es9.toList= []:=by simpa using he9
     have HB9:=zz (show∃es cl since seen c0 E9 s9,w8.heap[P.M]?=some (.map es cl)∧es.toList= []∧w8.heap[r]?=some (.mapIter (some P.M) since seen c0)∧since≤c0∧Tu w8 P u R t1 t2 [] [.int .i64 (i1:Int),.int .i64 (k1:Int),.int .i64 g1]∧Mm w8 B P.a P.p mb nk sh E9 s9 m∧Keeps (GvF mb P.M w) w w8 from
      ⟨es9,cl9,since,seen,c0,E9,s9,hb9,hes9,hr8,HI7.out.2,t9,m9,GvF.trans HK1.out (GvF.trans (GvF.quiet K7.out) k9)⟩)
     have HZ9:=zz (show w8.rangeLeft P.M r=0 by
      have:es9= #[]:=by apply Array.ext';simpa using hes9
      simp [World.rangeLeft,hb9,hr8,leftOf,this])
     clear t9 m9 lv9 k9 hr8 hb9 he9 hes9 HGv
     go_wp2_with fail
     go_roundw
     case rel=> exact .inr HB9
     case measure=> rw [HLe.out,HZ9.out];omega
    ·obtain⟨es,cl,since,seen,c0,E9,s9,hb9,hes9,hr9,hsc9,t9,m9,k9⟩:=HB.out
     have hnx:∀ty,(Instr.next (.pointer (some ⟨r,0,none⟩)) false ty).run Tryz.prog wr= .ok (.tuple #[.bool false]) wr:=by
      intro ty
      have hes:es= #[]:=by apply Array.ext';simpa using hes9
      rcases run_next_at (P:=Tryz.prog) wr ty r P.M since c0 seen es cl hr9 hb9 (by rw [hes9];simp) hsc9 with ⟨_,h1⟩ | ⟨e,he,_⟩
      ·exact h1
      ·rw [hes] at he
       simp [leftOf] at he
     have HT9:=zz t9
     have HM9:=zz m9
     have HK9:=zz k9
     have d22:=t9.blk.cell 22
     have d23:=t9.blk.cell 23
     have f22:=t9.blk.frozen 22
     have f23:=t9.blk.frozen 23
     clear hb9 hes9 hr9 hsc9 t9 m9 k9
     go_wp2_with (at_next;refine Zdm rfl _ rfl r rfl hnx ?_)
     go_end0
     have kS:Keeps (· =P.tr) wr ((wr.setCell ⟨P.tr,22,none⟩ (.slice none 0 0)).setCell ⟨P.tr,23,none⟩ (.map none)):=
      ((Kz0 (· =P.tr) wr).setCell (p:=⟨P.tr,22,none⟩) (.inl rfl) _).setCell (p:=⟨P.tr,23,none⟩) (.inl rfl) _
     exact⟨rfl,E9,s9,HM9.out.one HT9.out.blk kS (by decide) (by decide) (by decide) (by decide) (by decide) (by decide),(HK9.out.weak (S':=fun b=> GvF mb P.M w b∨b=P.tr) (fun _ _ h=> .inl h)).step kS (fun b _ e=> .inr e)⟩
open Go.RowKit Go.Maps Cfp
abbrev sh5 (c0 c1 c2 c3 c4:Int):List (Int × Int):= [(8,c0),(24,c1),(32,c2),(80,c3),(256,c4)]
section
variable {w w':World} {B a p:Nat} {mb:MB} {nk:Int} {sh:List (Int × Int)} {E:List PE} {s:Ar} {m:Int} {c0 c1 c2 c3 c4:Int}
theorem Zsp:fitS (sh5 c0 c1 c2 c3 c4) 32=2:=by simp [fitS,sh5,List.findIdx_cons]
theorem Zhf {z:Int} (h:z≤8):fitS (sh5 c0 c1 c2 c3 c4) z=0:=by simp [fitS,sh5,List.findIdx_cons,h]
theorem Zh8 (h:Mm w B a p mb nk sh E s m) (size:Int) (h1:1≤size) (i:Nat) (sz ct:Int) (hc:sh[i]?=some (sz,ct)) (hfit:fitS sh size=i) (hsz:size≤sz) (hroom:(Za6 s).getD i 0<ct) (hm9:m<1000000000):
  Calls Tryz.prog 120 #[.pointer (some ⟨a,0,none⟩),.int .i64 size] w fun e w'=> ∃(k:Nat) (g:Int) (s':Ar),e= .returned (.tuple #[.agg #[.int .i64 i,.int .i64 k,.int .i64 g],.int .i64 0])∧Mm w' B a p mb nk sh E s' (m+1)∧
   (∀j q g' d,LV s' j q g' d ↔ (j=i∧q=k∧g'=g∧d= [])∨LV s j q g' d)∧(∀g d,¬LV s i k g d)∧Za6 s'=(Za6 s).set i ((Za6 s).getD i 0+1)∧Keeps (ArS B w) w w':=by
 obtain⟨EA,cap,D,L,hp,hv,hpv⟩:=h.ex
 obtain⟨c,hcc,hce⟩:∃c,s.cls[i]?=some c∧(c.size,c.count)=(sz,ct):=by
  have:=hc
  rw [←h.hsh,Zak,List.getElem?_map] at this
  cases hx:s.cls[i]? with
  | none=> rw [hx] at this;cases this
  | some c=> rw [hx] at this;exact⟨c,rfl,by injection this⟩
 injection hce with e1 e2
 have hlv:(Za6 s).getD i 0=c.live:=by simp [Za6,List.getD,hcc]
 have hfk:fitK s.cls size=i:=by rw [Ze5,h.hsh,hfit]
 refine(Zd2 B a s L m size w h.ar hv ⟨h.hm,hm9⟩ h.hB).mono ?_
 intro e w' hw
 cases hw with
 | range he hA k hr=>
   rcases hr with hr | hr
   ·omega
   ·have:=hr i c hcc;omega
 | full he hA k hf=>
   obtain⟨i',c',hc',hf',hl'⟩:=hf
   rw [hfk] at hf'
   subst hf'
   rw [hcc] at hc'
   injection hc' with hc'
   subst hc'
   omega
 | ok i' j age s' L' he hA v g ha k hfit'=>
   rw [hfk] at hfit'
   subst hfit'
   exact⟨j,age,s',he,⟨⟨EA,cap,D,L',hp.ar k,v,(hpv.more (by omega)).arena (fun id e he hu=> (g.lvs _ _ _ _).2 (.inr (hpv.lv id e he hu).1))⟩,hA,by rw [g.shape,h.hsh],Nat.le_trans h.hB k.size,by have:=h.hm;omega,h.bs⟩,g.lvs,g.old,g.lives,k⟩
end
def TNew (w:World) (B a p:Nat) (mb:MB) (nk:Int) (sh:List (Int × Int)) (c:Cfg) (C T:Option Addr) (n k j:Nat) (ts:List Int) (E:List PE) (s:Ar) (m:Int) (e:Ending) (w':World):Prop:=
 ∃(P:TP) (k1:Nat) (g1:Int) (s1:Ar),e= .returned (.tuple #[.pointer (some ⟨P.tr,0,none⟩),.int .i64 0])∧P.a=a∧P.p=p∧P.c=c∧P.ts=ts∧w.heap.size≤P.M∧P.tr<w'.heap.size∧Tu w' P none (Cmp.news 1 1) 0 0 [] [.int .i64 ((0:Nat):Int),.int .i64 (k1:Int),.int .i64 g1]∧
  Mm w' B a p mb nk sh E s1 (m+1)∧LV s1 0 k1 g1 []∧Za6 s1=(Za6 s).set 0 ((Za6 s).getD 0 0+1)∧Keeps (ArS B w) w w'
theorem Zqv (w:World) (B a p:Nat) (mb:MB) (nk:Int) (c:Cfg) (C T:Option Addr) (n k j:Nat) (ts:List Int) (E:List PE) (s:Ar) (m:Int) (c0 c1 c2 c3 c4:Int)
  (hm:c.mode=1) (hs:c.slots=1) (he:c.exact_=0) (hd:c.depth=1) (hwd:c.width=1) (hT:Rd w w.heap.size T 1 16 (ts.map (.int .u64))) (htb:∀z∈ts,0≤z∧z<18446744073709551616) (sd:0≤c.seed∧c.seed<18446744073709551616)
  (hM:Mm w B a p mb nk (sh5 c0 c1 c2 c3 c4) E s m) (hm9:m<800000) (h0:(Za6 s).getD 0 0<c0):
  Calls Tryz.prog 126 #[.pointer (some ⟨a,0,none⟩),.pointer (some ⟨p,0,none⟩),Value.agg (cfC c C n k T 16 j)] w (TNew w B a p mb nk (sh5 c0 c1 c2 c3 c4) c C T n k j ts E s m):=by
 refine(Zk7 w a p c hm hs he hd hwd C T n k j ts hT htb sd B (fun _ W' h1 h2 h3=> ∃(k1:Nat) (g1:Int) (s1:Ar),h1=((0:Nat):Int)∧h2=(k1:Int)∧h3=g1∧Mm W' B a p mb nk (sh5 c0 c1 c2 c3 c4) E s1 (m+1)∧LV s1 0 k1 g1 []∧Za6 s1=(Za6 s).set 0 ((Za6 s).getD 0 0+1))
  (zz (fun W kW=> (Zh8 (hM.quiet kW) 8 (by omega) 0 8 c0 rfl (Zhf (by omega)) (by omega) h0 (by omega)).mono ?_))).mono ?_
 ·rintro e w2 ⟨k1,g1,s1,rfl,h1,h2,h3,h4,h5⟩
  exact⟨_,_,_,rfl,⟨k1,g1,s1,rfl,rfl,rfl,h1,(h2 _ _ _ _).2 (.inl ⟨rfl,rfl,rfl,rfl⟩),h4⟩,h5⟩
 ·rintro e w' ⟨g,t,sv,B1,ge,gs,bs,bt,ct,lo,hi,W1,W2,A,cc,h1,h2,h3,rfl,kW,⟨k1,g1,s1,rfl,rfl,rfl,mm,lv,ls⟩,tm2,tm,ho,kk⟩
  refine⟨⟨g+3,a,p,c,C,T,n,k,j,t,sv,B1,ge,gs,bs,bt,ct,lo,hi,ts,g+2,A,cc⟩,k1,h3,s1,rfl,rfl,rfl,rfl,rfl,?_,tm.t0.tr.lt,?_,?_,lv,ls,tm.t0.kp⟩
  ·have:=tm.t0.hg
   show w.heap.size≤g+2
   omega
  ·exact⟨tm.t0.tr,tm.tb,tm.ex,tm.sk,tm.sb,Mp.of_empty tm.t0.mp,ho,⟨by show g+2<g+3;omega,by have:=tm.o1;show g+3<B1;omega⟩,tm.o2,tm.o3⟩
  ·refine mm.kept kk ?_
   rintro b (rfl | rfl)
   ·exact⟨_,_,tm2.t0.tr,by decide,by decide,by decide,by decide,by decide,by decide⟩
   ·exact⟨_,_,tm2.t0.er_,by decide,by decide,by decide,by decide,by decide,by decide⟩
open Go.RowKit Go.Maps Cfp
def StF (mb:MB) (MT:Nat) (w:World) (b:Nat):Prop:=QuS mb.base mb.blk w b∨b=MT
section
variable {w w' w0:World} {mb:MB} {MT B:Nat} {S:Nat→Prop}
theorem QuS.base {b:Nat} (h:QuS B mb w b) (hb:mb.base≤B):QuS mb.base mb.blk w b:=h.elim (fun h=> .inl (h.base hb)) (fun⟨h1,h⟩=> .inr ⟨Nat.le_trans hb h1,h⟩)
theorem StF.step (h:Keeps (StF mb MT w0) w0 w) (k:Keeps S w w') (hs:∀b,b<w0.heap.size→S b→StF mb MT w b):Keeps (StF mb MT w0) w0 w':=by
 refine h.step k (fun b hb hS=> ?_)
 by_cases hn:StF mb MT w0 b
 ·exact hn
 ·rcases hs b hb hS with h1 | h1
  ·exact .inl (h1.same (h.block b hb hn))
  ·exact .inr h1
theorem StF.trans (h:Keeps (StF mb MT w0) w0 w) (k:Keeps (StF mb MT w) w w'):Keeps (StF mb MT w0) w0 w':=StF.step h k (fun _ _ h=> h)
theorem StF.quiet (h:Keeps NO w w'):Keeps (StF mb MT w) w w':=h.weak (fun _ _ h=> h.elim)
theorem StF.qu (h:Keeps (QuS B mb w) w w') (hb:mb.base≤B):Keeps (StF mb MT w) w w':=h.weak (fun _ _ h=> .inl (h.base hb))
theorem StF.ar (h:Keeps (ArS B w) w w') (hb:mb.base≤B):Keeps (StF mb MT w) w w':=h.weak (fun _ _ h=> .inl (.inl (.inl ⟨Nat.le_trans hb h.1,h.2⟩)))
theorem StF.mm (h:Keeps (MmS mb w) w w'):Keeps (StF mb MT w) w w':=h.weak (fun _ _ h=> .inl (.inl h))
theorem StF.one (h:Keeps (· =MT) w w'):Keeps (StF mb MT w) w w':=h.weak (fun _ _ h=> .inr h)
theorem StF.not {t:TypeId} {b:Nat} {cs:Array Value} (h:Blk w b t cs) (hb:b≠MT) (ho:Zd3 t):¬StF mb MT w b:=by
 rintro(e | e)
 ·exact QuS.not h ho.1 ho.2.1 ho.2.2.1 ho.2.2.2.1 ho.2.2.2.2.1 ho.2.2.2.2.2.1 ho.2.2.2.2.2.2 e
 ·exact hb e
theorem Zg4 {M:Nat} {es:Array MapEntry} {c:Nat} (h:w.heap[M]?=some (.map es c)) (hne:M≠mb):¬QuS B mb w M:=by
 have hno:∀ {t:TypeId} {cs:Array Value},¬Blk w M t cs:=fun {t cs} hb=> by
  have:=hb.symm.trans h
  injection this with this
  cases this
 rintro(h1 | ⟨_,cs,t,h1,_⟩)
 ·exact Zen (mb:=⟨B,mb.blk⟩) h hne h1
 ·exact hno h1
end
abbrev shC (a p:Nat) (c:Cfg) (C T:Option Addr) (n k j q MT:Nat):Array Value:= #[.pointer (some ⟨a,0,none⟩),.pointer (some ⟨p,0,none⟩),.int .i64 c.length,.int .i64 c.lateness,.int .i64 c.windows,.int .i64 c.shards,.int .i64 c.spread,.int .i64 c.queue,.int .i64 c.mode,.int .i64 c.slots,.int .i64 c.exact_,.int .u64 c.promote,.int .i64 c.depth,.int .i64 c.width,.int .i64 c.top,.int .i64 c.key,.slice C n k,.slice T 16 j,.int .u64 c.seed,.pointer (some ⟨q,0,none⟩),.map (some MT)]
theorem Zr7 {W:World} {g a p:Nat} {c:Cfg} {C T:Option Addr} {n k j q MT:Nat} (h:Blk W g 157 (shC a p c C T n k j q MT)):∀i v,((cfC c C n k T 16 j):Array Value).toList[i]?=some v→W.cell? ⟨g,2+i,none⟩=some v:=by
 intro i v hv
 rw [h.cell (2+i)]
 have hi:i<17:=(List.getElem?_eq_some_iff.1 hv).1
 rw [←hv]
 rcases(show i=0∨i=1∨i=2∨i=3∨i=4∨i=5∨i=6∨i=7∨i=8∨i=9∨i=10∨i=11∨i=12∨i=13∨i=14∨i=15∨i=16 by omega) with rfl | rfl | rfl | rfl | rfl | rfl | rfl | rfl | rfl | rfl | rfl | rfl | rfl | rfl | rfl | rfl | rfl <;> rfl
structure ShU (w:World) (B s a p:Nat) (mb:MB) (q MT:Nat) (nk:Int) (sh:List (Int × Int)) (c:Cfg) (C T:Option Addr) (n k j:Nat) (win:Int) (key:ByteArray) (v:Int) (P:TP) (k1:Nat) (g1:Int) (k2:Nat) (g2:Int) (id:Nat) (y:PE) (E:List PE) (sA:Ar) (m:Int):Prop where
 tu:Tu w P (some (key,v)) (Zck P.ts P.c.seed key v) v v [(key,hdV 2 k2 g2 id)] [.int .i64 ((0:Nat):Int),.int .i64 (k1:Int),.int .i64 g1]
 mm:Mm w B a p mb nk sh E sA m
 l1:LV sA 0 k1 g1 []
 l2:LV sA 2 k2 g2 []
 ey:E[id]?=some y
 yu:y.users=1
 pa:P.a=a
 pp:P.p=p
 blk:Blk w s 157 (shC a p c C T n k j q MT)
 mp:Mp Tryz.prog 3 enI w MT [(win,.pointer (some ⟨P.tr,0,none⟩))]
 ne:P.M≠mb
 nt:MT≠P.M
 n3:MT≠mb
 ml:m<800000
theorem Zti (w:World):(zeroValue 177).run Tryz.prog w= .ok (.pointer none) w:=by kernel_rfl
open Go.RowKit Go.Maps Cfp
def Zjy (w:World) (B s a p:Nat) (mb:MB) (q MT:Nat) (nk:Int) (sh:List (Int × Int)) (c:Cfg) (C T:Option Addr) (n k j:Nat) (win:Int) (key:ByteArray) (v:Int) (w':World):Prop:=
 ∃P k1 g1 k2 g2 id y E sA m,ShU w' B s a p mb q MT nk sh c C T n k j win key v P k1 g1 k2 g2 id y E sA m∧P.c=c∧w.heap.size≤P.M∧Keeps (StF mb MT w) w w'
theorem Znm (w:World) (B s a p:Nat) (mb:MB) (q MT G nq:Nat) (nk:Int) (c:Cfg) (C T:Option Addr) (n k j:Nat) (ts:List Int) (x:Wt) (R:List Wt) (E:List PE) (EA:Option Addr) (cap:Nat) (D:KD) (sA:Ar) (L:Nat→List Nat) (M M2:Int) (c0 c1 c2 c3 c4:Int)
  (hm:c.mode=1) (hs:c.slots=1) (he:c.exact_=0) (hd:c.depth=1) (hwd:c.width=1) (hT:Rd w w.heap.size T 1 16 (ts.map (.int .u64))) (hTn:∀W,Keeps (StF mb MT w) w W→Rd W W.heap.size T 1 16 (ts.map (.int .u64))) (htb:∀z∈ts,0≤z∧z<18446744073709551616) (sd:0≤c.seed∧c.seed<18446744073709551616)
  (hb:Blk w s 157 (shC a p c C T n k j q MT)) (hmt:Mp Tryz.prog 3 enI w MT []) (hq:Qu w B q a p mb G nq nk (sh5 c0 c1 c2 c3 c4) [x] R E EA cap D sA L M M2) (hne:MT≠mb) (hbs:mb.base≤B)
  (x0:1≤x.text.length∧x.text.length≤8) (xv:0<x.wgt∧x.wgt≤9223372036854775808) (xw: -9223372036854775808≤x.win∧x.win<9223372036854775808) (hMM:M≤M2) (hM2:0≤M2∧M2<700000) (hnk:1≤nk) (hc0:2≤c0) (hc2:1≤c2):
  Calls Tryz.prog 66 #[.pointer (some ⟨s,0,none⟩)] w fun e w'=> e= .returned (.tuple #[.bool true,.int .i64 0])∧Zjy w B s a p mb q MT nk (sh5 c0 c1 c2 c3 c4) c C T n k j x.win ⟨x.text.toArray⟩ x.wgt w':=by
 obtain⟨key,hkey⟩:∃key:ByteArray,key=⟨x.text.toArray⟩:=⟨_,rfl⟩
 have hkd:key.data.toList=x.text:=by rw [hkey]
 have hks:key.size=x.text.length:=by rw [←hkd,Array.length_toList];rfl
 have hke:(key.toList== [])=false:=by
  rw [ByteArray.toList_eq,hkd]
  cases hx:x.text with
  | nil=> rw [hx] at x0;simp at x0
  | cons _ _=> rfl
 have HPop:=zz (Zo0 w B q a p mb G nq nk (sh5 c0 c1 c2 c3 c4) x [] R E EA cap D sA L M M2 hq (by omega))
 have hmt':=hmt
 obtain⟨es0,cl0,hmt0,_⟩:=hmt'
 have HMT:=zz (fun W (kW:Keeps (StF mb MT w) w W)=> hTn W kW)
 have c19:w.cell? ⟨s,19,none⟩=some (.pointer (some ⟨q,0,none⟩)):=hb.cell 19
 have hsw:s<w.heap.size:=hb.lt
 have hMTl:MT<w.heap.size:=(Array.getElem?_eq_some_iff.1 hmt0).1
 have H0:=zz (show Blk w s 157 (shC a p c C T n k j q MT)∧w.heap[MT]?=some (.map es0 cl0) from⟨hb,hmt0⟩)
 have HMp:=zz hmt
 have HCf:=zz (And.intro hm (And.intro hs (And.intro he (And.intro hd hwd))))
 have HTb:=zz (And.intro htb sd)
 have HKd:=zz hkd
 have HKy:=zz hkey
 obtain⟨kz,hkz⟩:∃kz,kz=key.size:=⟨_,rfl⟩
 have hk8:1≤kz∧kz≤8:=by omega
 have HKz:=zz hkz
 clear hb hmt hmt0 hq hT hTn htb sd hm hs he hd hwd hkd hkey hks hkz x0
 go_enter Tryz.func66,Tryz.ntmps66
 go_wp2_with fail
 refine HPop.out.mono ?_
 unfold Pops
 rw [←HKy.out]
 rintro e w1 ⟨rfl,⟨R1,E1,EA1,cap1,D1,s1,L1,hQ1⟩,k1⟩
 have HM1:=zz (show Mm w1 B a p mb nk (sh5 c0 c1 c2 c3 c4) E1 s1 M2 from⟨⟨EA1,cap1,D1,L1,hQ1.po,hQ1.iv.iv,hQ1.iv.pv.more hMM⟩,hQ1.ar,hQ1.iv.hsh,hQ1.hB,hM2.1,hbs⟩)
 have hcn:cntU E1=0:=by have:=hQ1.iv.cnt;simpa using this
 have HNo:=zz (show Zec E1 key.data.toList from fun j e he hu=> by
  have h1:=hQ1.iv.us j
  rw [Zbx he] at h1
  simp at h1
  omega)
 have HCn:=zz (show(cntU E1:Int)≠nk by rw [hcn];show(0:Int)≠nk;omega)
 have HLv:=zz (fun i (hi:i<5)=> show(Za6 s1).getD i 0=0 by
  rw [hQ1.iv.lv i hi]
  have:=Zml (sh5 c0 c1 c2 c3 c4) i E1
  rw [hcn] at this
  simp
  omega)
 have HLl:=zz hQ1.iv.lenL
 have HB1:=zz (H0.out.1.kept k1 (QuS.not H0.out.1 (by decide) (by decide) (by decide) (by decide) (by decide) (by decide) (by decide)))
 have HMt1:=zz (HMp.out.kept k1 (Zg4 H0.out.2 hne))
 have HF1:=zz (StF.qu (MT:=MT) k1 hbs)
 clear hQ1 k1 hcn HPop H0 HMp c19
 go_upto_region 4 with fail
 have kX:=(Kz0 NO w1).alloc (.cells #[.string key,.int .i64 x.time,.int .u64 x.wgt] 62)
 have HX:=zz (Blk.new w1 62 #[.string key,.int .i64 x.time,.int .u64 x.wgt])
 have HM2:=zz (HM1.out.quiet kX)
 have HB2:=zz (HB1.out.kept kX (fun h=> h))
 have HMt2:=zz (HMt1.out.kept kX (fun h=> h))
 have HF2:=zz (StF.trans HF1.out (StF.quiet kX))
 clear kX HM1 HB1 HMt1 HF1
 generalize w1.alloc _=w2 at*
 generalize w1.heap.size=X at*
 have c20:w2.cell? ⟨s,20,none⟩=some (.map (some MT)):=HB2.out.cell 20
 have hlk:=HMt2.out.look_no (int_keyed Tryz.underlying3) Tryz.underlying155 (Zti w2) (keyI Tryz.underlying3 x.win xw.1 xw.2) (by simp) false
 simp only [if_neg Bool.false_ne_true] at hlk
 go_upto_region 9 with fail
 clear hlk c20
 have K0:=zz ((Kz0 NO w2).drew)
 have HS:=zz (fun W (kW:Keeps NO w2 W)=> HB2.out.kept kW (fun h=> h))
 refine wp_region_held_drew (S:=fun W=> Blk W s 157 (shC a p c C T n k j q MT)) (by kernel_rfl) (HS.out _ K0.out) (fun hHeld=> ?_)
 refine tkA 0 ?_
 refine tkA 1 ?_
 refine tkA 2 ?_
 refine tkA 3 ?_ (hy:=by intro w hSw; (try dsimp only at hSw); (have q1:=hSw.cell 0);clear hSw;go_simp;try (with_reducible rfl))
 refine tkA 4 ?_
 refine tkA 5 ?_
 refine tkA 6 ?_
 refine tkA 7 ?_ (hy:=by intro w hSw; (try dsimp only at hSw); (have q1:=hSw.cell 1);clear hSw;go_simp;try (with_reducible rfl))
 refine tkA 8 ?_
 refine tkA 9 ?_
 refine tkA 10 ?_
 refine wpAnyH_take (i:=11) (v:=_) rfl (by kernel_rfl) (by kernel_rfl) (by kernel_rfl) (fun _ _ _ h=> h) (Zal (c:=c) (C:=C) (T:=T) (n:=n) (k:=k) (q:=16) (j:=j) (g:=s) (off:=2) (.tmp 41) rfl (fun _ h=> Zr7 h) (by simp [Act.eval,Act.put]) (by kernel_rfl)) (by assumption) ?_
 (try simp only [Zpt])
 generalize w2.drew=wd at*
 refine rd1 12 (fun K hK=> ?_)
 go_simp
 go_at_call 126
 refine(Zqv wd B a p mb nk c C T n k j ts E1 s1 M2 c0 c1 c2 c3 c4 HCf.out.1 HCf.out.2.1 HCf.out.2.2.1 HCf.out.2.2.2.1 HCf.out.2.2.2.2 (HMT.out _ (StF.trans HF2.out (StF.quiet K0.out))) HTb.out.1 HTb.out.2 (HM2.out.quiet K0.out) (by omega) (by rw [HLv.out 0 (by omega)];omega)).mono ?_
 rintro e w3 ⟨P,k1,g1,s3,rfl,pa,pp,pc,pt,hPM,htl,tu3,mm3,lv3,ls3,k3⟩
 have hs2:=HF2.out.size
 have hsd:=K0.out.size
 have HPM:Hid (w.heap.size≤P.M):=zz (by omega)
 have HNm:Hid (P.M≠mb):=zz (by
  obtain⟨EA0,cp0,D0,L0,hp0,_⟩:=(HM2.out.quiet K0.out).ex
  have:=hp0.map.lt
  omega)
 have HT3:=zz tu3
 have HM3:=zz mm3
 have HPe:=zz (And.intro pa (And.intro pp (And.intro pc pt)))
 have HL3:=zz (And.intro lv3 ls3)
 have HB3:=zz ((HS.out _ K0.out).ars k3 (by decide) (by decide) (by decide))
 have HX3:=zz ((HX.out.kept K0.out (fun h=> h)).ars k3 (by decide) (by decide) (by decide))
 obtain⟨es2,cl2,hm2,_⟩:=(HMt2.out.kept K0.out (fun h=> h))
 have HMt3:=zz ((HMt2.out.kept K0.out (fun h=> h)).kept k3 (fun h=> Zen hm2 hne (.inl ⟨Nat.le_trans hbs h.1,h.2⟩)))
 have HF3:=zz (StF.trans HF2.out (StF.trans (StF.quiet K0.out) (StF.ar k3 hbs)))
 clear tu3 mm3 pa pp pc pt lv3 ls3 k3 hm2 hPM htl HB2 HX HMt2 HF2 HM2 hs2 hsd K0 HS
 try go_wp2_with fail
 refine hK.out _ _ (HB3.out) (fun hHeld=> ?_)
 clear hK K
 (try simp only [Zpt])
 refine tkA 13 ?_
 refine tkA 14 ?_
 refine tkA 15 ?_
 refine tkA 16 ?_
 refine tkA 17 ?_
 refine wpAnyH_done (by kernel_rfl) ?_ _
 have c20:w3.cell? ⟨s,20,none⟩=some (.map (some MT)):=HB3.out.cell 20
 obtain⟨w4,hup,mp4,k4⟩:=HMt3.out.put_no (int_keyed Tryz.underlying3) Tryz.underlying155 (keyI Tryz.underlying3 x.win xw.1 xw.2) (by simp) (.pointer (some ⟨P.tr,0,none⟩))
 have HB4:=zz (HB3.out.kept k4 (fun e=> HMt3.out.ne_blk HB3.out e.symm))
 have HX4:=zz (HX3.out.kept k4 (fun e=> HMt3.out.ne_blk HX3.out e.symm))
 have HT4:=zz (HT3.out.kept k4 (fun b e=> by have:=HPM.out;omega))
 obtain⟨es3,cl3,hm3,_⟩:=HMt3.out
 have HM4:=zz (show Mm w4 B P.a P.p mb nk (sh5 c0 c1 c2 c3 c4) E1 s3 (M2+1) from by rw [HPe.out.1,HPe.out.2.1];exact HM3.out.map (M:=MT) hm3 hne k4)
 have HMt4:=zz mp4
 have HF4:=zz (StF.trans HF3.out (StF.one k4))
 have x0:=HX4.out.cell 0
 have x2:=HX4.out.cell 2
 clear mp4 k4 hm3 HT3 HM3 HF3
 have HRm:Hid (Room1 (sh5 c0 c1 c2 c3 c4) s3 key 2):=zz (by
  have hl:=HLl.out
  have e2:(Za6 s3).getD 2 0=0:=by rw [HL3.out.2,List.getD,List.getElem?_set_ne (by omega)];exact HLv.out 2 (by omega)
  have e0:(Za6 s3).getD 0 0=1:=by
   have h0:=HLv.out 0 (by omega)
   rw [HL3.out.2,h0,List.getD,List.getElem?_set_self (by rw [hl];show 0<5;omega)]
   rfl
  exact⟨32,c2,0,8,c0,rfl,Zsp,by omega,by omega,rfl,Zhf (by have:=HKz.out;omega),by have:=HKz.out;omega,by omega,by omega⟩)
 have HAd:=zz (Zr0 w4 B mb nk (sh5 c0 c1 c2 c3 c4) P [.int .i64 ((0:Nat):Int),.int .i64 (k1:Int),.int .i64 g1] E1 s3 (M2+1) key x.wgt HT4.out HM4.out HNm.out (by rw [HPe.out.2.2.1];exact HCf.out.2.2.1) (by have:=HKz.out;omega) (by have:=HKz.out;omega) hke HNo.out HCn.out (by omega) xv.1 xv.2 2 HRm.out)
 go_wp2_with fail
 refine HAd.out.mono ?_
 rintro e w5 ⟨rfl,k2,g2,id,E5,y,s5,tu5,mm5,ey,yu,l2,lk,k5⟩
 obtain⟨es4,cl4,hm4,_⟩:=HMt4.out
 have hPM:=HPM.out
 have HB5:=zz (HB4.out.kept k5 (by
  rintro(h | h)
  ·exact PoS.not HB4.out (by decide) (by decide) (by decide) (by decide) (by decide) h
  ·omega))
 have HMt5:=zz (HMt4.out.kept k5 (by
  rintro(h | h)
  ·exact Zen hm4 hne h
  ·omega))
 have HF5:=zz (StF.step HF4.out k5 (fun b hb hS=> hS.elim (fun h=> .inl (.inl h)) (fun h=> by omega)))
 have HR5:=zz (And.intro tu5 (And.intro mm5 (And.intro ey (And.intro yu (And.intro l2 (lk _ _ _ HL3.out.1).1)))))
 clear tu5 mm5 ey yu l2 lk k5 hm4 HAd HB4 HX4 HT4 HM4 HMt4 HF4
 go_wp2_with fail
 go_ret2
 obtain⟨tu5,mm5,ey,yu,l2,l1⟩:=HR5.out
 refine⟨rfl,P,k1,g1,k2,g2,id,y,E5,s5,M2+1+1+1,⟨?_,?_,l1,l2,ey,yu,HPe.out.1,HPe.out.2.1,HB5.out,HMt5.out,HNm.out,by omega,hne,by omega⟩,HPe.out.2.2.1,hPM,HF5.out⟩
 ·rw [←HKy.out]
  exact tu5
 ·rw [←HPe.out.1,←HPe.out.2.1]
  exact mm5
open Go.RowKit Go.Maps Cfp
theorem Zkl (w:World) (B s a p:Nat) (mb:MB) (q MT G nq:Nat) (nk:Int) (sh:List (Int × Int)) (c:Cfg) (C T:Option Addr) (n k j:Nat) (x:Wt) (R:List Wt) (z:Int) (key:ByteArray) (v:Int)
  (hb:Blk w s 157 (shC a p c C T n k j q MT)) (hq:IsQ w B q a p G nq [x] R) (hn:nq≤64) (hz:x.win≤z)
  (HS:Calls Tryz.prog 66 #[.pointer (some ⟨s,0,none⟩)] w fun e w'=> e= .returned (.tuple #[.bool true,.int .i64 0])∧Zjy w B s a p mb q MT nk sh c C T n k j x.win key v w'):
  Calls Tryz.prog 23 #[.pointer (some ⟨s,0,none⟩),.int .i64 z] w fun e w'=> e= .returned (.tuple #[.int .i64 1,.int .i64 0])∧Zjy w B s a p mb q MT nk sh c C T n k j x.win key v w':=by
 have hu:Zbr z [x]=1:=by
  have:=Zd5 z [x] 0 x rfl hz (fun j y hj hy=> by
   rcases j with _ | j
   ·omega
   ·simp at hy)
  simpa using this
 have HU:=zz (Zkv (h:=hq) (hn:=hn) (z:=z))
 rw [hu] at HU
 have c19:w.cell? ⟨s,19,none⟩=some (.pointer (some ⟨q,0,none⟩)):=hb.cell 19
 have HSt:=zz HS
 clear hb hq hu HS
 go_enter Tryz.func23,Tryz.ntmps23
 go_wp2_with fail
 refine HU.out.mono ?_
 rintro e w1 ⟨rfl,rfl⟩
 clear HU c19
 go_upto_region 5 with fail
 go_loopw [7,19] (fun f iv wr=> (iv= .int .i64 0∧f= .int .i64 0∧wr=w1)∨(iv= .int .i64 1∧f= .int .i64 0∧Hid (Zjy w1 B s a p mb q MT nk sh c C T n k j x.win key v wr))) (fun _ iv _=> 1-(intOf iv).toNat)
 case atStart=> exact .inl ⟨rfl,rfl,rfl⟩
 case round=>
  rcases hrel with ⟨rfl,rfl,rfl⟩ | ⟨rfl,rfl,HR⟩
  ·go_wp2_with fail
   refine HSt.out.mono ?_
   rintro e w2 ⟨rfl,h2⟩
   have H2:=zz h2
   clear h2 HSt
   go_wp2_with fail
   go_roundw
   case rel=> exact .inr ⟨rfl,rfl,H2⟩
   case measure=> simp [intOf]
  ·go_wp2_with fail
   go_ret2
   exact⟨rfl,HR.out⟩
section
variable {w:World} {s a p q MT:Nat} {c:Cfg} {C T:Option Addr} {n k j:Nat} {win:Int} {tr:Nat}
theorem Zhz (hb:Blk w s 157 (shC a p c C T n k j q MT)) (hm:Mp Tryz.prog 3 enI w MT [(win,.pointer (some ⟨tr,0,none⟩))]):
  Calls Tryz.prog 67 #[.pointer (some ⟨s,0,none⟩),.int .i64 win] w fun e w'=> e= .returned (.pointer (some ⟨tr,0,none⟩))∧w'=w:=by
 have c20:w.cell? ⟨s,20,none⟩=some (.map (some MT)):=hb.cell 20
 have hlk:=hm.look_yes (int_keyed Tryz.underlying3) Tryz.underlying155 (x:=(win,.pointer (some ⟨tr,0,none⟩))) (i:=0) rfl false
 simp only [if_neg Bool.false_ne_true] at hlk
 clear hb hm
 go_enter Tryz.func67,Tryz.ntmps67
 go_wp2_with fail
 go_ret
 exact⟨rfl,rfl⟩
end
theorem Zh2 (w:World) (B s a p:Nat) (mb:MB) (q MT:Nat) (nk:Int) (sh:List (Int × Int)) (c:Cfg) (C T:Option Addr) (n k j:Nat) (win:Int) (key:ByteArray) (v:Int) (P:TP) (k1:Nat) (g1:Int) (k2:Nat) (g2:Int) (id:Nat) (y:PE) (E:List PE) (sA:Ar) (m:Int)
  (h:ShU w B s a p mb q MT nk sh c C T n k j win key v P k1 g1 k2 g2 id y E sA m) (hk:key.size≤140737488351232) (v0:0≤v) (v1:v<18446744073709551616):
  Calls Tryz.prog 24 #[.pointer (some ⟨s,0,none⟩),.int .i64 win] w (TSum w key v v (Zck P.ts P.c.seed key v)):=by
 have k1:=(Kz0 NO w).alloc (.cells (smC 0 none 0 0 0 none 0 0) 78)
 have HX:=zz (Blk.new w 78 (smC 0 none 0 0 0 none 0 0))
 have K1:=zz k1
 have HT:=zz (Zhz (h.blk.kept k1 (fun h=> h)) (h.mp.kept k1 (fun h=> h)))
 have HS:=zz (Ziz _ P key v _ v v _ _ (h.tu.quiet k1) hk v0 v1)
 clear h k1
 go_enter Tryz.func24,Tryz.ntmps24
 go_upto_region 1 with fail
 generalize w.alloc _=w1 at*
 generalize hX:w.heap.size=X at*
 go_wp2_with fail
 refine HT.out.mono ?_
 rintro e w2 ⟨rfl,rfl⟩
 go_wp2_with fail
 refine HS.out.mono ?_
 rintro e w3 ⟨A,cA,RA,cR,F,rfl,sm,f0,k3⟩
 have hXl:=HX.out.lt
 have HX3:=zz (HX.out.kept k3 (fun h=> h))
 have HSm:=zz sm
 have HF0:=zz f0
 have K3:=zz (K1.out.trans k3)
 have x0:=HX3.out.cell 0
 have x1:=HX3.out.cell 1
 have x2:=HX3.out.cell 2
 have x3:=HX3.out.cell 3
 have y0:=HX3.out.frozen 0
 have y1:=HX3.out.frozen 1
 have y2:=HX3.out.frozen 2
 have y3:=HX3.out.frozen 3
 clear sm f0 k3
 go_wp2_with fail
 have kS:Keeps NO w ((((w3.setCell ⟨X,0,none⟩ (.int .u64 v)).setCell ⟨X,1,none⟩ (.slice A 1 cA)).setCell ⟨X,2,none⟩ (.int .u64 0)).setCell ⟨X,3,none⟩ (.slice RA 1 cR)):=
  (((K3.out.setCell (p:=⟨X,0,none⟩) (.inr (Nat.le_of_eq hX)) _).setCell (p:=⟨X,1,none⟩) (.inr (Nat.le_of_eq hX)) _).setCell (p:=⟨X,2,none⟩) (.inr (Nat.le_of_eq hX)) _).setCell (p:=⟨X,3,none⟩) (.inr (Nat.le_of_eq hX)) _
 have kX:Keeps (· =X) w3 ((((w3.setCell ⟨X,0,none⟩ (.int .u64 v)).setCell ⟨X,1,none⟩ (.slice A 1 cA)).setCell ⟨X,2,none⟩ (.int .u64 0)).setCell ⟨X,3,none⟩ (.slice RA 1 cR)):=
  ((((Kz0 (· =X) w3).setCell (p:=⟨X,0,none⟩) (.inl rfl) _).setCell (p:=⟨X,1,none⟩) (.inl rfl) _).setCell (p:=⟨X,2,none⟩) (.inl rfl) _).setCell (p:=⟨X,3,none⟩) (.inl rfl) _
 have bX:=(((HX3.out.set 0 (.int .u64 v)).set 1 (.slice A 1 cA)).set 2 (.int .u64 0)).set 3 (.slice RA 1 cR)
 have r0:=bX.cell 0
 have r1:=bX.cell 1
 have r2:=bX.cell 2
 have r3:=bX.cell 3
 simp only [List.setIfInBounds_toArray,List.set_cons_zero,List.set_cons_succ,List.getElem?_toArray,List.getElem?_cons_zero,List.getElem?_cons_succ] at r0 r1 r2 r3
 refine bodyPost_ret (v:=smV v A 1 cA 0 RA 1 cR) (by simp [results,Tryz.results24,go_sem,r0,r1,r2,r3]) rfl ?_
 refine⟨A,cA,RA,cR,F,rfl,fun W kW=> HSm.out W ((kX.weak (S':=fun b=> b<w2.heap.size) (fun b _ e=> by omega)).trans (kW.weak (fun b _ e=> by omega))),HF0.out,kS⟩
theorem Zkm (w:World) (B s a p:Nat) (mb:MB) (q MT:Nat) (nk:Int) (sh:List (Int × Int)) (c:Cfg) (C T:Option Addr) (n k j:Nat) (win:Int) (key:ByteArray) (v:Int) (P:TP) (k1:Nat) (g1:Int) (k2:Nat) (g2:Int) (id:Nat) (y:PE) (E:List PE) (sA:Ar) (m:Int)
  (h:ShU w B s a p mb q MT nk sh c C T n k j win key v P k1 g1 k2 g2 id y E sA m) (hk:key.size≤255) (hMP:MT<P.M) (hMM:P.M<w.heap.size):
  Calls Tryz.prog 137 #[.pointer (some ⟨s,0,none⟩),.int .i64 win] w fun e w'=> e= .returned (.bool true)∧Keeps (fun b=> GvF mb P.M w b∨b=P.tr∨b=MT) w w':=by
 have HT:=zz (Zhz h.blk h.mp)
 have HR:=zz (Zqt w B mb nk sh P (some (key,v)) _ v v E sA m key 0 k1 g1 2 k2 g2 id h.tu (by rw [h.pa,h.pp];exact h.mm) h.ne hk h.l1 h.l2 (by rintro⟨e,_⟩;cases e) y h.ey (by rw [h.yu];decide) h.ml)
 have HB:=zz h.blk
 have HMp:=zz h.mp
 have HTr:=zz h.tu.blk
 have HMs:=zz (h.tu.mp.ne_blk h.blk)
 have HNe:=zz (And.intro h.ne (And.intro h.nt h.n3))
 clear h
 go_enter Tryz.func137,Tryz.ntmps137
 go_wp2_with fail
 refine HT.out.mono ?_
 rintro e w1 ⟨rfl,rfl⟩
 clear HT
 go_wp2_with fail
 refine HR.out.mono ?_
 rintro e w2 ⟨rfl,E',s',m2,k2⟩
 obtain⟨es,cl,hm,_⟩:=HMp.out
 have hMT:MT≠P.tr:=HMp.out.ne_blk HTr.out
 have HMp2:=zz (HMp.out.kept k2 (by
  rintro((h | h) | h)
  ·exact Zen hm HNe.out.2.2 h
  ·exact HNe.out.2.1 h
  ·exact hMT h))
 have c20:w2.cell? ⟨s,20,none⟩=some (.map (some MT)):=(HB.out.kept k2 (by
  rintro((h | h) | h)
  ·exact PoS.not HB.out (by decide) (by decide) (by decide) (by decide) (by decide) h
  ·exact HMs.out h.symm
  ·exact HB.out.ne HTr.out (by decide) h)).cell 20
 have HK2:=zz k2
 obtain⟨w3,hd,mp3,k3⟩:=HMp2.out.del_yes (int_keyed Tryz.underlying3) Tryz.underlying155 (x:=(win,.pointer (some ⟨P.tr,0,none⟩))) (i:=0) rfl 0
 have HK3:=zz k3
 clear m2 k2 hm mp3 k3 HR
 go_wp2_with fail
 go_ret
 refine⟨rfl,(HK2.out.weak (S':=fun b=> GvF mb P.M w1 b∨b=P.tr∨b=MT) (fun _ _ h=> h.elim .inl (fun h=> .inr (.inl h)))).step HK3.out (fun b _ e=> .inr (.inr e))⟩
open Go.RowKit Go.Maps Cfp
def ClF (mb:MB) (MT ML:Nat) (w:World) (b:Nat):Prop:=StF mb MT w b∨b=ML
section
variable {w w' w0:World} {mb:MB} {MT ML B:Nat} {S:Nat→Prop}
theorem ClF.st (h:Keeps (StF mb MT w) w w'):Keeps (ClF mb MT ML w) w w':=h.weak (fun _ _ h=> .inl h)
theorem ClF.quiet (h:Keeps NO w w'):Keeps (ClF mb MT ML w) w w':=h.weak (fun _ _ h=> h.elim)
theorem ClF.step (h:Keeps (ClF mb MT ML w0) w0 w) (k:Keeps S w w') (hs:∀b,b<w0.heap.size→S b→ClF mb MT ML w b):Keeps (ClF mb MT ML w0) w0 w':=by
 refine h.step k (fun b hb hS=> ?_)
 by_cases hn:ClF mb MT ML w0 b
 ·exact hn
 ·rcases hs b hb hS with (h1 | h1) | h1
  ·exact .inl (.inl (h1.same (h.block b hb hn)))
  ·exact .inl (.inr h1)
  ·exact .inr h1
theorem ShU.quiet {s a p q:Nat} {nk:Int} {sh:List (Int × Int)} {c:Cfg} {C T:Option Addr} {n k j:Nat} {win:Int} {key:ByteArray} {v:Int} {P:TP} {k1:Nat} {g1:Int} {k2:Nat} {g2:Int} {id:Nat} {y:PE} {E:List PE} {sA:Ar} {m:Int}
  (h:ShU w B s a p mb q MT nk sh c C T n k j win key v P k1 g1 k2 g2 id y E sA m) (kk:Keeps NO w w'):ShU w' B s a p mb q MT nk sh c C T n k j win key v P k1 g1 k2 g2 id y E sA m:=
 ⟨h.tu.quiet kk,h.mm.quiet kk,h.l1,h.l2,h.ey,h.yu,h.pa,h.pp,h.blk.kept kk (fun h=> h),h.mp.kept kk (fun h=> h),h.ne,h.nt,h.n3,h.ml⟩
end
theorem Zi1 {w:World} {R:Nat} {cs:Array Value} (h:Blk w R 91 cs) (win tot:Int) (LA:Option Addr) (nl cl:Nat) (ov tr re:Int) (JA:Option Addr) (nj cj:Nat) (hcs:cs.size=7:=by rfl):
  Blk (((((((w.setCell ⟨R,0,none⟩ (.int .i64 win)).setCell ⟨R,1,none⟩ (.int .u64 tot)).setCell ⟨R,2,none⟩ (.slice LA nl cl)).setCell ⟨R,3,none⟩ (.int .u64 ov)).setCell ⟨R,4,none⟩ (.int .i64 tr)).setCell ⟨R,5,none⟩ (.int .u64 re)).setCell ⟨R,6,none⟩ (.slice JA nj cj)) R 91 (rpC win tot LA nl cl ov tr re JA nj cj)∧
  Keeps (· =R) w (((((((w.setCell ⟨R,0,none⟩ (.int .i64 win)).setCell ⟨R,1,none⟩ (.int .u64 tot)).setCell ⟨R,2,none⟩ (.slice LA nl cl)).setCell ⟨R,3,none⟩ (.int .u64 ov)).setCell ⟨R,4,none⟩ (.int .i64 tr)).setCell ⟨R,5,none⟩ (.int .u64 re)).setCell ⟨R,6,none⟩ (.slice JA nj cj)):=by
 obtain⟨l⟩:=cs
 match l,hcs with
 | [_,_,_,_,_,_,_],_=>
   have hh:=((((((h.set 0 (.int .i64 win)).set 1 (.int .u64 tot)).set 2 (.slice LA nl cl)).set 3 (.int .u64 ov)).set 4 (.int .i64 tr)).set 5 (.int .u64 re)).set 6 (.slice JA nj cj)
   simp only [List.setIfInBounds_toArray,List.set_cons_zero,List.set_cons_succ] at hh
   exact⟨hh,
    (((((((Kz0 (· =R) w).setCell (p:=⟨R,0,none⟩) (.inl rfl) (.int .i64 win)).setCell (p:=⟨R,1,none⟩) (.inl rfl) (.int .u64 tot)).setCell (p:=⟨R,2,none⟩) (.inl rfl) (.slice LA nl cl)).setCell (p:=⟨R,3,none⟩) (.inl rfl) (.int .u64 ov)).setCell (p:=⟨R,4,none⟩) (.inl rfl) (.int .i64 tr)).setCell (p:=⟨R,5,none⟩) (.inl rfl) (.int .u64 re)).setCell (p:=⟨R,6,none⟩) (.inl rfl) (.slice JA nj cj)⟩
section
variable {w w' w0:World} {mb:MB} {MT ML B base e sz n c b:Nat} {A:Option Addr} {xs:List Value} {t:TypeId} {cs:Array Value}
theorem Zc6 {M:Nat} {es:Array MapEntry} {cc:Nat} (hM:w.heap[M]?=some (.map es cc)) (h:Blk w b t cs):b≠M:=fun e=> by
 subst e
 have:=h.symm.trans hM
 injection this with this
 cases this
theorem Blk.st (h:Blk w b t cs) (k:Keeps (StF mb MT w) w w') (hM:∃es cc,w.heap[MT]?=some (.map es cc)) (ho:Zd3 t):Blk w' b t cs:=by
 obtain⟨es,cc,hM⟩:=hM
 exact h.kept k (StF.not h (Zc6 hM h) ho)
theorem Own.st {e:TypeId} (h:Own w base e sz A n c xs) (k:Keeps (StF mb MT w) w w') (hM:∃es cc,w.heap[MT]?=some (.map es cc)) (ho:Zd3 e):Own w' base e sz A n c xs:=
 h.kept k (fun b hb=> by
  obtain⟨cs',h2⟩:=h.blk hb
  obtain⟨es,cc,hM⟩:=hM
  exact StF.not h2 (Zc6 hM h2) ho)
theorem IsLed.st {g M:Nat} {D:List (Int × Int)} {ac:Int} {rj:List Int} (h:IsLed w B g M D ac rj) (k:Keeps (StF mb MT w) w w') (hM:∃es cc,w.heap[MT]?=some (.map es cc)) (h1:M≠mb) (h2:M≠MT):IsLed w' B g M D ac rj:=by
 obtain⟨es,cc,hm,_⟩:=h.map
 obtain⟨es',cc',hM⟩:=hM
 exact h.kept k (StF.not h.blk (Zc6 hM h.blk) (by decide)) (fun e=> e.elim (Zg4 hm h1) h2)
end
theorem Zv0:ElemOf Tryz.prog 72 78 4 64:=ElemOf.mk' (z:= .agg #[.int .u64 0,.slice none 0 0,.int .u64 0,.slice none 0 0]) Tryz.underlying72 (by kernel_rfl) rfl (by omega)
def Zql (mb:MB) (MT ML:Nat) (w:World) (key:ByteArray) (e:Ending) (w':World):Prop:=
 ∃GL cL GJ cJ,e= .returned (rpV 0 5 (some ⟨GL,0,none⟩) 1 cL 0 1 0 (some ⟨GJ,0,none⟩) 7 cJ)∧Own w' w.heap.size 139 3 (some ⟨GL,0,none⟩) 1 cL [.string key,.int .u64 5,.int .u64 5]∧Own w' w.heap.size 23 1 (some ⟨GJ,0,none⟩) 7 cJ ((List.replicate 7 (0:Int)).map (.int .u64))∧Keeps (ClF mb MT ML w) w w'
theorem Zpi (w:World) (B s a p:Nat) (mb:MB) (q MT kc SB cap led ML BL:Nat) (nk:Int) (sh:List (Int × Int)) (c:Cfg) (htop:1≤c.top∧c.top≤64) (C T:Option Addr) (n k j:Nat) (ar:Value) (st:Option Addr) (sn sc:Nat) (skip:Int) (br:Bool) (wm:Int) (D:List (Int × Int)) (ac:Int) (key:ByteArray) (hk:key.size≤255)
  (hb:Blk w kc 123 (cluC c C T n k j ar (some ⟨SB,0,none⟩) 1 cap led st sn sc skip br wm)) (hs:Own w B 48 1 (some ⟨SB,0,none⟩) 1 cap [.pointer (some ⟨s,0,none⟩)])
  (zs:List Int) (BT:Nat) (ht:Own w BT 23 1 T 16 j (zs.map (.int .u64))) (hl:IsLed w BL led ML D ac (List.replicate 7 0)) (hn1:ML≠mb) (hn2:ML≠MT) (hmt:∃es cc,w.heap[MT]?=some (.map es cc)) (hmtl:MT<w.heap.size)
  (HDr:∀W,Keeps NO w W→Calls Tryz.prog 23 #[.pointer (some ⟨s,0,none⟩),.int .i64 0] W fun e w'=> e= .returned (.tuple #[.int .i64 1,.int .i64 0])∧Zjy W B s a p mb q MT nk sh c C T n k j 0 key 5 w')
  (HAll:∀W g cS A cA R cR F ts,OneS W W.heap.size g 5 0 A cA R cR ⟨key,5,0⟩ F→(F 0).2.2.2=(Zck ts c.seed key 5).getD 0 []→Rd W W.heap.size T 1 16 (zs.map (.int .u64))→Calls Tryz.prog 78 #[Value.agg (cfC c C n k T 16 j),.slice (some ⟨g,0,none⟩) 1 cS,.slice none 0 0] W fun e w'=> ∃A' c',e= .returned (.slice A' 1 c')∧Own w' W.heap.size 139 3 A' 1 c' [.string key,.int .u64 5,.int .u64 5]∧Keeps NO W w')
  (HRest:∀W g cS A cA R cR F ts,OneS W W.heap.size g 5 0 A cA R cR ⟨key,5,0⟩ F→(F 0).2.2.2=(Zck ts c.seed key 5).getD 0 []→Rd W W.heap.size T 1 16 (zs.map (.int .u64))→Calls Tryz.prog 83 #[Value.agg (cfC c C n k T 16 j),.slice (some ⟨g,0,none⟩) 1 cS] W fun e w'=> e= .returned (.int .u64 0)∧Keeps NO W w'):
  Calls Tryz.prog 74 #[.pointer (some ⟨kc,0,none⟩),.int .i64 0,.slice none 0 0] w (Zql mb MT ML w key):=by
 have kR:=(Kz0 NO w).alloc (.cells (rpC 0 0 none 0 0 0 0 0 none 0 0) 91)
 have HR1:=zz (Blk.new w 91 (rpC 0 0 none 0 0 0 0 0 none 0 0))
 have HB1:=zz (hb.kept kR (fun h=> h))
 have HS1:=zz (hs.kept kR (fun _ _ h=> h))
 have HL1:=zz (hl.quiet kR)
 have HW1:=zz (ht.kept kR (fun _ _ h=> h))
 have hkcw:=hb.lt
 have hmll:ML<w.heap.size:=by
  obtain⟨es,cc,h,_⟩:=hl.map
  exact(Array.getElem?_eq_some_iff.1 h).1
 have HDr1:=zz (fun W kW=> HDr W (kR.trans kW))
 have HM1:=zz (show∃es cc,(w.alloc (.cells (rpC 0 0 none 0 0 0 0 0 none 0 0) 91)).heap[MT]?=some (.map es cc) from by
  obtain⟨es,cc,h⟩:=hmt
  exact⟨es,cc,(kR.block MT hmtl (fun h=> h)).trans h⟩)
 have HAl:=zz HAll
 have HRe:=zz HRest
 have K1:=zz kR
 have HTp:=zz htop
 clear hb hs hl ht HDr hmt kR HAll HRest htop
 go_enter Tryz.func74,Tryz.ntmps74
 go_upto_region 1 with fail
 obtain⟨R,hR⟩:∃R,R=w.heap.size:=⟨_,rfl⟩
 have HRw:=zz (Nat.le_of_eq hR.symm)
 rw [←hR] at HR1 ⊢
 generalize w.alloc _=w1 at*
 clear hR
 have c18:=HB1.out.cell 18
 go_upto_region 3 with fail
 go_loopw [20] (fun iv wr=> (iv= .int .i64 0∧wr=w1)∨(iv= .int .i64 1∧Hid (Zjy w1 B s a p mb q MT nk sh c C T n k j 0 key 5 wr))) (fun iv _=> 1-(intOf iv).toNat)
 case atStart=> exact .inl ⟨rfl,rfl⟩
 case round=>
  rcases hrel with ⟨rfl,rfl⟩ | ⟨rfl,HQ⟩
  ·have s0:=HS1.out.cell 0 (by omega)
   go_wp2_with fail
   refine(HDr1.out wr (Kz0 _ _)).mono ?_
   rintro e w2 ⟨rfl,h2⟩
   have H2:=zz h2
   clear h2
   go_wp2_with fail
   go_roundw
   case rel=> exact .inr ⟨rfl,H2⟩
   case measure=> simp [intOf]
  ·obtain⟨P,k1,g1,k2,g2,id,y,E,sA,m,hu,hPc,hPM,kst⟩:=HQ.out
   have HU2:=zz hu
   have HPc:=zz hPc
   have HPM:=zz hPM
   have HB2:=zz (HB1.out.st kst HM1.out (by decide))
   have HS2:=zz (HS1.out.st kst HM1.out (by decide))
   have HL2:=zz (HL1.out.st kst HM1.out hn1 hn2)
   have HW2:=zz (HW1.out.st kst HM1.out (by decide))
   have HR2:=zz (HR1.out.st kst HM1.out (by decide))
   have K2:=zz (ClF.step (ClF.quiet (ML:=ML) (mb:=mb) (MT:=MT) K1.out) kst (fun b _ h=> .inl h))
   have hw1:=K1.out.size
   have hMP:MT<P.M:=by have:=HPM.out;omega
   have hwP:w.heap.size≤P.M:=by have:=HPM.out;omega
   clear hu hPc hPM kst HQ HB1 HS1 HL1 HR1 K1 HDr1 HM1 HW1
   obtain⟨w2,hw2⟩:∃w2:World,w2=wr:=⟨_,rfl⟩
   rw [←hw2] at HU2 HB2 HS2 HL2 HR2 K2 HW2 ⊢
   clear hw2
   have c18:=HB2.out.cell 18
   go_upto_region 8 with fail
   go_loopw [7,33] (fun tv iv wr=> (iv= .int .i64 0∧tv= .slice none 0 0∧wr=w2)∨(iv= .int .i64 1∧∃g cS A cA RA cR F ts,tv= .slice (some ⟨g,0,none⟩) 1 cS∧Hid (OneS wr wr.heap.size g 5 0 A cA RA cR ⟨key,5,0⟩ F∧(F 0).2.2.2=(Zck ts c.seed key 5).getD 0 []∧Keeps NO w2 wr))) (fun _ iv _=> 1-(intOf iv).toNat)
   case atStart=> exact .inl ⟨rfl,rfl,rfl⟩
   case round=>
    rcases hrel with ⟨rfl,rfl,rfl⟩ | ⟨rfl,g,cS,A,cA,RA,cR,F,ts,rfl,HQ⟩
    ·obtain⟨wo,rfl⟩:∃wo:World,wo=wr:=⟨_,rfl⟩
     have s0:=HS2.out.cell 0 (by omega)
     have HSm:=zz (Zh2 wo B s a p mb q MT nk sh c C T n k j 0 key 5 P k1 g1 k2 g2 id y E sA m HU2.out (by omega) (by omega) (by omega))
     go_wp2_with fail
     refine HSm.out.mono ?_
     rintro e w3 ⟨A,cA,RA,cR,F,rfl,hsm,hF,k3⟩
     have HSi:=zz hsm
     have HF:=zz hF
     have K3:=zz k3
     clear hsm hF k3 HSm s0
     go_wp2_with (at_builtin;refine Za5 _ Zv0 rfl (.tmp 37) (.tmp 41) rfl w3.heap.size [] rfl (Own.nil _ _ _ _) _ (m:=1) [.int .u64 5,.slice A 1 cA,.int .u64 0,.slice RA 1 cR] rfl (by exact Blk.rd (sz:=4) (xs:= [.int .u64 5,.slice A 1 cA,.int .u64 0,.slice RA 1 cR]) (Blk.new_at _ _ _ _ (by simp)) rfl) (by simp [Value.oneCell']) (by simp only [maxLen];omega) (by omega) (by simp) ?_;intro A6 c6 w6 o6 k6 hA6;have O6:=zz o6;have K6:=zz (((Kz0 NO w3).alloc (.cells #[.int .u64 5,.slice A 1 cA,.int .u64 0,.slice RA 1 cR] 78)).step k6 (fun b hb e=> by obtain⟨_,h,_⟩:=e;cases h));clear o6 k6 hA6)
     obtain⟨g,rfl,hg1,hg2⟩:=O6.out.some_ (by omega)
     have HO:=zz (show OneS w6 w6.heap.size g 5 0 A cA RA cR ⟨key,5,0⟩ F from
      ⟨O6.out.cell 0 (by omega),O6.out.cell 1 (by omega),O6.out.cell 2 (by omega),O6.out.cell 3 (by omega),hg2,HSi.out w6 (K6.out.weak (fun _ _ h=> h.elim))⟩)
     have KK:=zz (K3.out.trans K6.out)
     have HF2:=zz (show(F 0).2.2.2=(Zck P.ts c.seed key 5).getD 0 [] from by have:=HF.out;rw [HPc.out] at this;exact this)
     clear hg1 hg2
     go_roundw
     case rel=> exact .inr ⟨rfl,g,c6,A,cA,RA,cR,F,P.ts,rfl,zz ⟨HO.out,HF2.out,KK.out⟩⟩
     case measure=> simp [intOf]
    ·have HO:=zz HQ.out.1
     have HF:=zz HQ.out.2.1
     have KK:=zz HQ.out.2.2
     clear HQ
     go_upto_region 12 with fail
     have HBq:=zz (fun W (kW:Keeps NO wr W)=> (HB2.out.kept KK.out (fun h=> h)).kept kW (fun h=> h))
     have HOq:=zz (fun W (kW:Keeps NO wr W)=> (HO.out.quiet kW).more kW.size)
     have HLq:=zz (fun W (kW:Keeps NO wr W)=> (HL2.out.quiet KK.out).quiet kW)
     have HS3:=zz (HS2.out.kept KK.out (fun _ _ h=> h))
     have HWq:=zz (fun W (kW:Keeps NO wr W)=> show Rd W W.heap.size T 1 16 (zs.map (.int .u64)) from((HW2.out.kept KK.out (fun _ _ h=> h)).kept kW (fun _ _ h=> h)).rd (by omega))
     have HR3:=zz (HR2.out.kept KK.out (fun h=> h))
     have HU3:=zz (HU2.out.quiet KK.out)
     have K3:=zz (ClF.step K2.out KK.out (fun _ _ h=> h.elim))
     have hw3:=K3.out.size
     have hP3:P.M<wr.heap.size:=by have:=HU3.out.tu.o1;have:=HU3.out.tu.blk.lt;omega
     clear HB2 HS2 HL2 HR2 HU2 HW2 K2 KK HO
     obtain⟨w3,hw⟩:∃w3:World,w3=wr:=⟨_,rfl⟩
     rw [←hw] at HBq HOq HLq HWq HS3 HR3 HU3 K3 hw3 hP3 ⊢
     clear hw
     have Kd:=zz ((Kz0 NO w3).drew)
     refine wp_region_held_drew (S:=fun W=> Blk W kc 123 (cluC c C T n k j ar (some ⟨SB,0,none⟩) 1 cap led st sn sc skip br wm)) (by kernel_rfl) (HBq.out _ Kd.out) (fun hHeld=> ?_)
     refine tkA 0 ?_
     refine tkA 1 ?_
     refine tkA 2 ?_
     refine wpAnyH_take (i:=3) (v:=_) rfl (by kernel_rfl) (by kernel_rfl) (by kernel_rfl) (fun _ _ _ h=> h) (Zal (c:=c) (C:=C) (T:=T) (n:=n) (k:=k) (q:=16) (j:=j) (g:=kc) (off:=0) (.tmp 46) rfl (fun _ h=> (Zcz h)) (by simp [Act.eval,Act.put]) (by kernel_rfl)) (by assumption) ?_
     (try simp only [Zpt])
     refine tkA 4 ?_
     refine tkA 5 ?_
     refine tkA 6 ?_
     refine tkA 7 ?_
     refine tkA 8 ?_
     refine tkA 9 ?_ (hy:=by intro w hSw; (try dsimp only at hSw); (have q1:=hSw.cell 19);clear hSw;go_simp;try (with_reducible rfl))
     refine tkA 11 ?_
     generalize w3.drew=wd at*
     refine wpAnyH_ready (rs:= [10,13]) (by kernel_rfl) (by simp) ?_
     refine AllReadyH.cons rfl (fun K hK=> ?_) (AllReadyH.cons rfl (fun K hK=> ?_) AllReadyH.nil)
     rotate_left
     focus
      go_simp
      have kA:=(Kz0 NO wd).alloc (.cells (rpC 0 0 none 0 0 0 0 0 none 0 0) 91)
      have HG:=zz (Blk.new wd 91 (rpC 0 0 none 0 0 0 0 0 none 0 0))
      have K4:=zz (Kd.out.trans kA)
      have hG:=Kd.out.size
      generalize World.alloc wd _=w4 at*
      generalize wd.heap.size=G at*
      clear kA
      try go_wp2_with fail
      refine hK.out _ _ ((HBq.out _ K4.out)) (fun hHeld=> ?_)
      clear hK K
      (try simp only [Zpt])
      refine rd1 10 (fun K hK=> ?_)
      go_simp
      go_at_call 85
      refine(Ze3 (HLq.out w4 K4.out)).mono ?_
      rintro e w5 ⟨JA,cJ0,rfl,oj,kj⟩
      have OJ:=zz oj
      have K5:=zz (K4.out.trans kj)
      clear oj
      try go_wp2_with fail
      refine hK.out _ _ ((HBq.out _ K5.out)) (fun hHeld=> ?_)
      clear hK K
      (try simp only [Zpt])
      have HG5:=zz (HG.out.kept kj (fun h=> h))
      clear HG
      refine rd1 12 (fun K hK=> ?_)
      go_simp
      go_at_call 31
      refine(Zf2 w5 w5.heap.size g cS c HTp.out C T n k j key A RA cA cR ⟨key,5,0⟩ rfl F (HOq.out w5 K5.out) (Nat.le_refl _) JA cJ0 (OJ.out.rd (by omega)) (fun V kV=> HAl.out V g cS A cA RA cR F ts (HOq.out V (K5.out.trans kV)) HF.out (HWq.out V (K5.out.trans kV))) (fun V kV=> HRe.out V g cS A cA RA cR F ts (HOq.out V (K5.out.trans kV)) HF.out (HWq.out V (K5.out.trans kV)))).mono ?_
      rintro e w6 ⟨GL,cL,GJ,cJ,rfl,ol,oj,kb⟩
      have hle:=K5.out.size
      have OL:=zz (ol.base_le (show w3.heap.size≤_ from hle))
      have OR:=zz (oj.base_le (show w3.heap.size≤_ from hle))
      have K6:=zz (K5.out.trans kb)
      clear ol oj hle
      try go_wp2_with fail
      refine hK.out _ _ ((HBq.out _ K6.out)) (fun hHeld=> ?_)
      clear hK K
      (try simp only [Zpt])
      have HG6:=zz (HG5.out.kept kb (fun h=> h))
      clear HG5
      have z0:=HG6.out.frozen 0
      have z1:=HG6.out.frozen 1
      have z2:=HG6.out.frozen 2
      have z3:=HG6.out.frozen 3
      have z4:=HG6.out.frozen 4
      have z5:=HG6.out.frozen 5
      have z6:=HG6.out.frozen 6
      have r0:=HG6.out.cell 0
      have r1:=HG6.out.cell 1
      have r2:=HG6.out.cell 2
      have r3:=HG6.out.cell 3
      have r4:=HG6.out.cell 4
      have r5:=HG6.out.cell 5
      have r6:=HG6.out.cell 6
      refine rd1 14 (fun K hK=> ?_)
      go_simp
      have hST:=zz (Zi1 HG6.out 0 5 (some ⟨GL,0,none⟩) 1 cL 0 1 0 (some ⟨GJ,0,none⟩) 7 cJ)
      clear z0 z1 z2 z3 z4 z5 z6 r0 r1 r2 r3 r4 r5 r6
      generalize World.setCell (World.setCell (World.setCell (World.setCell (World.setCell (World.setCell (World.setCell w6 _ _) _ _) _ _) _ _) _ _) _ _) _ _=w9 at*
      have HG9:=zz hST.out.1
      have OL9:=zz (OL.out.kept hST.out.2 (fun b hb e=> OL.out.ne_blk HG6.out (by decide) hb e))
      have OR9:=zz (OR.out.kept hST.out.2 (fun b hb e=> OR.out.ne_blk HG6.out (by decide) hb e))
      have K9:=zz (K6.out.step hST.out.2 (fun b hb e=> by omega))
      clear hST
      try go_wp2_with fail
      refine hK.out _ _ ((HBq.out _ K9.out)) (fun hHeld=> ?_)
      clear hK K
      (try simp only [Zpt])
      refine wpAnyH_done (by kernel_rfl) ?_ _
     rotate_left
     focus
      go_simp
      go_at_call 85
      refine(Ze3 (HLq.out wd Kd.out)).mono ?_
      rintro e w4 ⟨JA,cJ0,rfl,oj,kj⟩
      have OJ:=zz oj
      have K4:=zz (Kd.out.trans kj)
      clear oj
      try go_wp2_with fail
      refine hK.out _ _ ((HBq.out _ K4.out)) (fun hHeld=> ?_)
      clear hK K
      (try simp only [Zpt])
      refine wpAnyH_ready (rs:= [12,13]) (by kernel_rfl) (by simp) ?_
      refine AllReadyH.cons rfl (fun K hK=> ?_) (AllReadyH.cons rfl (fun K hK=> ?_) AllReadyH.nil)
      focus
       go_simp
       go_at_call 31
       refine(Zf2 w4 w4.heap.size g cS c HTp.out C T n k j key A RA cA cR ⟨key,5,0⟩ rfl F (HOq.out w4 K4.out) (Nat.le_refl _) JA cJ0 (OJ.out.rd (by omega)) (fun V kV=> HAl.out V g cS A cA RA cR F ts (HOq.out V (K4.out.trans kV)) HF.out (HWq.out V (K4.out.trans kV))) (fun V kV=> HRe.out V g cS A cA RA cR F ts (HOq.out V (K4.out.trans kV)) HF.out (HWq.out V (K4.out.trans kV)))).mono ?_
       rintro e w5 ⟨GL,cL,GJ,cJ,rfl,ol,oj,kb⟩
       have hle:=K4.out.size
       have OL:=zz (ol.base_le (show w3.heap.size≤_ from hle))
       have OR:=zz (oj.base_le (show w3.heap.size≤_ from hle))
       have K5:=zz (K4.out.trans kb)
       clear ol oj hle
       try go_wp2_with fail
       refine hK.out _ _ ((HBq.out _ K5.out)) (fun hHeld=> ?_)
       clear hK K
       (try simp only [Zpt])
       refine rd1 13 (fun K hK=> ?_)
       go_simp
       have kA:=(Kz0 NO w5).alloc (.cells (rpC 0 0 none 0 0 0 0 0 none 0 0) 91)
       have HG:=zz (Blk.new w5 91 (rpC 0 0 none 0 0 0 0 0 none 0 0))
       have K6:=zz (K5.out.trans kA)
       have hG:=K5.out.size
       generalize World.alloc w5 _=w6 at*
       generalize w5.heap.size=G at*
       have OL6:=zz (OL.out.kept kA (fun _ _ h=> h))
       have OR6:=zz (OR.out.kept kA (fun _ _ h=> h))
       clear kA OL OR
       try go_wp2_with fail
       refine hK.out _ _ ((HBq.out _ K6.out)) (fun hHeld=> ?_)
       clear hK K
       (try simp only [Zpt])
       have z0:=HG.out.frozen 0
       have z1:=HG.out.frozen 1
       have z2:=HG.out.frozen 2
       have z3:=HG.out.frozen 3
       have z4:=HG.out.frozen 4
       have z5:=HG.out.frozen 5
       have z6:=HG.out.frozen 6
       have r0:=HG.out.cell 0
       have r1:=HG.out.cell 1
       have r2:=HG.out.cell 2
       have r3:=HG.out.cell 3
       have r4:=HG.out.cell 4
       have r5:=HG.out.cell 5
       have r6:=HG.out.cell 6
       refine rd1 14 (fun K hK=> ?_)
       go_simp
       have hST:=zz (Zi1 HG.out 0 5 (some ⟨GL,0,none⟩) 1 cL 0 1 0 (some ⟨GJ,0,none⟩) 7 cJ)
       clear z0 z1 z2 z3 z4 z5 z6 r0 r1 r2 r3 r4 r5 r6
       generalize World.setCell (World.setCell (World.setCell (World.setCell (World.setCell (World.setCell (World.setCell w6 _ _) _ _) _ _) _ _) _ _) _ _) _ _=w9 at*
       have HG9:=zz hST.out.1
       have OL9:=zz (OL6.out.kept hST.out.2 (fun b hb e=> OL6.out.ne_blk HG.out (by decide) hb e))
       have OR9:=zz (OR6.out.kept hST.out.2 (fun b hb e=> OR6.out.ne_blk HG.out (by decide) hb e))
       have K9:=zz (K6.out.step hST.out.2 (fun b hb e=> by omega))
       clear hST
       try go_wp2_with fail
       refine hK.out _ _ ((HBq.out _ K9.out)) (fun hHeld=> ?_)
       clear hK K
       (try simp only [Zpt])
       refine wpAnyH_done (by kernel_rfl) ?_ _
      rotate_left
      focus
       go_simp
       have kA:=(Kz0 NO w4).alloc (.cells (rpC 0 0 none 0 0 0 0 0 none 0 0) 91)
       have HG:=zz (Blk.new w4 91 (rpC 0 0 none 0 0 0 0 0 none 0 0))
       have K5:=zz (K4.out.trans kA)
       have hG:=K4.out.size
       generalize World.alloc w4 _=w5 at*
       generalize w4.heap.size=G at*
       have OJ5:=zz (OJ.out.kept kA (fun _ _ h=> h))
       clear kA OJ
       try go_wp2_with fail
       refine hK.out _ _ ((HBq.out _ K5.out)) (fun hHeld=> ?_)
       clear hK K
       (try simp only [Zpt])
       refine rd1 12 (fun K hK=> ?_)
       go_simp
       go_at_call 31
       refine(Zf2 w5 w5.heap.size g cS c HTp.out C T n k j key A RA cA cR ⟨key,5,0⟩ rfl F (HOq.out w5 K5.out) (Nat.le_refl _) JA cJ0 (OJ5.out.rd (by omega)) (fun V kV=> HAl.out V g cS A cA RA cR F ts (HOq.out V (K5.out.trans kV)) HF.out (HWq.out V (K5.out.trans kV))) (fun V kV=> HRe.out V g cS A cA RA cR F ts (HOq.out V (K5.out.trans kV)) HF.out (HWq.out V (K5.out.trans kV)))).mono ?_
       rintro e w6 ⟨GL,cL,GJ,cJ,rfl,ol,oj,kb⟩
       have hle:=K5.out.size
       have OL:=zz (ol.base_le (show w3.heap.size≤_ from hle))
       have OR:=zz (oj.base_le (show w3.heap.size≤_ from hle))
       have K6:=zz (K5.out.trans kb)
       clear ol oj hle
       try go_wp2_with fail
       refine hK.out _ _ ((HBq.out _ K6.out)) (fun hHeld=> ?_)
       clear hK K
       (try simp only [Zpt])
       have HG6:=zz (HG.out.kept kb (fun h=> h))
       clear HG
       have z0:=HG6.out.frozen 0
       have z1:=HG6.out.frozen 1
       have z2:=HG6.out.frozen 2
       have z3:=HG6.out.frozen 3
       have z4:=HG6.out.frozen 4
       have z5:=HG6.out.frozen 5
       have z6:=HG6.out.frozen 6
       have r0:=HG6.out.cell 0
       have r1:=HG6.out.cell 1
       have r2:=HG6.out.cell 2
       have r3:=HG6.out.cell 3
       have r4:=HG6.out.cell 4
       have r5:=HG6.out.cell 5
       have r6:=HG6.out.cell 6
       refine rd1 14 (fun K hK=> ?_)
       go_simp
       have hST:=zz (Zi1 HG6.out 0 5 (some ⟨GL,0,none⟩) 1 cL 0 1 0 (some ⟨GJ,0,none⟩) 7 cJ)
       clear z0 z1 z2 z3 z4 z5 z6 r0 r1 r2 r3 r4 r5 r6
       generalize World.setCell (World.setCell (World.setCell (World.setCell (World.setCell (World.setCell (World.setCell w6 _ _) _ _) _ _) _ _) _ _) _ _) _ _=w9 at*
       have HG9:=zz hST.out.1
       have OL9:=zz (OL.out.kept hST.out.2 (fun b hb e=> OL.out.ne_blk HG6.out (by decide) hb e))
       have OR9:=zz (OR.out.kept hST.out.2 (fun b hb e=> OR.out.ne_blk HG6.out (by decide) hb e))
       have K9:=zz (K6.out.step hST.out.2 (fun b hb e=> by omega))
       clear hST
       try go_wp2_with fail
       refine hK.out _ _ ((HBq.out _ K9.out)) (fun hHeld=> ?_)
       clear hK K
       (try simp only [Zpt])
       refine wpAnyH_done (by kernel_rfl) ?_ _
     all_goals
      have HB9:=zz (HBq.out w9 K9.out)
      have HS9:=zz (HS3.out.kept K9.out (fun _ _ h=> h))
      have HL9:=zz (HLq.out w9 K9.out)
      have HR9:=zz (HR3.out.kept K9.out (fun h=> h))
      have HU9:=zz (HU3.out.quiet K9.out)
      have KC9:=zz (ClF.step K3.out K9.out (fun _ _ h=> h.elim))
      have hP9:P.M<w9.heap.size:=Nat.lt_of_lt_of_le hP3 K9.out.size
      have OL10:=zz (OL9.out.base_le (show w.heap.size≤_ from hw3))
      have OR10:=zz (OR9.out.base_le (show w.heap.size≤_ from hw3))
      clear HBq HOq HLq HWq HS3 HR3 HU3 K3 K9 OL9 OR9
      have c18:=HB9.out.cell 18
      go_upto_region 14 with fail
      go_loopw [62] (fun iv wr=> (iv= .int .i64 0∧wr=w9)∨(iv= .int .i64 1∧Hid (Keeps (fun b=> GvF mb P.M w9 b∨b=P.tr∨b=MT) w9 wr))) (fun iv _=> 1-(intOf iv).toNat)
      case atStart=> exact .inl ⟨rfl,rfl⟩
      case round=>
       rcases hrel with ⟨rfl,rfl⟩ | ⟨rfl,HQ⟩
       ·have s0:=HS9.out.cell 0 (by omega)
        go_wp2_with fail
        refine(Zkm wr B s a p mb q MT nk sh c C T n k j 0 key 5 P k1 g1 k2 g2 id y E sA m HU9.out hk hMP hP9).mono ?_
        rintro e w10 ⟨rfl,k10⟩
        have K10:=zz k10
        clear k10
        go_wp2_with fail
        go_roundw
        case rel=> exact .inr ⟨rfl,K10⟩
        case measure=> simp [intOf]
       ·obtain⟨w10,hw⟩:∃w10:World,w10=wr:=⟨_,rfl⟩
        rw [←hw] at HQ ⊢
        clear hw
        have K10:=zz HQ.out
        clear HQ
        have hnot:Hid (∀(t:TypeId) (b:Nat) (cs:Array Value),Blk w9 b t cs→Zd3 t→t≠258→¬(GvF mb P.M w9 b∨b=P.tr∨b=MT)):=zz (fun t b cs hbk ho ht=> by
         rintro((h | h) | h | h)
         ·exact PoS.not hbk ho.1 ho.2.1 ho.2.2.1 ho.2.2.2.1 ho.2.2.2.2.1 h
         ·exact HU9.out.tu.mp.ne_blk hbk h.symm
         ·exact hbk.ne HU9.out.tu.blk ht h
         ·exact HU9.out.mp.ne_blk hbk h.symm)
        have HB10:=zz (HB9.out.kept K10.out (hnot.out _ _ _ HB9.out (by decide) (by decide)))
        have HG10:=zz (HG9.out.kept K10.out (hnot.out _ _ _ HG9.out (by decide) (by decide)))
        have HR10:=zz (HR9.out.kept K10.out (hnot.out _ _ _ HR9.out (by decide) (by decide)))
        have OL11:=zz (OL10.out.kept K10.out (fun b hb=> by obtain⟨cs',h2⟩:=OL10.out.blk hb;exact hnot.out _ _ _ h2 (by decide) (by decide)))
        have OR11:=zz (OR10.out.kept K10.out (fun b hb=> by obtain⟨cs',h2⟩:=OR10.out.blk hb;exact hnot.out _ _ _ h2 (by decide) (by decide)))
        have HL10:=zz (HL9.out.kept K10.out (hnot.out _ _ _ HL9.out.blk (by decide) (by decide)) (by
         obtain⟨es,cc,hm,_⟩:=HL9.out.map
         rintro((h | h) | h | h)
         ·exact Zen hm hn1 h
         ·omega
         ·exact HL9.out.map.ne_blk HU9.out.tu.blk h
         ·exact hn2 h))
        have K11:=zz (ClF.step KC9.out K10.out (fun b hb h=> by
         rcases h with (h | h) | h | h
         ·exact .inl (.inl (.inl h))
         ·omega
         ·have:=HU9.out.tu.o1;omega
         ·exact .inl (.inr h)))
        clear HB9 HG9 HR9 HL9 HU9 OL10 OR10 HS9 KC9 K10 hnot
        have c19:=HB10.out.cell 19
        go_wp2_with fail
        refine(Zlh HL10.out 0 (by omega) (by omega)).mono ?_
        rintro e w12 ⟨⟨lv,lb,rfl⟩,_,k12⟩
        have hnm:Hid (∀(t:TypeId) (b:Nat) (cs:Array Value),Blk w10 b t cs→b≠ML):=zz (fun t b cs hbk e=> HL10.out.map.ne_blk hbk e.symm)
        have HG12:=zz (HG10.out.kept k12 (hnm.out _ _ _ HG10.out))
        have HR12:=zz (HR10.out.kept k12 (hnm.out _ _ _ HR10.out))
        have OL12:=zz (OL11.out.kept k12 (fun b hb=> by obtain⟨cs',h2⟩:=OL11.out.blk hb;exact hnm.out _ _ _ h2))
        have OR12:=zz (OR11.out.kept k12 (fun b hb=> by obtain⟨cs',h2⟩:=OR11.out.blk hb;exact hnm.out _ _ _ h2))
        have K12:=zz (ClF.step K11.out k12 (fun b hb h=> .inr h))
        clear k12 hnm HB10 HG10 HR10 HL10 OL11 OR11 K11 c19
        have g0:=HG12.out.cell 0
        have g1:=HG12.out.cell 1
        have g2:=HG12.out.cell 2
        have g3:=HG12.out.cell 3
        have g4:=HG12.out.cell 4
        have g5:=HG12.out.cell 5
        have g6:=HG12.out.cell 6
        have y0:=HR12.out.frozen 0
        have y1:=HR12.out.frozen 1
        have y2:=HR12.out.frozen 2
        have y3:=HR12.out.frozen 3
        have y4:=HR12.out.frozen 4
        have y5:=HR12.out.frozen 5
        have y6:=HR12.out.frozen 6
        have r0:=HR12.out.cell 0
        have r1:=HR12.out.cell 1
        have r2:=HR12.out.cell 2
        have r3:=HR12.out.cell 3
        have r4:=HR12.out.cell 4
        have r5:=HR12.out.cell 5
        have r6:=HR12.out.cell 6
        go_wp2_with fail
        have hST:=Zi1 HR12.out 0 5 (some ⟨GL,0,none⟩) 1 cL 0 1 0 (some ⟨GJ,0,none⟩) 7 cJ
        have s0:=hST.1.cell 0
        have s1:=hST.1.cell 1
        have s2:=hST.1.cell 2
        have s3:=hST.1.cell 3
        have s4:=hST.1.cell 4
        have s5:=hST.1.cell 5
        have s6:=hST.1.cell 6
        simp only [Zpg] at s0 s1 s2 s3 s4 s5 s6
        refine bodyPost_ret (v:=rpV 0 5 (some ⟨GL,0,none⟩) 1 cL 0 1 0 (some ⟨GJ,0,none⟩) 7 cJ) (by simp [results,Tryz.results74,go_sem,s0,s1,s2,s3,s4,s5,s6]) rfl ?_
        have hrw:=HRw.out
        exact⟨GL,cL,GJ,cJ,rfl,OL12.out.kept hST.2 (fun b hb e=> OL12.out.ne_blk HR12.out (by decide) hb e),OR12.out.kept hST.2 (fun b hb e=> OR12.out.ne_blk HR12.out (by decide) hb e),ClF.step K12.out hST.2 (fun b hb e=> by omega)⟩
end Go.Proofs.YtjamiaamngalgaaGreat
