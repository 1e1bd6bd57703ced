/-
  Parts: What all my texts of thi; Slices that the call its; More on slices, and on c; append of zeros ('append; append. No conditions beyond those of the statement.
-/
import Derived.Test.YtjamiaamngalgaaGreatRows
import Derived.WalkKit
import Derived.ProofKit
import Derived.OpenShut
import Derived.ShutString
import Derived.ChangeOld
import Derived.Below
import Derived.SizedLaws
import Derived.Lib.Hide
import Derived.Laws.Externs
import Derived.Deep.QuietTactic
import Derived.BigQuiet
import Derived.Outline
import Derived.Deep.Draws
import Derived.Laws.BitsAllLaws
import Derived.Laws.BitsLemmas
import Derived.WalkSpells
import Derived.WalkLawsBesides
import Derived.Maps.AppendAt
import Derived.RegionTactic
import Derived.OwnWalk
import Derived.Lib.AppendZeros
set_option linter.unusedVariables false
set_option linter.unusedSimpArgs false
set_option maxRecDepth 1000000
set_option maxHeartbeats 4000000
namespace Go.Proofs.YtjamiaamngalgaaGreat
open Go.RowKit Go.ChangeShapes Go.WideShapes
theorem own:ownKnob Tryz.prog.godebug=none:=by kernel_rfl
theorem Zha:laidOutB Tryz.prog=true:=by kernel_rfl
theorem Zdg {a:Int} (h:(Lit.int .u64 a).wf=true):0≤a∧a<18446744073709551616:=by
 have h1:IntKind.u64.min=0:=rfl
 have h2:IntKind.u64.max=18446744073709551615:=rfl
 simp only [Lit.wf,Bool.and_eq_true,decide_eq_true_eq] at h;omega
theorem Ztl {a:Int} (h:(Lit.int .i64 a).wf=true): -9223372036854775808≤a∧a<9223372036854775808:=by
 have h1:IntKind.i64.min= -9223372036854775808:=rfl
 have h2:IntKind.i64.max=9223372036854775807:=rfl
 simp only [Lit.wf,Bool.and_eq_true,decide_eq_true_eq] at h;omega
theorem Ztk {a:Int} (h:(Lit.int .u8 a).wf=true):0≤a∧a<256:=by
 have h1:IntKind.u8.min=0:=rfl
 have h2:IntKind.u8.max=255:=rfl
 simp only [Lit.wf,Bool.and_eq_true,decide_eq_true_eq] at h;omega
def Rd (w:World) (B:Nat) (A:Option Addr) (sz n:Nat) (xs:List Value):Prop:=
 xs.length=n*sz∧(0<n→∃b off,A=some ⟨b,off,none⟩∧b<B∧∀j u,xs[j]?=some u→w.cell? ⟨b,off+j,none⟩=some u)
section
variable {w w':World} {B B' sz n:Nat} {A:Option Addr} {xs:List Value}
theorem Rd.zero (h:n=0):Rd w B A sz n []:=⟨by simp [h],fun h'=> by omega⟩
theorem Rd.keep (h:Rd w B A sz n xs) (hk:∀b off,b<B→w'.cell? ⟨b,off,none⟩=w.cell? ⟨b,off,none⟩):Rd w' B A sz n xs:=
 ⟨h.1,fun hn=> by obtain⟨b,off,e,hb,hc⟩:=h.2 hn;exact⟨b,off,e,hb,fun j u hu=> (hk _ _ hb).trans (hc j u hu)⟩⟩
theorem Rd.more (h:Rd w B A sz n xs) (hB:B≤B'):Rd w B' A sz n xs:=
 ⟨h.1,fun hn=> by obtain⟨b,off,e,hb,hc⟩:=h.2 hn;exact⟨b,off,e,by omega,hc⟩⟩
theorem Rd.drewN (h:Rd w B A sz n xs) (k:Nat):Rd (w.drewN k) B A sz n xs:=h
theorem Rd.drew (h:Rd w B A sz n xs):Rd w.drew B A sz n xs:=h
end
abbrev NO:Nat→Prop:=fun _=> False
structure Keeps (S:Nat→Prop) (w w':World):Prop where
 os:w'.os=w.os
 tape:w'.tape=w.tape
 output:w'.output=w.output
 size:w.heap.size≤w'.heap.size
 block:∀k,k<w.heap.size→¬S k→w'.heap[k]?=w.heap[k]?
section
variable {S S':Nat→Prop} {a w w':World}
theorem Kz0 (S:Nat→Prop) (w:World):Keeps S w w:=⟨rfl,rfl,rfl,Nat.le_refl _,fun _ _ _=> rfl⟩
theorem Keeps.trans (h:Keeps S a w) (k:Keeps S w w'):Keeps S a w':=
 ⟨k.os.trans h.os,k.tape.trans h.tape,k.output.trans h.output,Nat.le_trans h.size k.size,fun i hi hs=> (k.block i (Nat.lt_of_lt_of_le hi h.size) hs).trans (h.block i hi hs)⟩
theorem Keeps.weak (h:Keeps S w w') (hs:∀k,k<w.heap.size→S k→S' k):Keeps S' w w':=⟨h.os,h.tape,h.output,h.size,fun k hk hn=> h.block k hk (fun hh=> hn (hs k hk hh))⟩
theorem Keeps.step (h:Keeps S a w) (k:Keeps S' w w') (hs:∀k,k<a.heap.size→S' k→S k):Keeps S a w':=
 ⟨k.os.trans h.os,k.tape.trans h.tape,k.output.trans h.output,Nat.le_trans h.size k.size,fun i hi hn=> (k.block i (Nat.lt_of_lt_of_le hi h.size) (fun hh=> hn (hs i hi hh))).trans (h.block i hi hn)⟩
theorem Keeps.drew (h:Keeps S a w):Keeps S a w.drew:=⟨h.os,h.tape,h.output,h.size,h.block⟩
theorem Keeps.drewN (h:Keeps S a w) (n:Nat):Keeps S a (w.drewN n):=⟨h.os,h.tape,h.output,h.size,h.block⟩
theorem Keeps.alloc (h:Keeps S a w) (o:Obj):Keeps S a (w.alloc o):=
 ⟨h.os,h.tape,h.output,Nat.le_trans h.size (by simp),fun i hi hn=> (Below.heap_alloc w o i (Nat.lt_of_lt_of_le hi h.size)).trans (h.block i hi hn)⟩
theorem Keeps.setCell (h:Keeps S a w) {p:Addr} (hp:S p.block∨a.heap.size≤p.block) (u:Value):Keeps S a (w.setCell p u):=
 ⟨h.os,h.tape,h.output,by simpa [World.setCell] using h.size,fun i hi hn=> (Below.heap_setCell w p u i (by
  rintro rfl
  rcases hp with hp | hp
  ·exact hn hp
  ·omega)).trans (h.block i hi hn)⟩
theorem Keeps.grown (h:Keeps S a w) {row:Option Nat} (hg:w.grownBy w' row) (hr:∀k,row=some k→k<a.heap.size→S k):Keeps S a w':=
 ⟨hg.os.trans h.os,hg.tape.trans h.tape,hg.output.trans h.output,Nat.le_trans h.size hg.size,fun i hi hn=> (hg.block i (Nat.lt_of_lt_of_le hi h.size) (fun e=> hn (hr i e.symm hi))).trans (h.block i hi hn)⟩
theorem Keeps.below (h:Keeps S w w') (hs:∀k,k<w.heap.size→¬S k):Below w.heap.size w w':=⟨h.os,h.tape,h.output,h.size,fun k hk=> h.block k hk (hs k hk)⟩
theorem Keeps.step0 (h:Keeps S a w) (k:Keeps (fun _=> False) w w'):Keeps S a w':=h.step k (fun _ _ hh=> hh.elim)
theorem Keeps.done (h:Keeps (fun _=> False) w w'):Below w.heap.size w w':=h.below (fun _ _ hh=> hh)
theorem Below.keeps {B:Nat} (h:Below B w w'):Keeps (fun k=> B≤k) w w':=⟨h.os,h.tape,h.output,h.size,fun k _ hn=> h.block k (by omega)⟩
theorem Keeps.cell (h:Keeps S w w') {p:Addr} (hp:p.block<w.heap.size) (hn:¬S p.block):w'.cell? p=w.cell? p:=World.cell?_of_block (h.block _ hp hn)
theorem Keeps.cell_some (h:Keeps S w w') {p:Addr} {v:Value} (hc:w.cell? p=some v) (hn:¬S p.block):w'.cell? p=some v:=
 (h.cell (block_lt_of_cell hc) hn).trans hc
theorem Keeps.frozen (h:Keeps S w w') {p:Addr} (hp:p.block<w.heap.size) (hn:¬S p.block):w'.frozen? p=w.frozen? p:=World.frozen?_of_block (h.block _ hp hn)
theorem Rd.kept {B sz n:Nat} {A:Option Addr} {xs:List Value} (h:Rd w B A sz n xs) (k:Keeps S w w') (hs:∀b,b<B→¬S b):Rd w' B A sz n xs:=
 ⟨h.1,fun hn=> by obtain⟨b,off,e,hb,hc⟩:=h.2 hn;exact⟨b,off,e,hb,fun j u hu=> k.cell_some (hc j u hu) (hs b hb)⟩⟩
theorem Zf7 {base:Nat} {e:TypeId} {size n:Nat} {v:Value} {xs:List Value} (h:w.ownsRow base e size v n xs) (k:Keeps S w w') (hs:∀g,v.ownBlock=some g→¬S g):w'.ownsRow base e size v n xs:=by
 refine⟨h.1,?_⟩
 rcases h.2 with hn | ⟨g,cap,cur,rfl,hb,hgg,rest⟩
 ·exact .inl hn
 ·exact .inr ⟨g,cap,cur,rfl,hb,(k.block g (Array.getElem?_eq_some_iff.1 hgg).1 (hs g rfl)).trans hgg,rest⟩
end
def Blk (w:World) (g:Nat) (t:TypeId) (cs:Array Value):Prop:=w.heap[g]?=some (.cells cs t (0,0))
section
variable {S:Nat→Prop} {w w':World} {g:Nat} {t:TypeId} {cs:Array Value}
theorem Blk.lt (h:Blk w g t cs):g<w.heap.size:=lt_of_block h
theorem Blk.cell (h:Blk w g t cs) (i:Nat):w.cell? ⟨g,i,none⟩=cs[i]?:=cell_of_row w g i cs t (0,0) h
theorem Blk.frozen (h:Blk w g t cs) (i:Nat):w.frozen? ⟨g,i,none⟩=false:=frozen_of_row w g i cs t h
theorem Blk.new (w:World) (t:TypeId) (cs:Array Value):Blk (w.alloc (.cells cs t)) w.heap.size t cs:=heap_alloc_new w _
theorem Blk.drew (h:Blk w g t cs):Blk w.drew g t cs:=h
theorem Blk.drewN (h:Blk w g t cs) (n:Nat):Blk (w.drewN n) g t cs:=h
theorem Blk.alloc (h:Blk w g t cs) (o:Obj):Blk (w.alloc o) g t cs:=(Below.heap_alloc w o g h.lt).trans h
theorem Blk.set (h:Blk w g t cs) (i:Nat) (u:Value):Blk (w.setCell ⟨g,i,none⟩ u) g t (cs.setIfInBounds i u):=heap_setCell_same w g i cs t u h
theorem Blk.far (h:Blk w g t cs) {p:Addr} (hp:g≠p.block) (u:Value):Blk (w.setCell p u) g t cs:=(Below.heap_setCell w p u g hp).trans h
theorem Blk.kept (h:Blk w g t cs) (k:Keeps S w w') (hn:¬S g):Blk w' g t cs:=(k.block g h.lt hn).trans h
theorem Blk.rd {xs:List Value} {sz n:Nat} (h:Blk w g t xs.toArray) (hn:xs.length=n*sz):Rd w w.heap.size (some ⟨g,0,none⟩) sz n xs:=
 ⟨hn,fun _=> ⟨g,0,rfl,h.lt,fun j u hu=> by rw [Nat.zero_add,h.cell j];simpa using hu⟩⟩
theorem Blk.ne {g':Nat} {t':TypeId} {cs':Array Value} (h:Blk w g t cs) (h':Blk w g' t' cs') (hne:t≠t'):g≠g':=by
 rintro rfl
 unfold Blk at h h'
 rw [h] at h'
 injection h' with h'
 injection h' with _ ht
 exact hne ht
end
theorem Zbs {P:Program} {f:FuncId} {args:Array Value} {w:World} {n:Nat} {v:Value}
  (h:Calls P f args (w.drewN n) fun e w'=> e= .returned v∧w.drewN n=w'):Calls P f args (w.drewN n) fun e w''=> e= .returned v∧∃m,w''=w.drewN m:=
 h.mono fun _ _ ⟨he,hm⟩=> ⟨he,n,hm.symm⟩
theorem Zas {P:Program} {f:FuncId} {args:Array Value} {w:World} {a n:Nat} {v:Value}
  (h:Calls P f args (w.drewN (a+n)) fun e w'=> e= .returned v∧w.drewN (a+n)=w'):
  Calls P f args (w.drewN (a+n)) fun e w''=> e= .returned v∧∃m,w''=w.drewN (a+m):=
 h.mono fun _ _ ⟨he,hm⟩=> ⟨he,n,hm.symm⟩
theorem Zd7 {P:Program} {f:FuncId} {args:Array Value} {w:World} {n:Nat} {v:Value}
  (h:Calls P f args (w.drewN n) fun e w'=> e= .returned v∧∃m,w'=(w.drewN n).drewN m):Calls P f args (w.drewN n) fun e w''=> e= .returned v∧∃m,w''=w.drewN m:=
 h.mono fun _ _ ⟨he,m,hm⟩=> ⟨he,n+m,by rw [hm,World.drewN_drewN]⟩
theorem Zpm {H:Type} {enc:TypeId × Value→H} {P:Program} {W:World} {t e:TypeId} {k:IntKind} {A:Option Addr} {n c nb:Nat} {d:DataW H} {p:List MemPlace} {ts:List TypeId} {ds:List (DataW H)} {j:Nat}
  (ht:P.underlying t=some (.slice e)) (he:P.underlying e=some (.int k)) (hc:P.cellsOf e=1) (hby:P.bytesOf e=nb)
  (h:DataW.Trod enc P W 0 (fun _=> true) true t (.slice A n c) d p)
  (hsz:(DataW.weightsEach P ts ds).all (· ≤reachBytes)=true) (htj:ts[j]?=some t) (hdj:ds[j]?=some d):
  ∃zs:List Int,Rd W W.heap.size A 1 n (zs.map (.int k))∧(∀z∈zs,(Lit.int k z).wf=true)∧n*nb≤140737488351232∧n≤c:=by
 obtain⟨fuel,hf⟩:=h
 rcases open_ints ht he hc hf with ⟨hcs,_⟩ | ⟨x,l,c',zs,hcs,_,hl,hm,hz,hx,hcell,hwz⟩
 ·simp [Value.cells] at hcs
  obtain⟨rfl,rfl,rfl⟩:=hcs
  exact⟨[],Rd.zero rfl,by simp,by omega,by omega⟩
 ·simp [Value.cells] at hcs
  obtain⟨rfl,rfl,rfl⟩:=hcs
  simp only [Prod.mk.injEq] at hx
  obtain⟨rfl,_⟩:=hx
  have hs:=sized_slice hsz htj hdj ht
  rw [hby] at hs
  have hzl:zs.length=c:=by simpa using hz
  have hlen:(lits (H:=H) k (zs.take n)).length+(lits (H:=H) k (zs.drop n)).length=c:=by simp [lits];omega
  rw [hlen] at hs
  have hnb:n*nb≤c*nb:=Nat.mul_le_mul_right _ hl
  refine⟨zs.take n,⟨by simp;omega,fun hn=> ?_⟩,fun z hz'=> hwz z (List.mem_of_mem_take hz'),by simp only [reachBytes] at hs;omega,hl⟩
  obtain⟨b,off,spot⟩:=x
  have h0:=hcell 0 (by omega)
  have hspot:spot=none:=by simpa [Addr.add] using World.cell?_spot h0
  subst hspot
  refine⟨b,off,rfl,by simpa [Addr.add] using block_lt_of_cell h0,fun i u hu=> ?_⟩
  have hi:i<n:=by
   have:=(List.getElem?_eq_some_iff.1 hu).1
   simp at this;omega
  have hci:=hcell i (by omega)
  rw [add_plain] at hci
  rw [hci,←hu]
  simp [List.getElem?_take,hi,List.getD,show i<zs.length by omega]
theorem zz {p:Prop} (h:p):Hid p:=h
theorem Zaa {k:IntKind} {a b:Int} (h:a=b):Ending.returned (.int k a)= .returned (.int k b):=by rw [h]
theorem Znv {a b:Bool} (h:a=b):Ending.returned (.bool a)= .returned (.bool b):=by rw [h]
open Go.RowKit Go.ChangeShapes Go.WideShapes
abbrev by8 (c:UInt8):Value:= .int .u8 (c.toNat:Int)
theorem Zb4 (l:List UInt8):∀u∈l.map by8,u.oneCell'=true:=by intro u hu;simp at hu;obtain⟨c,_,rfl⟩:=hu;rfl
theorem Blk.new_at (w:World) (t:TypeId) (cs:Array Value) (g:Nat) (h:g=w.heap.size):Blk (w.alloc (.cells cs t)) g t cs:=by rw [h];exact Blk.new w t cs
theorem Blk.three {w:World} {g:Nat} {t:TypeId} {x y z:Value} (h:Blk w g t #[x,y,z]):
  (w.cell? ⟨g,0,none⟩=some x∧w.cell? ⟨g,1,none⟩=some y∧w.cell? ⟨g,2,none⟩=some z)∧(w.frozen? ⟨g,0,none⟩=false∧w.frozen? ⟨g,1,none⟩=false∧w.frozen? ⟨g,2,none⟩=false)∧g<w.heap.size:=
 ⟨⟨h.cell 0,h.cell 1,h.cell 2⟩,⟨h.frozen 0,h.frozen 1,h.frozen 2⟩,h.lt⟩
structure ElemOf (P:Program) (t e:TypeId) (sz bytes:Nat):Prop where
 under:P.underlying t=some (.slice e)
 info:∃i z,P.info? e=some i∧i.zero=some z∧i.size=sz∧i.bytes=bytes∧z.cells.size=sz
 pos:0<sz
theorem ElemOf.mk' {P:Program} {t e:TypeId} {sz bytes:Nat} {z:Value} (ht:P.underlying t=some (.slice e)) (hi:(P.info? e).map (fun i=> (i.zero,i.size,i.bytes))=some (some z,sz,bytes))
  (hz:z.cells.size=sz) (hp:0<sz):ElemOf P t e sz bytes:=by
 obtain⟨i,h1,h2,h3,h4⟩:=info_parts hi
 exact⟨ht,⟨i,z,h1,h2,h3,h4,hz⟩,hp⟩
def inB (A:Option Addr) (k:Nat):Prop:=∃ad,A=some ad∧ad.block=k
theorem Zaj (k:Nat):¬inB none k:=fun⟨_,h,_⟩=> by cases h
theorem Za0 (b off k:Nat):inB (some ⟨b,off,none⟩) k ↔ b=k:=⟨fun⟨_,h,e⟩=> by cases h;exact e,fun h=> ⟨_,rfl,h⟩⟩
def Own (w:World) (base:Nat) (e:TypeId) (sz:Nat) (A:Option Addr) (n c:Nat) (xs:List Value):Prop:=w.ownsRow base e sz (.slice A n c) n xs
section
variable {w w':World} {S:Nat→Prop} {base n c sz:Nat} {e:TypeId} {A:Option Addr} {xs:List Value}
theorem Own.nil (w:World) (base:Nat) (e:TypeId) (sz:Nat):Own w base e sz none 0 0 []:=World.ownsRow_nil _ _ _ _
theorem Own.len (h:Own w base e sz A n c xs):xs.length=n*sz:=h.1
theorem Own.form (h:Own w base e sz A n c xs):(A=none∧n=0∧c=0)∨∃g,A=some ⟨g,0,none⟩∧base≤g∧g<w.heap.size∧n≤c∧c≤maxLen:=by
 rcases h.2 with ⟨hv,h0⟩ | ⟨g,cap,cur,hv,hb,hg,hn,hc,_⟩
 ·injection hv with h1 h2 h3
  exact .inl ⟨h1,h2,h3⟩
 ·injection hv with h1 h2 h3
  subst h3
  exact .inr ⟨g,h1,hb,lt_of_block hg,hn,hc⟩
theorem Own.le (h:Own w base e sz A n c xs):n≤c:=by
 rcases h.form with ⟨_,h1,h2⟩ | ⟨g,_,_,_,h1,_⟩ <;> omega
theorem Own.inB (h:Own w base e sz A n c xs) {k:Nat} (hk:inB A k):base≤k∧k<w.heap.size:=by
 obtain⟨ad,rfl,rfl⟩:=hk
 rcases h.form with ⟨h1,_⟩ | ⟨g,h1,h2,h3,_⟩
 ·cases h1
 ·injection h1 with h1
  subst h1
  exact⟨h2,h3⟩
theorem Own.kept (h:Own w base e sz A n c xs) (k:Keeps S w w') (hs:∀b,Go.Proofs.YtjamiaamngalgaaGreat.inB A b→¬S b):Own w' base e sz A n c xs:=
 Zf7 h k (fun g hg=> hs g (by
  cases A with
  | none=> simp [Value.ownBlock] at hg
  | some ad=> exact⟨ad,rfl,by simpa [Value.ownBlock] using hg⟩))
theorem Own.drewN (h:Own w base e sz A n c xs) (k:Nat):Own (w.drewN k) base e sz A n c xs:=h
theorem Own.base_le {b:Nat} (h:Own w base e sz A n c xs) (hb:b≤base):Own w b e sz A n c xs:=by
 refine⟨h.1,?_⟩
 rcases h.2 with h2 | ⟨g,cap,cur,hv,hg,r⟩
 ·exact .inl h2
 ·exact .inr ⟨g,cap,cur,hv,by omega,r⟩
theorem Own.rd (h:Own w base e sz A n c xs) (hp:0<sz):Rd w w.heap.size A sz n xs:=by
 refine⟨h.1,fun hn=> ?_⟩
 rcases h.2 with ⟨hv,h0⟩ | ⟨g,cap,cur,hv,hb,hg,hn',hc,hsz,ht⟩
 ·omega
 ·injection hv with h1 h2 h3
  subst h3
  refine⟨g,0,h1,lt_of_block hg,fun j u hu=> ?_⟩
  rw [Nat.zero_add,cell_of_row w g j cur e (0,0) hg]
  rw [←ht,List.getElem?_take] at hu
  split at hu
  ·simpa using hu
  ·cases hu
theorem Own.cell {g:Nat} (h:Own w base e sz (some ⟨g,0,none⟩) n c xs) (j:Nat) (hj:j<n*sz):w.cell? ⟨g,j,none⟩=xs[j]?:=World.ownsRow.cellAt h j hj
theorem Own.frozen {g:Nat} (h:Own w base e sz (some ⟨g,0,none⟩) n c xs) (j:Nat):w.frozen? ⟨g,j,none⟩=false:=World.ownsRow.frozenAt h j
theorem Own.store {g:Nat} (h:Own w base e sz (some ⟨g,0,none⟩) n c xs) (j:Nat) (u:Value):Own (w.setCell ⟨g,j,none⟩ u) base e sz (some ⟨g,0,none⟩) n c (xs.set j u):=(World.ownsRow.stored h j u).1
theorem Own.new0 (w:World) (base:Nat) (e:TypeId) (sz g:Nat) (hg:g=w.heap.size) (hb:base≤g):Own (w.alloc (.cells #[] e)) base e sz (some ⟨g,0,none⟩) 0 0 []:=by
 subst hg
 exact World.ownsRow_lit w #[] 0 hb (by simp [maxLen]) (by simp)
theorem Own.new_at (w:World) (base:Nat) (e:TypeId) (cs:Array Value) (n sz g:Nat) (hg:g=w.heap.size) (hb:base≤g) (hm:n≤maxLen) (hs:cs.size=n*sz):
  Own (w.alloc (.cells cs e)) base e sz (some ⟨g,0,none⟩) n n cs.toList:=by
 subst hg
 exact World.ownsRow_lit w cs n hb hm hs
theorem Own.some_ (h:Own w base e sz A n c xs) (hn:0<n):∃g,A=some ⟨g,0,none⟩∧base≤g∧g<w.heap.size:=by
 rcases h.form with ⟨_,h0,_⟩ | ⟨g,h1,h2,h3,_⟩
 ·omega
 ·exact⟨g,h1,h2,h3⟩
theorem Own.new (w:World) (base:Nat) (e:TypeId) (cs:Array Value) (n sz:Nat) (hb:base≤w.heap.size) (hm:n≤maxLen) (hs:cs.size=n*sz):
  Own (w.alloc (.cells cs e)) base e sz (some ⟨w.heap.size,0,none⟩) n n cs.toList:=World.ownsRow_lit w cs n hb hm hs
end
theorem Own.blk {w:World} {base n c sz:Nat} {e:TypeId} {A:Option Addr} {xs:List Value} (h:Own w base e sz A n c xs) {b:Nat} (hb:Go.Proofs.YtjamiaamngalgaaGreat.inB A b):∃cs,Blk w b e cs:=by
 obtain⟨ad,rfl,rfl⟩:=hb
 rcases h.2 with ⟨hv,_⟩ | ⟨g,cap,cur,hv,_,hg,_⟩
 ·cases hv
 ·injection hv with h1
  injection h1 with h1
  subst h1
  exact⟨cur,hg⟩
theorem Own.ne {w:World} {base n c sz base' n' c' sz':Nat} {e e':TypeId} {A A':Option Addr} {xs xs':List Value} (h:Own w base e sz A n c xs) (h':Own w base' e' sz' A' n' c' xs') (he:e≠e') {b:Nat} (hb:Go.Proofs.YtjamiaamngalgaaGreat.inB A b):¬Go.Proofs.YtjamiaamngalgaaGreat.inB A' b:=by
 intro hb'
 obtain⟨cs,h1⟩:=h.blk hb
 obtain⟨cs',h2⟩:=h'.blk hb'
 exact h1.ne h2 he rfl
theorem Own.ne_blk {w:World} {base n c sz g:Nat} {e e':TypeId} {A:Option Addr} {xs:List Value} {cs:Array Value} (h:Own w base e sz A n c xs) (h':Blk w g e' cs) (he:e≠e') {b:Nat} (hb:Go.Proofs.YtjamiaamngalgaaGreat.inB A b):b≠g:=by
 obtain⟨cs,h1⟩:=h.blk hb
 exact h1.ne h' he
theorem Rd.take {w:World} {B sz n k:Nat} {A:Option Addr} {xs:List Value} (h:Rd w B A sz n xs) (hk:k≤n):Rd w B A sz k (xs.take (k*sz)):=by
 refine⟨by rw [List.length_take,h.1];have:=Nat.mul_le_mul_right sz hk;omega,fun h0=> ?_⟩
 obtain⟨b,off,e,hb,hc⟩:=h.2 (by omega)
 refine⟨b,off,e,hb,fun j u hu=> hc j u ?_⟩
 rw [List.getElem?_take] at hu
 split at hu
 ·exact hu
 ·cases hu
section
variable {P:Program} (w:World)
theorem Zed (base:Nat) (t ty e:TypeId) (i:TypeInfo) (size:Nat) (ht:P.underlying t=some (.slice e)) (hi:P.info? e=some i)
  (v:Value) (n:Nat) (xs:List Value) (hown:w.ownsRow base e size v n xs) (c:Nat):(Builtin.append_ #[t,t] ty #[v,.slice none 0 c]).run P w= .ok v w:=by
 rcases hown.2 with ⟨rfl,rfl⟩ | ⟨g,cap,cur,rfl,_,_,hnc,_⟩
 ·simp [Builtin.append_,run_underlying ht,sizeOf,typeInfo,hi,Builtin.lenOf,Builtin.firstCells]
 ·simp [Builtin.append_,run_underlying ht,sizeOf,typeInfo,hi,Builtin.lenOf,Builtin.firstCells,hnc,storeCells]
theorem Zre {t e:TypeId} {sz bytes:Nat} (E:ElemOf P t e sz bytes) (ty:TypeId) (base:Nat) (A:Option Addr) (n c:Nat) (xs:List Value) (hown:Own w base e sz A n c xs)
  (B:Nat) (A2:Option Addr) (m c2:Nat) (news:List Value) (hr:Rd w B A2 sz m news) (h1:∀u∈news,u.oneCell'=true)
  (h63:n+m≤maxLen) (hbytes:(n+m)*bytes≤140737488355328) (hbase:base≤w.heap.size):
  ∃A' c' w',(Builtin.append_ #[t,t] ty #[.slice A n c,.slice A2 m c2]).run P w= .ok (.slice A' (n+m) c') w'∧Own w' base e sz A' (n+m) c' (xs++news)∧Keeps (inB A) w w'∧
   (∀k,inB A' k→inB A k∨w.heap.size≤k):=by
 obtain⟨ht,⟨i,z,hi,hz,hsize,hby,hzs⟩,hpos⟩:=E
 have shape:∀ {v':Value} {w':World},w'.ownsRow base e sz v' (n+m) (xs++news)→∃A' c',v'= .slice A' (n+m) c':=by
  intro v' w' h
  rcases h.2 with ⟨rfl,h0⟩ | ⟨g,cap,cur,rfl,_⟩
  ·exact⟨none,0,by rw [h0]⟩
  ·exact⟨_,_,rfl⟩
 have fin:∀(ad:Addr),(∀j u,news[j]?=some u→w.cell? (ad.add j)=some u)→A2=some ad→∃A' c' w',(Builtin.append_ #[t,t] ty #[.slice A n c,.slice A2 m c2]).run P w= .ok (.slice A' (n+m) c') w'∧Own w' base e sz A' (n+m) c' (xs++news)∧Keeps (inB A) w w'∧
   (∀k,inB A' k→inB A k∨w.heap.size≤k):=by
  rintro ad hcells rfl
  obtain⟨v',w',hrun,h2,h3,_,h5⟩:=run_append_own_at (P:=P) w base t ty e i z sz bytes ht hi hz hsize hby hzs hpos (.slice A n c) n xs hown ad m c2 news hr.1 hcells h1 h63 hbytes hbase
  obtain⟨A',c',rfl⟩:=shape h2
  refine⟨A',c',w',hrun,h2,⟨h3.os,h3.tape,h3.output,h3.size,fun k hk hn=> h3.block k hk (fun he=> hn ?_)⟩,fun k hk=> ?_⟩
  ·cases A with
   | none=> simp [Value.ownBlock] at he
   | some ad=> exact⟨ad,rfl,by simpa [Value.ownBlock] using he.symm⟩
  ·obtain⟨ad',rfl,rfl⟩:=hk
   rcases h5 with h5 | h5
   ·left
    cases A with
    | none=> simp [Value.ownBlock] at h5
    | some ad=> exact⟨ad,rfl,by simp [Value.ownBlock] at h5;exact h5.symm⟩
   ·right
    simp [Value.ownBlock] at h5
    omega
 rcases Nat.eq_zero_or_pos m with h0 | h0
 ·subst h0
  have hn:news= []:=List.eq_nil_of_length_eq_zero (by simpa using hr.1)
  subst hn
  cases A2 with
  | none=>
    exact⟨A,c,w,Zed w base t ty e i sz ht hi _ n xs hown c2,by simpa using hown,Kz0 _ _,fun k hk=> .inl hk⟩
  | some ad=> exact fin ad (by simp) rfl
 ·obtain⟨b,off,rfl,hb,hc⟩:=hr.2 h0
  exact fin ⟨b,off,none⟩ (fun j u hu=> by rw [add_plain];exact hc j u hu) rfl
theorem Zpv {o:Oper} {a:Act} {K:Act→World→Prop} {Q:Exit→Act→World→Prop} {t e:TypeId} {sz bytes:Nat} (E:ElemOf P t e sz bytes) (s x:Operand)
  (ho:o.op= .call { callee:= .builtin .append,args:= #[s,x],argTypes:= #[t,t]})
  (base:Nat) {A:Option Addr} {n c:Nat} (xs:List Value) (hs:a.eval s= .slice A n c) (hown:Own w base e sz A n c xs)
  (B:Nat) {A2:Option Addr} {m c2:Nat} (news:List Value) (hx:a.eval x= .slice A2 m c2) (hr:Rd w B A2 sz m news) (h1:∀u∈news,u.oneCell'=true)
  (h63:n+m≤maxLen) (hbytes:(n+m)*bytes≤140737488355328) (hbase:base≤w.heap.size)
  (h:∀A' c' w',Own w' base e sz A' (n+m) c' (xs++news)→Keeps (inB A) w w'→(∀k,inB A' k→inB A k∨w.heap.size≤k)→K (a.put o.dst (.slice A' (n+m) c')) w'):o.wp P a w K Q:=by
 obtain⟨A',c',w',hrun,h2,h3,h4⟩:=Zre (P:=P) w E o.type base A n c xs hown B A2 m c2 news hr h1 h63 hbytes hbase
 unfold Oper.wp execOp
 simp only [ho,resolve,invoke,builtin,Sem.run_bind,Sem.run_pure,Result.andThen_ok,List.map_toArray,List.map_cons,List.map_nil,hs,hx,hrun]
 exact h A' c' w' h2 h3 h4
theorem Za5 {ops:Array Oper} {rest:List Oper} {o:Oper} {a:Act} {Q:Exit→Act→World→Prop} {t e:TypeId} {sz bytes:Nat} (E:ElemOf P t e sz bytes) (hgd:o.guard=none) (s x:Operand)
  (ho:o.op= .call { callee:= .builtin .append,args:= #[s,x],argTypes:= #[t,t]})
  (base:Nat) {A:Option Addr} {n c:Nat} (xs:List Value) (hs:a.eval s= .slice A n c) (hown:Own w base e sz A n c xs)
  (B:Nat) {A2:Option Addr} {m c2:Nat} (news:List Value) (hx:a.eval x= .slice A2 m c2) (hr:Rd w B A2 sz m news) (h1:∀u∈news,u.oneCell'=true)
  (h63:n+m≤maxLen) (hbytes:(n+m)*bytes≤140737488355328) (hbase:base≤w.heap.size)
  (h:∀A' c' w',Own w' base e sz A' (n+m) c' (xs++news)→Keeps (inB A) w w'→(∀k,inB A' k→inB A k∨w.heap.size≤k)→wpList P ops Q rest (a.put o.dst (.slice A' (n+m) c')) w'):wpList P ops Q (o :: rest) a w:=
 wpList_plain hgd fun _ hK=> Zpv w E s x ho base xs hs hown B news hx hr h1 h63 hbytes hbase fun A' c' w' h2 h3 h4=> hK _ _ (h A' c' w' h2 h3 h4)
theorem Zao {ops:Array Oper} {o:Oper} {a:Act} {K:Act→World→Prop} {Q:Exit→Act→World→Prop} {F:Prop} {t e:TypeId} {sz bytes:Nat} (E:ElemOf P t e sz bytes) (hgd:o.guard=none) (s x:Operand)
  (ho:o.op= .call { callee:= .builtin .append,args:= #[s,x],argTypes:= #[t,t]})
  (base:Nat) {A:Option Addr} {n c:Nat} (xs:List Value) (hs:a.eval s= .slice A n c) (hown:Own w base e sz A n c xs)
  (B:Nat) {A2:Option Addr} {m c2:Nat} (news:List Value) (hx:a.eval x= .slice A2 m c2) (hr:Rd w B A2 sz m news) (h1:∀u∈news,u.oneCell'=true)
  (h63:n+m≤maxLen) (hbytes:(n+m)*bytes≤140737488355328) (hbase:base≤w.heap.size)
  (h:∀A' c' w',Own w' base e sz A' (n+m) c' (xs++news)→Keeps (inB A) w w'→(∀k,inB A' k→inB A k∨w.heap.size≤k)→K (a.put o.dst (.slice A' (n+m) c')) w'):
  if Region.wanted o (yielded ops a.tmps)=true then Oper.wp P o a w K Q else F:=by
 have hw:Region.wanted o (yielded ops a.tmps)=true:=by simp [Region.wanted,hgd]
 rw [if_pos hw]
 exact Zpv w E s x ho base xs hs hown B news hx hr h1 h63 hbytes hbase h
end
theorem Zcr {P:Program} {t e:TypeId} {sz bytes:Nat} (E:ElemOf P t e sz bytes) (A:Option Addr) (n c:Nat) (k:IntKind) (x:Int) (h0:0≤x) (h1:x≤n) (hnc:n≤c):
  ∃A',(∀w,(Instr.sliceAt t (.slice A n c) (some (.int k x)) none none).run P w= .ok (.slice A' (n-x.toNat) (c-x.toNat)) w)∧
   (∀w B xs,Rd w B A sz n xs→Rd w B A' sz (n-x.toNat) (xs.drop (x.toNat*sz)))∧(∀j,inB A' j→inB A j):=by
 obtain⟨ht,⟨i,z,hi,hz,hsize,hby,hzs⟩,hpos⟩:=E
 have hel:P.elem t=e:=by simp [Program.elem,ht]
 refine⟨if c=x.toNat then A else A.map (·.add (x.toNat*sz)),fun w=> ?_,fun w B xs hr=> ⟨?_,fun hn=> ?_⟩,fun j hj=> ?_⟩
 ·rw [run_sliceAt_slice _ _ _ _ _ _ (by rw [hel];exact ht),run_slice_l _ _ _ _ _ (by rw [hel];exact ht) _ _ h0 h1]
  simp [sizeOf,typeInfo,hel,hi,hsize,sliced]
 ·rw [List.length_drop,hr.1,Nat.sub_mul]
 ·obtain⟨b,off,rfl,hb,hc⟩:=hr.2 (by omega)
  by_cases hcx:c=x.toNat
  ·subst hcx
   rcases Nat.eq_zero_or_pos x.toNat with h | h
   ·rw [if_pos rfl,h]
    exact⟨b,off,rfl,hb,fun j u hu=> hc j u (by simpa using hu)⟩
   ·rw [if_pos rfl]
    exfalso
    omega
  ·rw [if_neg hcx]
   refine⟨b,off+x.toNat*sz,by simp [Addr.add],hb,fun j u hu=> ?_⟩
   rw [List.getElem?_drop] at hu
   rw [Nat.add_assoc]
   exact hc _ u hu
 ·obtain⟨ad,h,rfl⟩:=hj
  split at h
  ·exact⟨ad,h,rfl⟩
  ·cases A with
   | none=> cases h
   | some a=> simp at h;subst h;exact⟨a,rfl,by unfold Addr.add;split <;> rfl⟩
theorem Zbu:ElemOf Tryz.prog 57 5 1 1:=ElemOf.mk' (z:= .int .u8 0) Tryz.underlying57 (by kernel_rfl) rfl (by omega)
open Go.RowKit Go.ChangeShapes Go.WideShapes
theorem Zq3 {P:Program} {t e:TypeId} {sz bytes:Nat} (E:ElemOf P t e sz bytes) (A:Option Addr) (n c:Nat) (k k':IntKind) (x y:Int) (h0:0≤x) (h1:x≤y) (h2:y≤n) (hnc:n≤c):
  ∃A',(∀w,(Instr.sliceAt t (.slice A n c) (some (.int k x)) (some (.int k' y)) none).run P w= .ok (.slice A' (y.toNat-x.toNat) (c-x.toNat)) w)∧
   (∀w B xs,Rd w B A sz n xs→Rd w B A' sz (y.toNat-x.toNat) ((xs.drop (x.toNat*sz)).take ((y.toNat-x.toNat)*sz)))∧(∀j,inB A' j→inB A j):=by
 obtain⟨ht,⟨i,z,hi,hz,hsize,hby,hzs⟩,hpos⟩:=E
 have hel:P.elem t=e:=by simp [Program.elem,ht]
 refine⟨if c=x.toNat then A else A.map (·.add (x.toNat*sz)),fun w=> ?_,fun w B xs hr=> ⟨?_,fun hn=> ?_⟩,fun j hj=> ?_⟩
 ·rw [run_sliceAt_slice _ _ _ _ _ _ (by rw [hel];exact ht),run_slice_lh _ _ _ _ _ (by rw [hel];exact ht) _ _ _ _ h0 h1 (by omega)]
  simp [sizeOf,typeInfo,hel,hi,hsize,sliced]
 ·rw [List.length_take,List.length_drop,hr.1,←Nat.sub_mul]
  have:=Nat.mul_le_mul_right sz (show y.toNat-x.toNat≤n-x.toNat by omega)
  omega
 ·obtain⟨b,off,rfl,hb,hc⟩:=hr.2 (by omega)
  have key:∀off',off'=off+x.toNat*sz→∀j u,((xs.drop (x.toNat*sz)).take ((y.toNat-x.toNat)*sz))[j]?=some u→w.cell? ⟨b,off'+j,none⟩=some u:=by
   rintro off' rfl j u hu
   rw [List.getElem?_take] at hu
   split at hu
   ·rw [List.getElem?_drop] at hu
    rw [Nat.add_assoc]
    exact hc _ u hu
   ·cases hu
  by_cases hcx:c=x.toNat
  ·exfalso
   omega
  ·rw [if_neg hcx]
   exact⟨b,off+x.toNat*sz,by simp [Addr.add],hb,key _ rfl⟩
 ·obtain⟨ad,h,rfl⟩:=hj
  split at h
  ·exact⟨ad,h,rfl⟩
  ·cases A with
   | none=> cases h
   | some a=> simp at h;subst h;exact⟨a,rfl,by unfold Addr.add;split <;> rfl⟩
theorem Zq4 {P:Program} {t e:TypeId} {sz bytes:Nat} (E:ElemOf P t e sz bytes) (A:Option Addr) (n c:Nat) (k:IntKind) (y:Int) (h0:0≤y) (h2:y≤n) (hnc:n≤c):
  ∃A',(∀w,(Instr.sliceAt t (.slice A n c) none (some (.int k y)) none).run P w= .ok (.slice A' y.toNat c) w)∧
   (∀w B xs,Rd w B A sz n xs→Rd w B A' sz y.toNat (xs.take (y.toNat*sz)))∧(∀j,inB A' j→inB A j):=by
 obtain⟨ht,⟨i,z,hi,hz,hsize,hby,hzs⟩,hpos⟩:=E
 have hel:P.elem t=e:=by simp [Program.elem,ht]
 refine⟨if c=0 then A else A.map (·.add (0*sz)),fun w=> ?_,fun w B xs hr=> ?_,fun j hj=> ?_⟩
 ·rw [run_sliceAt_slice _ _ _ _ _ _ (by rw [hel];exact ht),run_slice_h _ _ _ _ _ (by rw [hel];exact ht) _ _ h0 (by omega)]
  simp [sizeOf,typeInfo,hel,hi,hsize,sliced]
 ·have hA:(if c=0 then A else A.map (·.add (0*sz)))=A:=by
   split
   ·rfl
   ·cases A <;> simp [Addr.add]
  rw [hA]
  exact hr.take (by omega)
 ·obtain⟨ad,h,rfl⟩:=hj
  split at h
  ·exact⟨ad,h,rfl⟩
  ·cases A with
   | none=> cases h
   | some a=> simp at h;subst h;exact⟨a,rfl,by unfold Addr.add;split <;> rfl⟩
theorem Ze0 {P:Program} {f:FuncId} {args:Array Value} {w:World} {a n:Nat} {v:Value}
  (h:Calls P f args (w.drewN (a+n)) fun e w'=> e= .returned v∧∃m,w'=(w.drewN (a+n)).drewN m):
  Calls P f args (w.drewN (a+n)) fun e w''=> e= .returned v∧∃m,w''=w.drewN (a+m):=
 h.mono fun _ _ ⟨he,m,hm⟩=> ⟨he,n+m,by rw [hm,World.drewN_drewN,Nat.add_assoc]⟩
open Go.RowKit Go.ChangeShapes Go.WideShapes
theorem Zvd (A:List Value) (B:Array Value):(A++B.toList).toArray=A.toArray++B:=by apply Array.ext';simp
theorem Zar {P:Program} (w:World) (s:ByteArray):(Builtin.firstCells 1 s.size (.string s)).run P w= .ok (s.data.toList.map by8).toArray w:=by
 simp only [Builtin.firstCells]
 have hx:(Array.map (fun b:UInt8=> Value.int IntKind.u8 (b.toNat:Int)) s.data).extract 0 s.size=(s.data.toList.map by8).toArray:=by
  have hs:s.size=(Array.map (fun b:UInt8=> Value.int IntKind.u8 (b.toNat:Int)) s.data).size:=by rw [Array.size_map];rfl
  rw [hs,Array.extract_size]
  apply Array.ext'
  simp
 simp [hx]
 apply Array.ext'
 simp
section
variable {P:Program}
theorem Zis (w:World) (t tx ty e:TypeId) (i:TypeInfo) (z:Value) (s:ByteArray) (ht:P.underlying t=some (.slice e)) (htx:P.underlying tx=some .string) (hi:P.info? e=some i) (hz:i.zero=some z) (hsz:i.size=1) (hzz:z.cells.size=1) (hm63:(s.size:Int)≤9223372036854775807)
  (A:Option Addr) (n c:Nat) (xs:List Value) (hown:Own w 0 e 1 A n c xs) (h63:n+s.size≤maxLen) (hbytes:(n+s.size)*i.bytes≤140737488355328) (hb1:1≤i.bytes):
  ∃A' c' w',(Builtin.append_ #[t,tx] ty #[.slice A n c,.string s]).run P w= .ok (.slice A' (n+s.size) c') w'∧
   ((w'=w∧A'=A∧c'=c∧s.size=0)∨(∃g cap cur,A=some ⟨g,0,none⟩∧A'=A∧c'=c∧w.heap[g]?=some (.cells cur e (0,0))∧w'=w.setRow g (cur.toList.take n++s.data.toList.map by8++cur.toList.drop (n+s.size)).toArray∧n+s.size≤c∧cap=c)∨
     (∃zs,A'=some ⟨w.heap.size,0,none⟩∧n+s.size≤c'∧c'≤maxLen∧w'=w.drew.alloc (.cells (xs++s.data.toList.map by8++zs).toArray e)∧zs.length=c'-(n+s.size))):=by
 have h63':¬(9223372036854775807<((n:Int)+(s.size:Nat))):=by simp only [maxLen] at h63;omega
 have hxl:xs.length=n:=by simpa using hown.len
 rcases hown.2 with ⟨hv,hn0⟩ | ⟨g,cap,cur,hv,hbg,hg,hnc,hcm,hcs,htake⟩
 ·injection hv with h1 h2 h3
  subst h1 h2 h3
  obtain rfl:xs= []:=List.eq_nil_of_length_eq_zero hxl
  by_cases hm:s.size=0
  ·refine⟨none,0,w,?_,.inl ⟨rfl,rfl,rfl,hm⟩⟩
   (have h5:=Zar (P:=P) w s;rw [hm] at h5;have h6:s.data.toList.map by8= []:=List.eq_nil_of_length_eq_zero (by rw [List.length_map];exact hm);rw [h6] at h5);simp [Builtin.append_,run_underlying ht,run_underlying htx,sizeOf,typeInfo,hi,hsz,Builtin.lenOf,hm,h5]
  ·simp only [Nat.zero_add] at hbytes
   have h48':¬(281474976710656<Builtin.nextslicecap s.size 0*i.bytes):=by rw [nextslicecap_zero (by omega)];omega
   have h63x:¬(9223372036854775807<((s.size:Nat):Int)):=by omega
   have hge:=grownCap_ge w (s.size) 0 e
   refine⟨some ⟨w.heap.size,0,none⟩,grownCap w s.size 0 e,w.drew.alloc (.cells (s.data.toList.map by8++(Builtin.zeroCells z.cells (grownCap w s.size 0 e-s.size)).toList).toArray e),?_,.inr (.inr ⟨(Builtin.zeroCells z.cells (grownCap w s.size 0 e-s.size)).toList,rfl,by omega,grownCap_le_maxLen w s.size 0 e (by omega),by simp,by simp [size_zeroCells,hzz]⟩)⟩
   rw [Zvd];simp [Builtin.append_,run_underlying ht,run_underlying htx,sizeOf,typeInfo,zeroValue,hi,hz,hsz,Question.forced,newRow,grownCap,Builtin.lenOf,Zar,run_firstCells_none,hm,h63x,h48']
 ·injection hv with h1 h2 h3
  subst h1 h3
  rw [Nat.mul_one] at hcs htake
  by_cases hroom:n+s.size≤c
  ·have hst:=run_storeCells_at P g n e (s.data.toList.map by8) 0 cur w hg (by simp;omega) (Zb4 _)
   simp only [Nat.add_zero] at hst
   refine⟨some ⟨g,0,none⟩,c,_,?_,.inr (.inl ⟨g,c,cur,rfl,rfl,rfl,hg,rfl,hroom,rfl⟩)⟩
   simp [Builtin.append_,run_underlying ht,run_underlying htx,sizeOf,typeInfo,zeroValue,hi,hz,hsz,Question.forced,newRow,grownCap,Builtin.lenOf,Zar,hroom,Addr.add_lit,hst]
   skip
   skip
  ·have hgb:¬(281474976710656<Builtin.nextslicecap (n+s.size) c*i.bytes):=by exact Nat.not_lt.2 (growslice_fits (by omega) hbytes)
   have hge:=grownCap_ge w (n+s.size) c e
   have holds:∀j u,xs[j]?=some u→w.cell? ((⟨g,0,none⟩:Addr).add j)=some u:=hown.cells (g:=g) rfl
   have hfo:=run_firstCells_some (P:=P) w.drew i.size n ⟨g,0,none⟩ n c xs (by rw [hsz];omega) (by simpa using holds)
   rw [hsz] at hfo
   refine⟨some ⟨w.heap.size,0,none⟩,grownCap w (n+s.size) c e,w.drew.alloc (.cells (xs++s.data.toList.map by8++(Builtin.zeroCells z.cells (grownCap w (n+s.size) c e-(n+s.size))).toList).toArray e),?_,.inr (.inr ⟨(Builtin.zeroCells z.cells (grownCap w (n+s.size) c e-(n+s.size))).toList,rfl,by omega,grownCap_le_maxLen w (n+s.size) c e h63,rfl,by simp [size_zeroCells,hzz]⟩)⟩
   (have hng:¬n+s.size≤c:=hroom);simp [Builtin.append_,run_underlying ht,run_underlying htx,sizeOf,typeInfo,zeroValue,hi,hz,hsz,Question.forced,newRow,grownCap,Builtin.lenOf,Zar,hng,h63',hgb,hfo];congr 2;apply Array.ext';simp [List.append_assoc]
theorem Zcl {w:World} {base n c m c':Nat} {e:TypeId} {A A':Option Addr} {xs news:List Value} {w':World} (hown:Own w base e 1 A n c xs) (hbase:base≤w.heap.size) (hl:news.length=m)
  (h:(w'=w∧A'=A∧c'=c∧m=0)∨(∃g cap cur,A=some ⟨g,0,none⟩∧A'=A∧c'=c∧w.heap[g]?=some (.cells cur e (0,0))∧w'=w.setRow g (cur.toList.take n++news++cur.toList.drop (n+m)).toArray∧n+m≤c∧cap=c)∨
    (∃zs,A'=some ⟨w.heap.size,0,none⟩∧n+m≤c'∧c'≤maxLen∧w'=w.drew.alloc (.cells (xs++news++zs).toArray e)∧zs.length=c'-(n+m))):
  Own w' base e 1 A' (n+m) c' (xs++news)∧Keeps (inB A) w w'∧(∀k,inB A' k→inB A k∨w.heap.size≤k):=by
 have hxl:xs.length=n:=by simpa using hown.len
 rcases h with ⟨rfl,rfl,rfl,rfl⟩ | ⟨g,cap,cur,rfl,rfl,rfl,hg,rfl,hle,rfl⟩ | ⟨zs,rfl,h1,h2,rfl,h3⟩
 ·obtain rfl:news= []:=List.eq_nil_of_length_eq_zero hl
  rw [List.append_nil]
  exact⟨hown,Kz0 _ _,fun k h=> .inl h⟩
 ·rcases hown.2 with ⟨hv,_⟩ | ⟨g',cap',cur',hv,hbg,hg',hnc,hcm,hcs,htake⟩
  ·cases hv
  ·injection hv with h1 h2 h3
   injection h1 with h1
   injection h1 with h1
   subst h1 h3
   rw [hg] at hg'
   injection hg' with hg'
   injection hg' with hg'
   subst hg'
   rw [Nat.mul_one] at hcs htake
   refine⟨⟨by rw [List.length_append,hxl,hl];omega,.inr ⟨g,cap,_,rfl,hbg,setRow_heap w g cur _ e _ hg,hle,hcm,?_,?_⟩⟩,⟨rfl,rfl,rfl,by simp,fun k _ hk=> setRow_other w g k _ (fun he=> hk ((Za0 _ _ _).2 he.symm))⟩,fun k h=> .inl h⟩
   ·simp only [List.size_toArray,List.length_append,List.length_take,List.length_drop,Array.length_toList]
    omega
   ·rw [htake,Nat.mul_one]
    have:(xs++news).length=n+m:=by rw [List.length_append,hxl,hl]
    rw [←this]
    exact List.take_left
 ·refine⟨⟨by rw [List.length_append,hxl,hl];omega,.inr ⟨w.heap.size,c',_,rfl,hbase,heap_alloc_new w.drew _,h1,h2,by simp;omega,?_⟩⟩,((Kz0 _ _).drew).alloc _,fun k h=> .inr (by have:=(Za0 _ _ _).1 h;omega)⟩
  have:(xs++news).length=(n+m)*1:=by rw [List.length_append,hxl,hl];omega
  rw [←this]
  simp only [List.toList_toArray]
  exact List.take_left
end
theorem Zbh {ops:Array Oper} {rest:List Oper} {o:Oper} {a:Act} {Q:Exit→Act→World→Prop} (w:World) (hgd:o.guard=none) (s x:Operand)
  (ho:o.op= .call { callee:= .builtin .append,args:= #[s,x],argTypes:= #[57,9]})
  (base:Nat) {A:Option Addr} {n c:Nat} (l:List UInt8) (hs:a.eval s= .slice A n c) (hown:Own w base 5 1 A n c (l.map by8))
  (b:ByteArray) (hx:a.eval x= .string b) (hb:b.size≤35184372088832) (hn:n≤35184372088832) (hbase:base≤w.heap.size)
  (h:∀A' c' w',Own w' base 5 1 A' (n+b.size) c' ((l++b.data.toList).map by8)→Keeps (inB A) w w'→(∀k,inB A' k→inB A k∨w.heap.size≤k)→wpList Tryz.prog ops Q rest (a.put o.dst (.slice A' (n+b.size) c')) w'):wpList Tryz.prog ops Q (o :: rest) a w:=by
 have hi:(Tryz.prog.info? 5).map (fun i=> (i.zero,i.size,i.bytes))=some (some (.int .u8 0),1,1):=by kernel_rfl
 obtain⟨i,h1,h2,h3,h4⟩:=info_parts hi
 obtain⟨A',c',w',hrun,hw⟩:=Zis (P:=Tryz.prog) w 57 9 o.type 5 i (.int .u8 0) b Tryz.underlying57 Tryz.underlying9 h1 h2 h3 rfl (by omega) A n c (l.map by8) (hown.base_le (Nat.zero_le _)) (by simp only [maxLen];omega) (by rw [h4];omega) (by rw [h4];omega)
 obtain⟨k1,k2,k3⟩:=Zcl hown hbase (by simp) hw
 refine Lib.wpList_append_run w hgd s x 57 9 ho _ _ hs hx _ _ hrun ?_
 rw [←List.map_append] at k1
 exact h A' c' w' k1 k2 k3
open Go.RowKit Go.ChangeShapes Go.WideShapes
section
variable {P:Program}
theorem Zpq (w:World) (t tx ty e:TypeId) (i:TypeInfo) (z:Value) (e2:TypeId) (ad:Addr) (m c2:Nat) (news:List Value) (ht:P.underlying t=some (.slice e)) (htx:P.underlying tx=some (.slice e2)) (hi:P.info? e=some i) (hz:i.zero=some z) (hsz:i.size=1) (hzz:z.cells.size=1) (hlen:news.length=m) (hnews:∀j u,news[j]?=some u→w.cell? (ad.add j)=some u) (hone:∀u∈news,u.oneCell'=true)
  (A:Option Addr) (n c:Nat) (xs:List Value) (hown:Own w 0 e 1 A n c xs) (h63:n+m≤maxLen) (hbytes:(n+m)*i.bytes≤140737488355328) (hb1:1≤i.bytes):
  ∃A' c' w',(Builtin.append_ #[t,tx] ty #[.slice A n c,.slice (some ad) m c2]).run P w= .ok (.slice A' (n+m) c') w'∧
   ((w'=w∧A'=A∧c'=c∧m=0)∨(∃g cap cur,A=some ⟨g,0,none⟩∧A'=A∧c'=c∧w.heap[g]?=some (.cells cur e (0,0))∧w'=w.setRow g (cur.toList.take n++news++cur.toList.drop (n+m)).toArray∧n+m≤c∧cap=c)∨
     (∃zs,A'=some ⟨w.heap.size,0,none⟩∧n+m≤c'∧c'≤maxLen∧w'=w.drew.alloc (.cells (xs++news++zs).toArray e)∧zs.length=c'-(n+m))):=by
 have h63':¬(9223372036854775807<((n:Int)+(m:Nat))):=by simp only [maxLen] at h63;omega
 have hxl:xs.length=n:=by simpa using hown.len
 rcases hown.2 with ⟨hv,hn0⟩ | ⟨g,cap,cur,hv,hbg,hg,hnc,hcm,hcs,htake⟩
 ·injection hv with h1 h2 h3
  subst h1 h2 h3
  obtain rfl:xs= []:=List.eq_nil_of_length_eq_zero hxl
  by_cases hm:m=0
  ·refine⟨none,0,w,?_,.inl ⟨rfl,rfl,rfl,hm⟩⟩
   (have hf:=run_firstCells_some (P:=P) w 1 m ad m c2 news (by omega) hnews); (subst hm;obtain rfl:news= []:=List.eq_nil_of_length_eq_zero hlen);simp [Builtin.append_,run_underlying ht,run_underlying htx,sizeOf,typeInfo,hi,hsz,Builtin.lenOf,hf]
  ·simp only [Nat.zero_add] at hbytes
   have h48':¬(281474976710656<Builtin.nextslicecap m 0*i.bytes):=by rw [nextslicecap_zero (by omega)];omega
   have h63x:¬(9223372036854775807<((m:Nat):Int)):=by omega
   have hge:=grownCap_ge w (m) 0 e
   refine⟨some ⟨w.heap.size,0,none⟩,grownCap w m 0 e,w.drew.alloc (.cells (news++(Builtin.zeroCells z.cells (grownCap w m 0 e-m)).toList).toArray e),?_,.inr (.inr ⟨(Builtin.zeroCells z.cells (grownCap w m 0 e-m)).toList,rfl,by omega,grownCap_le_maxLen w m 0 e (by omega),by simp,by simp [size_zeroCells,hzz]⟩)⟩
   (have hf:=run_firstCells_some (P:=P) w.drew 1 m ad m c2 news (by omega) (by simpa using hnews));rw [Zvd];simp [Builtin.append_,run_underlying ht,run_underlying htx,sizeOf,typeInfo,zeroValue,hi,hz,hsz,Question.forced,newRow,grownCap,Builtin.lenOf,hf,run_firstCells_none,hm,h63x,h48']
 ·injection hv with h1 h2 h3
  subst h1 h3
  rw [Nat.mul_one] at hcs htake
  by_cases hroom:n+m≤c
  ·have hst:=run_storeCells_at P g n e (news) 0 cur w hg (by simp;omega) hone
   simp only [Nat.add_zero] at hst
   refine⟨some ⟨g,0,none⟩,c,_,?_,.inr (.inl ⟨g,c,cur,rfl,rfl,rfl,hg,rfl,hroom,rfl⟩)⟩
   (have hf:=run_firstCells_some (P:=P) w 1 m ad m c2 news (by omega) hnews);simp [Builtin.append_,run_underlying ht,run_underlying htx,sizeOf,typeInfo,hi,hsz,Builtin.lenOf,hf,hroom,hlen,Addr.add_lit,hst]
   skip
   skip
  ·have hgb:¬(281474976710656<Builtin.nextslicecap (n+m) c*i.bytes):=by exact Nat.not_lt.2 (growslice_fits (by omega) hbytes)
   have hge:=grownCap_ge w (n+m) c e
   have holds:∀j u,xs[j]?=some u→w.cell? ((⟨g,0,none⟩:Addr).add j)=some u:=hown.cells (g:=g) rfl
   have hfo:=run_firstCells_some (P:=P) w.drew i.size n ⟨g,0,none⟩ n c xs (by rw [hsz];omega) (by simpa using holds)
   rw [hsz] at hfo
   refine⟨some ⟨w.heap.size,0,none⟩,grownCap w (n+m) c e,w.drew.alloc (.cells (xs++news++(Builtin.zeroCells z.cells (grownCap w (n+m) c e-(n+m))).toList).toArray e),?_,.inr (.inr ⟨(Builtin.zeroCells z.cells (grownCap w (n+m) c e-(n+m))).toList,rfl,by omega,grownCap_le_maxLen w (n+m) c e h63,rfl,by simp [size_zeroCells,hzz]⟩)⟩
   (have hf:=run_firstCells_some (P:=P) w.drew 1 m ad m c2 news (by omega) (by simpa using hnews)); (have hng:¬n+m≤c:=hroom);simp [Builtin.append_,run_underlying ht,run_underlying htx,sizeOf,typeInfo,zeroValue,hi,hz,hsz,Question.forced,newRow,grownCap,Builtin.lenOf,hf,hng,h63',hgb,hfo];congr 2;apply Array.ext';simp [List.append_assoc]
theorem Zh6 {w:World} {base n c m c':Nat} {e:TypeId} {A A':Option Addr} {xs news:List Value} {w':World} (hown:Own w base e 1 A n c xs)
  (h:(w'=w∧A'=A∧c'=c∧m=0)∨(∃g cap cur,A=some ⟨g,0,none⟩∧A'=A∧c'=c∧w.heap[g]?=some (.cells cur e (0,0))∧w'=w.setRow g (cur.toList.take n++news++cur.toList.drop (n+m)).toArray∧n+m≤c∧cap=c)∨
    (∃zs,A'=some ⟨w.heap.size,0,none⟩∧n+m≤c'∧c'≤maxLen∧w'=w.drew.alloc (.cells (xs++news++zs).toArray e)∧zs.length=c'-(n+m))):Rd w' w'.heap.size A 1 n xs:=by
 have hr:=hown.rd (by omega)
 have hxl:xs.length=n:=by simpa using hown.len
 rcases h with ⟨rfl,rfl,rfl,rfl⟩ | ⟨g,cap,cur,rfl,rfl,rfl,hg,rfl,hle,rfl⟩ | ⟨zs,rfl,h1,h2,rfl,h3⟩
 ·exact hr
 ·refine⟨hr.1,fun hn=> ⟨g,0,rfl,?_,fun j u hu=> ?_⟩⟩
  ·have:=lt_of_block hg
   simpa using this
  ·have hj:j<n:=by have:=(List.getElem?_eq_some_iff.1 hu).1;omega
   have hc:=hown.cell j (by omega)
   rw [cell_of_row w g j cur e (0,0) hg] at hc
   rw [Nat.zero_add,cell_of_row _ g j _ e (0,0) (setRow_heap w g cur _ e _ hg)]
   rw [←hu,←hc]
   have hcl:n≤cur.size:=by
    have:=(Array.getElem?_eq_some_iff.1 (hc.trans hu)).1
    rcases hown.2 with ⟨hv,_⟩ | ⟨g',cap',cur',hv,hbg,hg',hnc,hcm,hcs,htake⟩
    ·cases hv
    ·injection hv with e1 e2 e3
     injection e1 with e1
     injection e1 with e1
     subst e1
     rw [hg] at hg'
     injection hg' with hg'
     injection hg' with hg'
     subst hg'
     omega
   simp only [List.getElem?_toArray]
   rw [List.append_assoc,List.getElem?_append_left (by rw [List.length_take,Array.length_toList];omega),List.getElem?_take,if_pos hj]
   simp
 ·have k:Keeps NO w (w.drew.alloc (.cells (xs++news++zs).toArray e)):=((Kz0 _ w).drew).alloc _
  exact(hr.kept k (fun _ _ h=> h)).more k.size
theorem Zgv {ops:Array Oper} {rest:List Oper} {o:Oper} {a:Act} {Q:Exit→Act→World→Prop} (w:World) {t e:TypeId} {bytes:Nat} (E:ElemOf P t e 1 bytes) (hb1:1≤bytes) (hgd:o.guard=none) (s x:Operand)
  (ho:o.op= .call { callee:= .builtin .append,args:= #[s,x],argTypes:= #[t,t]})
  (base:Nat) {A:Option Addr} {n c:Nat} (xs:List Value) (hs:a.eval s= .slice A n c) (hown:Own w base e 1 A n c xs)
  (B:Nat) {A2:Option Addr} {m c2:Nat} (news:List Value) (hx:a.eval x= .slice A2 m c2) (hm:0<m) (hr:Rd w B A2 1 m news) (h1:∀u∈news,u.oneCell'=true)
  (h63:n+m≤maxLen) (hbytes:(n+m)*bytes≤140737488355328) (hbase:base≤w.heap.size)
  (h:∀A' c' w',Own w' base e 1 A' (n+m) c' (xs++news)→Keeps (inB A) w w'→(∀k,inB A' k→inB A k∨w.heap.size≤k)→Rd w' w'.heap.size A 1 n xs→wpList P ops Q rest (a.put o.dst (.slice A' (n+m) c')) w'):wpList P ops Q (o :: rest) a w:=by
 obtain⟨ht,⟨i,z,hi,hz,hsize,hby,hzs⟩,hpos⟩:=E
 obtain⟨b,off,rfl,hb,hc⟩:=hr.2 hm
 have hnl:news.length=m:=by simpa using hr.1
 obtain⟨A',c',w',hrun,hw⟩:=Zpq (P:=P) w t t o.type e i z e ⟨b,off,none⟩ m c2 news ht ht hi hz hsize hzs hnl (fun j u hu=> by rw [add_plain];exact hc j u hu) h1 A n c xs (hown.base_le (Nat.zero_le _)) h63 (by rw [hby];exact hbytes) (by omega)
 obtain⟨k1,k2,k3⟩:=Zcl hown hbase hnl hw
 have k4:=Zh6 hown hw
 exact Lib.wpList_append_run w hgd s x t t ho _ _ hs hx _ _ hrun (h A' c' w' k1 k2 k3 k4)
end
open Go.RowKit
namespace Hash
def rot (h k:Int):Int:=bits .or .u64 (IntKind.u64.wrap (h*2 ^ k.toNat)) (h / 2 ^ (64-k).toNat)
def step (t:List Int) (h b:Int):Int:=
 IntKind.u64.wrap (IntKind.u64.wrap (rot (bits .xor .u64 (rot h 5) (t.getD (b / 16).toNat 0)) 7+t.getD (b % 16).toNat 0)*11400714819323198485)
def fold (t:List Int) (h:Int) (l:List UInt8):Int:=l.foldl (fun h c=> step t h (c.toNat:Int)) h
def fin (h:Int):Int:=bits .xor .u64 h (h / 4294967296)
def key (t:List Int) (seed:Int) (l:List UInt8):Int:=if t.length=16 then fin (fold t seed l) else 0
theorem Zk1 (x:Int):0≤IntKind.u64.wrap x∧IntKind.u64.wrap x<18446744073709551616:=by rw [IntKind.wrap_u64];omega
theorem Zu1 (h k:Int):0≤rot h k∧rot h k<18446744073709551616:=Zdg (wf_bits _ _ _ _)
theorem Zkd (t:List Int) (h b:Int):0≤step t h b∧step t h b<18446744073709551616:=Zk1 _
theorem fin_bd (h:Int):0≤fin h∧fin h<18446744073709551616:=Zdg (wf_bits _ _ _ _)
theorem Zkt (h k:Int) (h0:0≤h) (h1:h<18446744073709551616) (k0:0≤k) (k1:k<64) (w:World):
  Calls Tryz.prog 217 #[.int .u64 h,.int .u64 k] w fun e w'=> e= .returned (.int .u64 (rot h k))∧w=w':=by
 go_enter Tryz.func217,Tryz.ntmps217
 go_wp2
 go_ret
 exact⟨rfl,rfl⟩
theorem Zsh (zs:List Int) (h:Int) (h0:0≤h) (h1:h<18446744073709551616) (l:List UInt8):0≤fold zs h l∧fold zs h l<18446744073709551616:=by
 induction l generalizing h with
 | nil=> exact⟨h0,h1⟩
 | cons c l ih=> exact ih _ (Zkd _ _ _).1 (Zkd _ _ _).2
theorem Zka (s:ByteArray) (k:Nat) (h:k<s.size):s.data.toList.take (k+1)=s.data.toList.take k++ [s[k]]:=by
 rw [List.take_succ_eq_append_getElem (by simpa using h)];rfl
theorem Zm2 (zs:List Int) (h:Int) (s:ByteArray) (k:Nat) (hk:k<s.size):
  fold zs h (s.data.toList.take (k+1))=step zs (fold zs h (s.data.toList.take k)) (s[k].toNat:Int):=by
 rw [Zka s k hk];unfold fold;rw [List.foldl_append];rfl
theorem check_16 (A:Option Addr) (c:Nat) (w:World):Calls Tryz.prog 133 #[.slice A 16 c] w fun e w'=> e= .returned (.int .i64 0)∧w=w':=by
 go_enter Tryz.func133,Tryz.ntmps133
 go_wp2
 go_ret
 exact⟨rfl,rfl⟩
theorem check_not (A:Option Addr) (n c:Nat) (hn:n≠16) (w:World):Calls Tryz.prog 133 #[.slice A n c] w fun e w'=> e= .returned (.int .i64 11)∧w=w':=by
 have e1:((n:Int)==16)=false:=by simp;omega
 have e2:((n:Int) != 16)=true:=by simp;omega
 go_enter Tryz.func133,Tryz.ntmps133
 go_wp2
 go_ret
 exact⟨rfl,rfl⟩
theorem Zum (zs:List Int) (hz:zs.length=16) (hb:∀z∈zs,0≤z∧z<18446744073709551616) (b off c:Nat) (seed:Int) (s0:0≤seed) (s1:seed<18446744073709551616)
  (s:ByteArray) (hs:s.size≤140737488351232) (w:World) (hc:∀j,j<16→w.cell? ⟨b,off+j,none⟩=some (.int .u64 (zs.getD j 0))):
  Calls Tryz.prog 172 #[.slice (some ⟨b,off,none⟩) 16 c,.int .u64 seed,.string s] w fun e w'=> e= .returned (.int .u64 (fin (fold zs seed s.data.toList)))∧∃nq,w'=w.drewN nq:=by
 go_enter Tryz.func172,Tryz.ntmps172
 go_wp2_with (go_at_call 133;refine(check_16 _ _ _).mono ?_;rintro e w' ⟨rfl,rfl⟩)
 go_loopw [7,8,9,16] (fun hv _ _ i wr=> ∃k:Nat,k≤s.size∧i= .int .i64 k∧hv= .int .u64 (fold zs seed (s.data.toList.take k))∧∃nq,wr=w.drewN nq) (fun _ _ _ i _=> s.size-(intOf i).toNat)
 case atStart=> exact⟨0,Nat.zero_le _,rfl,rfl,0,rfl⟩
 case round=>
  obtain⟨k,hk,rfl,rfl,nq,rfl⟩:=hrel
  by_cases hlt:k<s.size
  ·have hsn:=Zm2 zs seed s k hlt
   have hF:=Zsh zs seed s0 s1 (s.data.toList.take k)
   have q2:=s[k].toNat_lt
   have q0:(0:Int)≤(s[k].toNat:Int) / 16:=by omega
   have q1:(s[k].toNat:Int) / 16<16:=by omega
   have m0:(0:Int)≤(s[k].toNat:Int) % 16:=by omega
   have m1:(s[k].toNat:Int) % 16<16:=by omega
   have c1:=hc ((s[k].toNat:Int) / 16).toNat (by omega)
   have c2:=hc ((s[k].toNat:Int) % 16).toNat (by omega)
   have r1:=Zu1 (fold zs seed (s.data.toList.take k)) 5
   obtain⟨t1,ht1⟩:∃t,t=zs.getD ((s[k].toNat:Int) / 16).toNat 0:=⟨_,rfl⟩
   obtain⟨t2,ht2⟩:∃t,t=zs.getD ((s[k].toNat:Int) % 16).toNat 0:=⟨_,rfl⟩
   rw [←ht1] at c1
   rw [←ht2] at c2
   unfold step at hsn
   rw [←ht1,←ht2] at hsn
   clear ht1 ht2
   have HS:=zz hsn
   have HC:=zz hc
   clear hsn hc
   generalize fold zs seed (s.data.toList.take k)=f at*
   have e1:IntKind.u8.wrap ((s[k].toNat:Int) / 16)=(s[k].toNat:Int) / 16:=by rw [IntKind.wrap_u8];omega
   have e2:(s[k].toNat:Int).tmod 16=(s[k].toNat:Int) % 16:=Int.tmod_eq_emod_of_nonneg (by omega)
   go_wp2
   go_quiet ((go_at_call 217;exact Zas (Zkt _ _ (by omega) (by omega) (by omega) (by omega) _)))
   have r2:=Zdg (wf_bits .xor .u64 (rot f 5) t1)
   go_wp2
   go_quiet ((go_at_call 217;exact Zas (Zkt _ _ (by omega) (by omega) (by omega) (by omega) _)))
   go_wp2
   go_roundw
   case rel=> exact⟨k+1,by omega,by go_num,by rw [HS.out],_,rfl⟩
   case measure=> simp [intOf];omega
  ·go_wp2
   go_ret
   exact⟨Zaa (by rw [List.take_of_length_le (by simp;omega)];rfl),nq,rfl⟩
theorem Zrx (A:Option Addr) (n c:Nat) (hn:n≠16) (seed:Int) (s:ByteArray) (w:World):
  Calls Tryz.prog 172 #[.slice A n c,.int .u64 seed,.string s] w fun e w'=> e= .returned (.int .u64 0)∧w=w':=by
 go_enter Tryz.func172,Tryz.ntmps172
 go_wp2_with (go_at_call 133;refine(check_not _ _ _ hn _).mono ?_;rintro e w' ⟨rfl,rfl⟩)
 go_ret
 exact⟨rfl,rfl⟩
theorem key_any (zs:List Int) (hb:∀z∈zs,0≤z∧z<18446744073709551616) (A:Option Addr) (n c B:Nat) (w:World) (hr:Rd w B A 1 n (zs.map (.int .u64))) (seed:Int) (s0:0≤seed) (s1:seed<18446744073709551616)
  (s:ByteArray) (hs:s.size≤140737488351232):
  Calls Tryz.prog 172 #[.slice A n c,.int .u64 seed,.string s] w fun e w'=> e= .returned (.int .u64 (key zs seed s.data.toList))∧∃nq,w'=w.drewN nq:=by
 have hl:zs.length=n:=by simpa using hr.1
 by_cases h:n=16
 ·subst h
  obtain⟨b,off,rfl,_,hc⟩:=hr.2 (by omega)
  unfold key
  rw [if_pos hl]
  refine Zum zs hl hb b off c seed s0 s1 s hs w fun j hj=> hc j _ ?_
  simp [List.getD,show j<zs.length by omega]
 ·unfold key
  rw [if_neg (by omega)]
  exact(Zrx A n c h seed s w).mono fun e w' ⟨he,hw⟩=> ⟨he,0,hw.symm⟩
theorem rcheck_16 (A:Option Addr) (c:Nat) (w:World):Calls Tryz.prog 211 #[.slice A 16 c] w fun e w'=> e= .returned (.int .i64 0)∧w=w':=by
 go_enter Tryz.func211,Tryz.ntmps211
 go_wp2
 go_ret
 exact⟨rfl,rfl⟩
def rowSeed (seed row:Int):Int:=IntKind.u64.wrap (seed+IntKind.u64.wrap (IntKind.u64.wrap (IntKind.u64.wrap row+1)*15111065706836454659))
theorem Zej (seed row:Int):0≤rowSeed seed row∧rowSeed seed row<18446744073709551616:=Zk1 _
theorem row_any (zs:List Int) (hb:∀z∈zs,0≤z∧z<18446744073709551616) (A:Option Addr) (n c B:Nat) (w:World) (hr:Rd w B A 1 n (zs.map (.int .u64))) (seed:Int) (s0:0≤seed) (s1:seed<18446744073709551616)
  (row:Int) (r0: -9223372036854775808≤row) (r1:row<9223372036854775808) (s:ByteArray) (hs:s.size≤140737488351232):
  Calls Tryz.prog 288 #[.slice A n c,.int .u64 seed,.int .i64 row,.string s] w fun e w'=> e= .returned (.int .u64 (key zs (rowSeed seed row) s.data.toList))∧∃nq,w'=w.drewN nq:=by
 have HK:=zz (key_any zs hb A n c B w hr (rowSeed seed row) (Zej _ _).1 (Zej _ _).2 s hs)
 clear hr hb
 go_enter Tryz.func288,Tryz.ntmps288
 go_wp2_with fail
 refine HK.out.mono ?_
 rintro e w1 ⟨rfl,nq,rfl⟩
 go_wp2_with fail
 go_ret
 exact⟨rfl,nq,rfl⟩
def slot (h n:Int):Int:=if n<1 then 0 else h % n
theorem slot_any (h n:Int) (h0:0≤h) (h1:h<18446744073709551616) (n0: -9223372036854775808≤n) (n1:n<9223372036854775808) (w:World):
  Calls Tryz.prog 171 #[.int .u64 h,.int .i64 n] w fun e w'=> e= .returned (.int .i64 (slot h n))∧w=w':=by
 by_cases hn:n<1
 ·have e:slot h n=0:=by unfold slot;rw [if_pos hn]
  rw [e];clear e
  go_enter Tryz.func171,Tryz.ntmps171
  go_wp2
  go_ret
  exact⟨rfl,rfl⟩
 ·have e:slot h n=h % n:=by unfold slot;rw [if_neg hn]
  have b0:=Int.emod_nonneg h (show n≠0 by omega)
  have b1:=Int.emod_lt_of_pos h (show 0<n by omega)
  rw [e];clear e
  go_enter Tryz.func171,Tryz.ntmps171
  go_wp2
  go_ret
  exact⟨rfl,rfl⟩
end Hash
open Go.RowKit
section flat
variable {α:Type} (f:α→List Value) (m:Nat) (hf:∀x,(f x).length=m)
include hf
theorem Zcf (l:List α):(l.flatMap f).length=l.length*m:=by
 induction l with
 | nil=> simp
 | cons x l ih=> rw [List.flatMap_cons,List.length_append,hf,ih,List.length_cons,Nat.add_mul];omega
theorem Zag:∀(l:List α) (i k:Nat) (x:α),l[i]?=some x→k<m→(l.flatMap f)[i*m+k]?=(f x)[k]?
 | [],_,_,_,h,_=> by simp at h
 | y :: l,0,k,x,h,hk=> by
   simp at h
   subst h
   rw [List.flatMap_cons,Nat.zero_mul,Nat.zero_add,List.getElem?_append_left (by rw [hf];exact hk)]
 | y :: l,i+1,k,x,h,hk=> by
   rw [List.flatMap_cons,List.getElem?_append_right (by rw [hf,Nat.add_mul];omega),hf]
   have:=Zag l i k x (by simpa using h) hk
   rw [←this]
   congr 1
   rw [Nat.add_mul];omega
theorem Zb6:∀(l:List α) (i k:Nat) (x y:α) (v:Value),l[i]?=some x→k<m→f y=(f x).set k v→(l.flatMap f).set (i*m+k) v=(l.set i y).flatMap f
 | [],_,_,_,_,_,h,_,_=> by simp at h
 | z :: l,0,k,x,y,v,h,hk,hy=> by
   simp at h
   subst h
   rw [List.flatMap_cons,Nat.zero_mul,Nat.zero_add,List.set_append_left _ _ (by rw [hf];exact hk),List.set_cons_zero,List.flatMap_cons,hy]
 | z :: l,i+1,k,x,y,v,h,hk,hy=> by
   rw [List.flatMap_cons,List.set_append_right _ _ (by rw [hf,Nat.add_mul];omega),hf,List.set_cons_succ,List.flatMap_cons]
   have:=Zb6 l i k x y v (by simpa using h) hk hy
   rw [←this]
   congr 2
   rw [Nat.add_mul];omega
end flat
structure Slot where
 age:Int
 used:Bool
 next:Int
 D:Option Addr
 dc:Nat
 data:List UInt8
structure Cls where
 size:Int
 count:Int
 SA:Option Addr
 sc:Nat
 slots:List Slot
 live:Int
structure Ar where
 CA:Option Addr
 cap:Nat
 cls:List Cls
 free:List Int
 faults:Int
def Zfr (x:Slot):List Value:= [.int .i64 x.age,.bool x.used,.int .i64 x.next,.slice x.D x.data.length x.dc]
def Zb7 (l:List Slot):List Value:=l.flatMap Zfr
def clsC (c:Cls):List Value:= [.int .i64 c.size,.int .i64 c.count,.slice c.SA c.slots.length c.sc,.int .i64 c.live]
def Zbv (l:List Cls):List Value:=l.flatMap clsC
def arC (s:Ar):List Value:= .slice s.CA s.cls.length s.cap :: (s.free.map (.int .i64)++ [.int .i64 s.faults])
theorem Zd6 (l:List Slot):(Zb7 l).length=l.length*4:=Zcf _ 4 (fun _=> rfl) l
theorem Zmn (l:List Cls):(Zbv l).length=l.length*4:=Zcf _ 4 (fun _=> rfl) l
theorem Zdx {l:List Slot} {i:Nat} {x:Slot} (h:l[i]?=some x):(Zb7 l)[i*4]?=some (.int .i64 x.age)∧(Zb7 l)[i*4+1]?=some (.bool x.used)∧(Zb7 l)[i*4+2]?=some (.int .i64 x.next)∧(Zb7 l)[i*4+3]?=some (.slice x.D x.data.length x.dc):=
 ⟨Zag _ 4 (fun _=> rfl) l i 0 x h (by omega),Zag _ 4 (fun _=> rfl) l i 1 x h (by omega),Zag _ 4 (fun _=> rfl) l i 2 x h (by omega),Zag _ 4 (fun _=> rfl) l i 3 x h (by omega)⟩
theorem Zbd {l:List Cls} {i:Nat} {x:Cls} (h:l[i]?=some x):(Zbv l)[i*4]?=some (.int .i64 x.size)∧(Zbv l)[i*4+1]?=some (.int .i64 x.count)∧(Zbv l)[i*4+2]?=some (.slice x.SA x.slots.length x.sc)∧(Zbv l)[i*4+3]?=some (.int .i64 x.live):=
 ⟨Zag _ 4 (fun _=> rfl) l i 0 x h (by omega),Zag _ 4 (fun _=> rfl) l i 1 x h (by omega),Zag _ 4 (fun _=> rfl) l i 2 x h (by omega),Zag _ 4 (fun _=> rfl) l i 3 x h (by omega)⟩
theorem Zj3 {l:List Slot} {i k:Nat} {x y:Slot} {v:Value} (h:l[i]?=some x) (hk:k<4) (hy:Zfr y=(Zfr x).set k v):(Zb7 l).set (i*4+k) v=Zb7 (l.set i y):=Zb6 _ 4 (fun _=> rfl) l i k x y v h hk hy
theorem Zgn {l:List Cls} {i k:Nat} {x y:Cls} {v:Value} (h:l[i]?=some x) (hk:k<4) (hy:clsC y=(clsC x).set k v):(Zbv l).set (i*4+k) v=Zbv (l.set i y):=Zb6 _ 4 (fun _=> rfl) l i k x y v h hk hy
theorem Zj4 (l m:List Slot):Zb7 (l++m)=Zb7 l++Zb7 m:=List.flatMap_append
theorem Zmo (l m:List Cls):Zbv (l++m)=Zbv l++Zbv m:=List.flatMap_append
structure IsArH (w:World) (B a:Nat) (s:Ar) (X:Nat→Prop):Prop where
 le:B≤a
 blk:Blk w a 144 (arC s).toArray
 own:Own w B 147 4 s.CA s.cls.length s.cap (Zbv s.cls)
 sl:∀(i:Nat) (c:Cls),¬X i→s.cls[i]?=some c→Own w B 306 4 c.SA c.slots.length c.sc (Zb7 c.slots)
 da:∀(i:Nat) (c:Cls),¬X i→s.cls[i]?=some c→∀(j:Nat) (x:Slot),c.slots[j]?=some x→Own w B 5 1 x.D x.data.length x.dc (x.data.map by8)
 dj:∀(i j:Nat) (c d:Cls),¬X i→¬X j→i≠j→s.cls[i]?=some c→s.cls[j]?=some d→∀b,inB c.SA b→¬inB d.SA b
 fl:s.free.length=8
def IsAr (w:World) (B a:Nat) (s:Ar):Prop:=IsArH w B a s NO
structure Behind (w:World) (B:Nat) (s:Ar) (i:Nat) (c:Cls):Prop where
 sl:Own w B 306 4 c.SA c.slots.length c.sc (Zb7 c.slots)
 da:∀(j:Nat) (x:Slot),c.slots[j]?=some x→Own w B 5 1 x.D x.data.length x.dc (x.data.map by8)
 dj:∀(j:Nat) (d:Cls),j≠i→s.cls[j]?=some d→∀b,inB c.SA b→¬inB d.SA b
section
variable {w w':World} {B a:Nat} {s:Ar} {X:Nat→Prop} {S:Nat→Prop}
theorem IsAr.open_ (h:IsAr w B a s) {i:Nat} {c:Cls} (hc:s.cls[i]?=some c):IsArH w B a s (· =i)∧Behind w B s i c:=
 ⟨⟨h.le,h.blk,h.own,fun j d hj hd=> h.sl j d (fun e=> e) hd,fun j d hj hd=> h.da j d (fun e=> e) hd,fun j k d e hj hk=> h.dj j k d e (fun e=> e) (fun e=> e),h.fl⟩,
  ⟨h.sl i c (fun e=> e) hc,h.da i c (fun e=> e) hc,fun j d hj hd=> h.dj i j c d (fun e=> e) (fun e=> e) (fun e=> hj e.symm) hc hd⟩⟩
theorem IsArH.close {i:Nat} {c:Cls} (h:IsArH w B a s (· =i)) (hc:s.cls[i]?=some c) (b:Behind w B s i c):IsAr w B a s:=by
 refine⟨h.le,h.blk,h.own,fun j d _ hd=> ?_,fun j d _ hd=> ?_,fun j k d e _ _ hjk hd he=> ?_,h.fl⟩
 ·by_cases e:j=i
  ·subst e;rw [hc] at hd;injection hd with hd;subst hd;exact b.sl
  ·exact h.sl j d e hd
 ·by_cases e:j=i
  ·subst e;rw [hc] at hd;injection hd with hd;subst hd;exact b.da
  ·exact h.da j d e hd
 ·by_cases e1:j=i
  ·subst e1;rw [hc] at hd;injection hd with hd;subst hd;exact b.dj k e (fun e=> hjk e.symm) he
  ·by_cases e2:k=i
   ·subst e2;rw [hc] at he;injection he with he;subst he
    exact fun q h1 h2=> b.dj j d e1 hd q h2 h1
   ·exact h.dj j k d e e1 e2 hjk hd he
theorem Za8 {g:Nat} {t t':TypeId} {cs cs':Array Value} (h:Blk w g t cs) (h':Blk w g t' cs'):t=t':=by
 have:=h.symm.trans h'
 injection this with this
 injection this with _ this
def Other (w:World) (B b:Nat):Prop:=b<B∨∃cs t,Blk w b t cs∧t≠144∧t≠147∧t≠306∧t≠5
theorem Other.own {e:TypeId} {sz n c b:Nat} {A:Option Addr} {xs:List Value} (h:Other w B b) (o:Own w B e sz A n c xs) (he:e=147∨e=306∨e=5):¬inB A b:=by
 intro hb
 rcases h with h | ⟨cs,t,h1,h2,h3,h4,h5⟩
 ·have:=o.inB hb;omega
 ·obtain⟨cs',hb'⟩:=o.blk hb
  have:=Za8 h1 hb'
  rcases he with rfl | rfl | rfl
  ·exact h3 this
  ·exact h4 this
  ·exact h5 this
theorem Other.ar {cs:Array Value} (h:Other w B a) (ha:B≤a) (o:Blk w a 144 cs):False:=by
 rcases h with h | ⟨cs,t,h1,h2,_⟩
 ·omega
 ·exact h2 (Za8 h1 o)
theorem IsArH.kept (h:IsArH w B a s X) (k:Keeps S w w') (hs:∀b,S b→Other w B b∨((∃cs,Blk w b 306 cs)∧∀j d,¬X j→s.cls[j]?=some d→¬inB d.SA b)):IsArH w' B a s X:=by
 refine⟨h.le,h.blk.kept k (fun hS=> ?_),h.own.kept k (fun b hb hS=> ?_),fun j d hj hd=> (h.sl j d hj hd).kept k (fun b hb hS=> ?_),fun j d hj hd q x hx=> (h.da j d hj hd q x hx).kept k (fun b hb hS=> ?_),h.dj,h.fl⟩
 ·rcases hs a hS with o | ⟨⟨cs,o⟩,_⟩
  ·exact o.ar h.le h.blk
  ·exact absurd (Za8 h.blk o) (by decide)
 ·rcases hs b hS with o | ⟨⟨cs,o⟩,_⟩
  ·exact o.own h.own (.inl rfl) hb
  ·obtain⟨cs',hb'⟩:=h.own.blk hb
   exact absurd (Za8 hb' o) (by decide)
 ·rcases hs b hS with o | ⟨_,o⟩
  ·exact o.own (h.sl j d hj hd) (.inr (.inl rfl)) hb
  ·exact o j d hj hd hb
 ·rcases hs b hS with o | ⟨⟨cs,o⟩,_⟩
  ·exact o.own (h.da j d hj hd q x hx) (.inr (.inr rfl)) hb
  ·obtain⟨cs',hb'⟩:=(h.da j d hj hd q x hx).blk hb
   exact absurd (Za8 hb' o) (by decide)
theorem IsAr.kept (h:IsAr w B a s) (k:Keeps S w w') (hs:∀b,S b→Other w B b):IsAr w' B a s:=IsArH.kept h k (fun b hb=> .inl (hs b hb))
theorem IsAr.quiet (h:IsAr w B a s) (k:Keeps NO w w'):IsAr w' B a s:=h.kept k (fun _ h=> h.elim)
theorem IsArH.quiet (h:IsArH w B a s X) (k:Keeps NO w w'):IsArH w' B a s X:=h.kept k (fun _ h=> h.elim)
theorem Behind.kept {i:Nat} {c:Cls} (h:Behind w B s i c) (k:Keeps S w w') (hs:∀b,S b→Other w B b∨∃cs t,Blk w b t cs∧t≠306∧t≠5):Behind w' B s i c:=by
 refine⟨h.sl.kept k (fun b hb hS=> ?_),fun j x hx=> (h.da j x hx).kept k (fun b hb hS=> ?_),h.dj⟩
 ·rcases hs b hS with o | ⟨cs,t,o,h1,h2⟩
  ·exact o.own h.sl (.inr (.inl rfl)) hb
  ·obtain⟨cs',hb'⟩:=h.sl.blk hb
   exact h1 (Za8 o hb')
 ·rcases hs b hS with o | ⟨cs,t,o,h1,h2⟩
  ·exact o.own (h.da j x hx) (.inr (.inr rfl)) hb
  ·obtain⟨cs',hb'⟩:=(h.da j x hx).blk hb
   exact h2 (Za8 o hb')
theorem Behind.quiet {i:Nat} {c:Cls} (h:Behind w B s i c) (k:Keeps NO w w'):Behind w' B s i c:=h.kept k (fun _ h=> h.elim)
theorem IsArH.arena (h:IsArH w B a s X) (s':Ar) (j:Nat) (v:Value) (h1:s'.CA=s.CA) (h2:s'.cls=s.cls) (h3:s'.cap=s.cap) (h4:s'.free.length=8) (hv:arC s'=(arC s).set j v):IsArH (w.setCell ⟨a,j,none⟩ v) B a s' X:=by
 have k:Keeps (· =a) w (w.setCell ⟨a,j,none⟩ v):=Keeps.setCell (S:=(· =a)) (p:=⟨a,j,none⟩) (Kz0 _ _) (.inl rfl) _
 have hno:∀ {e sz n c:Nat} {A:Option Addr} {xs:List Value},Own w B e sz A n c xs→144≠e→∀b,inB A b→¬b=a:=fun o he b hb hS=> by
  obtain⟨cs,hb'⟩:=o.blk hb
  rw [hS] at hb'
  exact he (Za8 h.blk hb')
 refine⟨h.le,?_,?_,?_,?_,?_,h4⟩
 ·have:=h.blk.set j v
  rw [List.setIfInBounds_toArray,←hv] at this
  exact this
 ·rw [h1,h2,h3];exact h.own.kept k (hno h.own (by decide))
 ·rw [h2];exact fun i c hi hc=> (h.sl i c hi hc).kept k (hno (h.sl i c hi hc) (by decide))
 ·rw [h2];exact fun i c hi hc q x hx=> (h.da i c hi hc q x hx).kept k (hno (h.da i c hi hc q x hx) (by decide))
 ·rw [h2];exact h.dj
theorem IsArH.cls_ {C i k:Nat} {c y:Cls} (h:IsArH w B a s (· =i)) (hC:s.CA=some ⟨C,0,none⟩) (hc:s.cls[i]?=some c) (hk:k<4) (v:Value) (hy:clsC y=(clsC c).set k v):
  IsArH (w.setCell ⟨C,i*4+k,none⟩ v) B a { s with cls:=s.cls.set i y} (· =i):=by
 have kk:Keeps (· =C) w (w.setCell ⟨C,i*4+k,none⟩ v):=Keeps.setCell (S:=(· =C)) (p:=⟨C,i*4+k,none⟩) (Kz0 _ _) (.inl rfl) _
 have ho:=h.own
 rw [hC] at ho
 have hCb:∃cs,Blk w C 147 cs:=ho.blk ⟨_,rfl,rfl⟩
 obtain⟨csC,hCb⟩:=hCb
 have hno:∀ {e sz n c:Nat} {A:Option Addr} {xs:List Value},Own w B e sz A n c xs→147≠e→∀b,inB A b→¬b=C:=fun o he b hb hS=> by
  obtain⟨cs,hb'⟩:=o.blk hb
  rw [hS] at hb'
  exact he (Za8 hCb hb')
 have hset:∀j,j≠i→∀d:Cls,(s.cls.set i y)[j]?=some d→s.cls[j]?=some d:=fun j hj d hd=> by
  rw [List.getElem?_set,if_neg (fun e=> hj e.symm)] at hd;exact hd
 refine⟨h.le,?_,?_,?_,?_,?_,h.fl⟩
 ·have:=h.blk.kept kk (fun e=> absurd (Za8 h.blk (e ▸ hCb)) (by decide))
  simpa [arC] using this
 ·have:=ho.store (i*4+k) v
  rw [Zgn hc hk hy] at this
  simpa [hC] using this
 ·exact fun j d hj hd=> (h.sl j d hj (hset j hj d hd)).kept kk (hno (h.sl j d hj (hset j hj d hd)) (by decide))
 ·exact fun j d hj hd q x hx=> (h.da j d hj (hset j hj d hd) q x hx).kept kk (hno (h.da j d hj (hset j hj d hd) q x hx) (by decide))
 ·exact fun j q d e hj hq hjq hd he=> h.dj j q d e hj hq hjq (hset j hj d hd) (hset q hq e he)
end
open Go.RowKit
def fitK (l:List Cls) (size:Int):Nat:=l.findIdx (fun c=> decide (size≤c.size))
theorem Zsn (l:List Cls) (size:Int):fitK l size≤l.length:=List.findIdx_le_length
theorem Zsm {l:List Cls} {size:Int} {i:Nat} {c:Cls} (h:l[i]?=some c) (hs:size≤c.size) (hb:∀(j:Nat) (d:Cls),j<i→l[j]?=some d→d.size<size):fitK l size=i:=by
 obtain⟨hi,he⟩:=List.getElem?_eq_some_iff.1 h
 unfold fitK
 rw [List.findIdx_eq hi]
 refine⟨by rw [he];simpa using hs,fun j hj=> ?_⟩
 have:=hb j _ hj (List.getElem?_eq_getElem (by omega))
 simp;omega
theorem Zsl {l:List Cls} {size:Int} (hb:∀(j:Nat) (d:Cls),l[j]?=some d→d.size<size):fitK l size=l.length:=by
 unfold fitK
 rw [List.findIdx_eq_length]
 intro c hc
 obtain⟨j,hj,he⟩:=List.getElem_of_mem hc
 have:=hb j c (by rw [List.getElem?_eq_getElem hj,he])
 simp;omega
theorem Zp0 (x:Cls) (size:Int) (q:Nat) (W:World) (hb:W.cell? ⟨q,0,none⟩=some (.int .i64 size)):
  Calls Tryz.prog 219 #[.agg (clsC x).toArray,.pointer (some ⟨q,0,none⟩)] W fun e w'=> e= .returned (.bool (decide (size≤x.size)))∧Keeps NO W w':=by
 have k1:=(Kz0 NO W).alloc (.cells (clsC x).toArray 147)
 have b1:=Blk.new W 147 (clsC x).toArray
 have q0:(W.alloc (.cells (clsC x).toArray 147)).cell? ⟨W.heap.size,0,none⟩=some (.int .i64 x.size):=b1.cell 0
 have qb:=k1.cell_some hb (fun h=> h)
 have K1:=zz k1
 clear k1 b1
 unfold clsC at*
 go_enter Tryz.func219,Tryz.ntmps219
 go_wp2_with fail
 go_ret
 exact⟨by simp,K1.out⟩
def idxV (k n:Nat):Int:=if k<n then(k:Int) else-1
theorem Zlu {k n:Nat} (h:k<n):idxV k n=k:=if_pos h
theorem Zlt (n:Nat):idxV n n= -1:=if_neg (by omega)
theorem Zls (B:Nat) (A:Option Addr) (l:List Cls) (n cap:Nat) (size:Int) (q:Nat) (w:World) (hl:l.length=n) (ho:Own w B 147 4 A n cap (Zbv l)) (hb:w.cell? ⟨q,0,none⟩=some (.int .i64 size)) (hn:n≤8):
  Calls Tryz.prog 218 #[.slice A n cap,.func (.func 219) #[] #[.pointer (some ⟨q,0,none⟩)]] w fun e w'=> e= .returned (.int .i64 (idxV (fitK l size) n))∧Keeps NO w w':=by
 have HO:=zz ho
 have HB:=zz hb
 have HL:=zz hl
 obtain⟨rv,hrv⟩:∃rv,rv=idxV (fitK l size) n:=⟨_,rfl⟩
 rw [←hrv]
 have HRV:=zz hrv
 clear ho hb hl hrv
 go_enter Tryz.func218,Tryz.ntmps218
 go_wp2_with fail
 go_loopw [5,8] (fun _ iv wr=> ∃i:Nat,i≤n∧iv= .int .i64 i∧Hid (∀(j:Nat) (d:Cls),j<i→l[j]?=some d→d.size<size)∧Hid (Keeps NO w wr)) (fun _ iv _=> n-(intOf iv).toNat)
 case atStart=> exact⟨0,by omega,rfl,zz (fun j d h=> by omega),zz (Kz0 _ _)⟩
 case round=>
  obtain⟨i,hi,rfl,HJ,KR⟩:=hrel
  by_cases hlt:i<n
  ·have HLT:Hid (i+1≤n):=hlt
   have hil:i<l.length:=by rw [HL.out];exact hlt
   obtain⟨x,hx⟩:∃x,l[i]?=some x:=⟨l[i]'hil,by simp⟩
   obtain⟨C,rfl,_⟩:=HO.out.some_ (by omega)
   have OR:=zz (HO.out.kept KR.out (fun _ _ h=> h))
   obtain⟨g0,g1,g2,g3⟩:=Zbd hx
   have c0:=OR.out.cell (i*4) (by omega)
   have c1:=OR.out.cell (i*4+1) (by omega)
   have c2:=OR.out.cell (i*4+2) (by omega)
   have c3:=OR.out.cell (i*4+3) (by omega)
   rw [g0] at c0
   rw [g1] at c1
   rw [g2] at c2
   rw [g3] at c3
   have hiI:(i:Int)<(n:Int):=by omega
   have hi0:(0:Int)≤(i:Int):=by omega
   have HX:=zz hx
   have HW:=zz (Zp0 x size q wr (KR.out.cell_some HB.out (fun h=> h)))
   unfold clsC at HW
   clear g0 g1 g2 g3 hil hx
   by_cases hs:size≤x.size
   ·have e1:decide (size≤x.size)=true:=by simpa using hs
    rw [e1] at HW
    have HV:Hid (rv=i):=by
     show rv=i
     rw [HRV.out,Zsm HX.out hs HJ.out,Zlu hlt]
    go_wp2_with fail
    refine HW.out.mono ?_
    rintro e w2 ⟨rfl,k2⟩
    have K2:=zz (KR.out.trans k2)
    clear k2
    go_wp2_with fail
    go_ret
    exact⟨Zaa HV.out.symm,K2.out⟩
   ·have e1:decide (size≤x.size)=false:=by simpa using hs
    rw [e1] at HW
    have HS:Hid (x.size<size):=by show _<_;omega
    go_wp2_with fail
    refine HW.out.mono ?_
    rintro e w2 ⟨rfl,k2⟩
    have K2:=zz (KR.out.trans k2)
    clear k2
    go_wp2_with fail
    go_roundw
    case rel=>
     refine⟨i+1,HLT.out,by go_num,zz (fun j d hj hd=> ?_),K2⟩
     rcases Nat.lt_or_ge j i with h | h
     ·exact HJ.out j d h hd
     ·obtain rfl:j=i:=by omega
      rw [HX.out] at hd;injection hd with hd;subst hd;exact HS.out
    case measure=> have:=HLT.out;simp [intOf];omega
  ·obtain rfl:i=n:=by omega
   have HV:Hid (rv= -1):=by
    show rv= -1
    rw [HRV.out,Zsl (fun j d hd=> HJ.out j d (by rw [←HL.out];exact(List.getElem?_eq_some_iff.1 hd).1) hd),HL.out,Zlt]
   go_wp2_with fail
   go_ret
   exact⟨Zaa HV.out.symm,KR.out⟩
theorem Zm4 (B a:Nat) (s:Ar) (i:Nat) (size:Int) (w:World) (h:IsAr w B a s) (hn:s.cls.length≤8) (h1:1≤size) (hk:fitK s.cls size=i) (hi:i<s.cls.length):
  Calls Tryz.prog 173 #[.pointer (some ⟨a,0,none⟩),.int .i64 size] w fun e w'=> e= .returned (.tuple #[.int .i64 i,.int .i64 0])∧Keeps NO w w':=by
 have k1:=(Kz0 NO w).alloc (.cells #[.int .i64 size] 3)
 have b1:=Blk.new w 3 #[.int .i64 size]
 have B2:=zz (h.blk.kept k1 (fun h=> h))
 have c0:(w.alloc (.cells #[.int .i64 size] 3)).cell? ⟨a,0,none⟩=some (.slice s.CA s.cls.length s.cap):=B2.out.cell 0
 have q0:(w.alloc (.cells #[.int .i64 size] 3)).cell? ⟨w.heap.size,0,none⟩=some (.int .i64 size):=b1.cell 0
 have HI:=zz (Zls B s.CA s.cls s.cls.length s.cap size w.heap.size _ rfl (h.own.kept k1 (fun _ _ h=> h)) q0 hn)
 rw [hk,Zlu hi] at HI
 have K1:=zz k1
 have e1:decide (size<1)=false:=by simp;omega
 have e2:decide ((i:Int)<0)=false:=by simp
 have hmf:∀(fn:Fn) (first cap:Array Value) (w:World),(Instr.makeFunc fn first cap).run Tryz.prog w= .ok (.func fn first cap) w:=fun _ _ _ _=> rfl
 clear b1 k1 h hk
 go_enter Tryz.func173,Tryz.ntmps173
 go_wp2_with fail
 refine HI.out.mono ?_
 rintro e w2 ⟨rfl,k2⟩
 have q1:=k2.cell_some q0 (fun h=> h)
 have K2:=zz (K1.out.trans k2)
 clear k2 q0 c0
 go_wp2_with fail
 go_ret2
 exact⟨rfl,K2.out⟩
theorem Zut (B a:Nat) (s:Ar) (size:Int) (w:World) (h:IsAr w B a s) (hn:s.cls.length≤8) (h1:size<1∨fitK s.cls size=s.cls.length):
  Calls Tryz.prog 173 #[.pointer (some ⟨a,0,none⟩),.int .i64 size] w fun e w'=> e= .returned (.tuple #[.int .i64 0,.int .i64 1])∧Keeps NO w w':=by
 have k1:=(Kz0 NO w).alloc (.cells #[.int .i64 size] 3)
 have b1:=Blk.new w 3 #[.int .i64 size]
 have B2:=zz (h.blk.kept k1 (fun h=> h))
 have c0:(w.alloc (.cells #[.int .i64 size] 3)).cell? ⟨a,0,none⟩=some (.slice s.CA s.cls.length s.cap):=B2.out.cell 0
 have q0:(w.alloc (.cells #[.int .i64 size] 3)).cell? ⟨w.heap.size,0,none⟩=some (.int .i64 size):=b1.cell 0
 have HI:=zz (Zls B s.CA s.cls s.cls.length s.cap size w.heap.size _ rfl (h.own.kept k1 (fun _ _ h=> h)) q0 hn)
 have hmf:∀(fn:Fn) (first cap:Array Value) (w:World),(Instr.makeFunc fn first cap).run Tryz.prog w= .ok (.func fn first cap) w:=fun _ _ _ _=> rfl
 have K1:=zz k1
 by_cases hs:size<1
 ·have e1:decide (size<1)=true:=by simpa using hs
  obtain⟨rv,hrv⟩:∃rv,rv=idxV (fitK s.cls size) s.cls.length:=⟨_,rfl⟩
  rw [←hrv] at HI
  clear b1 k1 h hrv h1
  go_enter Tryz.func173,Tryz.ntmps173
  go_wp2_with fail
  refine HI.out.mono ?_
  rintro e w2 ⟨rfl,k2⟩
  have q1:=k2.cell_some q0 (fun h=> h)
  have K2:=zz (K1.out.trans k2)
  clear k2 q0 c0
  go_wp2_with fail
  go_ret2
  exact⟨rfl,K2.out⟩
 ·have e1:decide (size<1)=false:=by simpa using hs
  rcases h1 with h1 | h1
  ·exact absurd h1 hs
  rw [h1,Zlt] at HI
  clear b1 k1 h hs h1
  go_enter Tryz.func173,Tryz.ntmps173
  go_wp2_with fail
  refine HI.out.mono ?_
  rintro e w2 ⟨rfl,k2⟩
  have q1:=k2.cell_some q0 (fun h=> h)
  have K2:=zz (K1.out.trans k2)
  clear k2 q0 c0
  go_wp2_with fail
  go_ret2
  exact⟨rfl,K2.out⟩
end Go.Proofs.YtjamiaamngalgaaGreat
