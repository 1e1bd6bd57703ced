/-
  Parts: Lines: their order, and; bounds.Sort of one line; Bounds: of an entry, sum; Entries, and their cells; The exac. No conditions beyond those of the statement.
-/
import Derived.Test.YtjamiaamngalgaaGreatG15
import Derived.Test.YtjamiaamngalgaaGreatG01
import Derived.Lib.Bytealg
import Derived.Deep.CutRange
import Derived.Deep.RegionHeld3
import Derived.Deep.RegionWith
import Derived.Test.YtjamiaamngalgaaGreatG00
set_option linter.unusedVariables false
set_option linter.unusedSimpArgs false
set_option maxRecDepth 1000000
set_option maxHeartbeats 4000000
namespace Go.Proofs.YtjamiaamngalgaaGreat
open Go.RowKit
theorem Zmx:∀a:List UInt8,Op.bytesLess a a=false
 | []=> rfl
 | x :: a=> by simp [Op.bytesLess,Zmx a,UInt8.lt_irrefl]
theorem Zqj:∀a b:List UInt8,Op.bytesLess a b=true∨a=b∨Op.bytesLess b a=true
 | [],[]=> .inr (.inl rfl)
 | [],y :: b=> .inl rfl
 | x :: a,[]=> .inr (.inr rfl)
 | x :: a,y :: b=> by
   rcases Zqj a b with h | h | h
   ·by_cases h1:x<y
    ·exact .inl (by simp [Op.bytesLess,h1])
    ·by_cases h2:y<x
     ·exact .inr (.inr (by simp [Op.bytesLess,h2]))
     ·have:x=y:=UInt8.le_antisymm (UInt8.not_lt.1 h2) (UInt8.not_lt.1 h1)
      subst this
      exact .inl (by simp [Op.bytesLess,h])
   ·subst h
    by_cases h1:x<y
    ·exact .inl (by simp [Op.bytesLess,h1])
    ·by_cases h2:y<x
     ·exact .inr (.inr (by simp [Op.bytesLess,h2]))
     ·have:x=y:=UInt8.le_antisymm (UInt8.not_lt.1 h2) (UInt8.not_lt.1 h1)
      subst this
      exact .inr (.inl rfl)
   ·by_cases h1:x<y
    ·exact .inl (by simp [Op.bytesLess,h1])
    ·by_cases h2:y<x
     ·exact .inr (.inr (by simp [Op.bytesLess,h2]))
     ·have:x=y:=UInt8.le_antisymm (UInt8.not_lt.1 h2) (UInt8.not_lt.1 h1)
      subst this
      exact .inr (.inr (by simp [Op.bytesLess,h]))
theorem Zta:∀a b c:List UInt8,Op.bytesLess a b=true→Op.bytesLess b c=true→Op.bytesLess a c=true
 | [],_,[],_,h=> by
   rename_i b _
   cases b <;> simp [Op.bytesLess] at h
 | [],_,z :: c,_,_=> rfl
 | x :: a,[],_,h,_=> by simp [Op.bytesLess] at h
 | x :: a,y :: b,[],_,h=> by simp [Op.bytesLess] at h
 | x :: a,y :: b,z :: c,h1,h2=> by
   simp only [Op.bytesLess,Bool.or_eq_true,Bool.and_eq_true,decide_eq_true_eq,beq_iff_eq] at h1 h2 ⊢
   rcases h1 with h1 | ⟨rfl,h1⟩
   ·rcases h2 with h2 | ⟨rfl,h2⟩
    ·exact .inl (UInt8.lt_trans h1 h2)
    ·exact .inl h1
   ·rcases h2 with h2 | ⟨rfl,h2⟩
    ·exact .inl h2
    ·exact .inr ⟨rfl,Zta a b c h1 h2⟩
theorem cmpB:∀a b:List UInt8,Lib.compareBytes a b=if Op.bytesLess a b=true then-1 else if Op.bytesLess b a=true then 1 else 0
 | [],[]=> rfl
 | [],_ :: _=> rfl
 | _ :: _,[]=> rfl
 | x :: a,y :: b=> by
   have ih:=cmpB a b
   simp only [Lib.compareBytes,Op.bytesLess]
   by_cases h1:x<y
   ·simp [h1]
   ·by_cases h2:y<x
    ·have h3:x≠y:=fun e=> by subst e;exact absurd h2 (UInt8.lt_irrefl x)
     simp [h1,h2,h3]
    ·have:x=y:=UInt8.le_antisymm (UInt8.not_lt.1 h2) (UInt8.not_lt.1 h1)
     subst this
     rw [if_neg h1,if_neg h1,ih]
     simp [UInt8.lt_irrefl]
structure Ln where
 key:ByteArray
 lo:Int
 hi:Int
def lnC (x:Ln):List Value:= [.string x.key,.int .u64 x.lo,.int .u64 x.hi]
def lnCs (l:List Ln):List Value:=l.flatMap lnC
theorem Zoe (l:List Ln):(lnCs l).length=l.length*3:=Fl.len lnC 3 (fun _=> rfl) l
theorem Zrw {l:List Ln} {i:Nat} {x:Ln} (h:l[i]?=some x):(lnCs l)[i*3]?=some (.string x.key)∧(lnCs l)[i*3+1]?=some (.int .u64 x.lo)∧(lnCs l)[i*3+2]?=some (.int .u64 x.hi):=
 ⟨Fl.get lnC 3 (fun _=> rfl) l i 0 x h (by omega),Fl.get lnC 3 (fun _=> rfl) l i 1 x h (by omega),Fl.get lnC 3 (fun _=> rfl) l i 2 x h (by omega)⟩
theorem Zdq (l:List Ln):∀u∈lnCs l,u.oneCell'=true:=by
 intro u hu
 unfold lnCs at hu
 rw [List.mem_flatMap] at hu
 obtain⟨c,_,hu⟩:=hu
 simp [lnC] at hu
 rcases hu with rfl | rfl | rfl <;> rfl
theorem Zgk:ElemOf Tryz.prog 89 139 3 32:=ElemOf.mk' (z:= .agg #[.string ⟨#[]⟩,.int .u64 0,.int .u64 0]) Tryz.underlying89 (by kernel_rfl) rfl (by omega)
def lnLt (a b:Ln):Bool:=decide (b.hi<a.hi)||(a.hi==b.hi&&Op.bytesLess a.key.toList b.key.toList)
theorem Zv9 (a b:ByteArray) (w:World):Calls Tryz.prog 216 #[.string a,.string b] w fun e w'=> e= .returned (.int .i64 (Lib.compareBytes a.data.toList b.data.toList))∧w'=w:=by
 go_enter Tryz.func216,Tryz.ntmps216
 go_wp2
 rw [run_callFunc_extern Tryz.func274 (by kernel_rfl) (by kernel_rfl) (by kernel_rfl) (e:=Extern.BytealgCompare.compare) (by kernel_rfl),Lib.run_compareString]
 simp only [Result.andThen]
 rw [Oper.upon_value]
 go_wp2
 go_ret
 exact⟨rfl,rfl⟩
theorem Zhn (a b:ByteArray) (w:World):Calls Tryz.prog 170 #[.string a,.string b] w fun e w'=> e= .returned (.int .i64 (Lib.compareBytes a.data.toList b.data.toList))∧w'=w:=by
 go_enter Tryz.func170,Tryz.ntmps170
 go_wp2_with fail
 refine(Zv9 _ _ _).mono ?_
 rintro e w1 ⟨rfl,rfl⟩
 go_wp2_with fail
 go_ret
 exact⟨rfl,rfl⟩
open Go.RowKit
abbrev srtL (l:List Ln):List Ln:=Srt.srt lnLt l
theorem Zbn {w:World} {B n:Nat} {A:Option Addr} {l:List Ln} (h:Rd w B A 3 n (lnCs l)):l.length=n:=by
 have:=h.1
 rw [Zoe] at this
 omega
theorem Zpgx {w:World} {B:Nat} {A:Option Addr} {n c:Nat} {l:List Ln} (hr:Rd w B A 3 n (lnCs l)) (hn:n≤1000000):
  Calls Tryz.prog 199 #[.slice A n c] w fun e w'=> ∃A' c',e= .returned (.slice A' n c')∧Own w' w.heap.size 139 3 A' n c' (lnCs l)∧Keeps NO w w':=by
 cases A with
 | none=>
   obtain rfl:n=0:=by
    rcases Nat.eq_zero_or_pos n with h | h
    ·exact h
    ·obtain⟨b,off,e,_⟩:=hr.2 h;cases e
   obtain rfl:l= []:=List.eq_nil_of_length_eq_zero (Zbn hr)
   clear hr
   have heq:=fun w=> Lib.run_eql_slice_nil (P:=Tryz.prog) w 89 139 none 0 c 0 0 Tryz.underlying89
   go_enter Tryz.func199,Tryz.ntmps199
   go_wp2_with fail
   go_ret
   exact⟨none,0,rfl,Own.nil _ _ _ _,Kz0 _ _⟩
 | some ad=>
   have HR:=zz hr
   clear hr
   have heq:=fun w=> Lib.run_eql_slice_nil (P:=Tryz.prog) w 89 139 (some ad) n c 0 0 Tryz.underlying89
   go_enter Tryz.func199,Tryz.ntmps199
   go_wp2_with (at_builtin;refine Za5 _ Zgk rfl _ _ rfl w.heap.size _ rfl (Own.new0 _ _ 139 3 _ (by simp) (by omega)) _ (m:=n) _ rfl (HR.out.kept ((Kz0 NO w).alloc _) (fun _ _ h=> h)) (Zdq l) (by simp [maxLen];omega) (by omega) (by simp) ?_;intro A5 c5 w5 o5 k5 hA5;rw [Nat.zero_add,List.nil_append] at o5;have O5:=zz o5;have K5:=zz k5;clear o5 k5 hA5)
   go_ret
   exact⟨A5,c5,rfl,O5.out,((Kz0 _ w).alloc _).step K5.out (fun k hk h=> by have:=(Za0 _ _ _).1 h;omega)⟩
theorem Zln (w:World) (A:Option Addr) (c:Nat) (f:Value):Calls Tryz.prog 301 #[.slice A 1 c,.int .i64 0,.int .i64 1,f] w fun e w'=> e= .returned (.tuple #[])∧w'=w:=by
 go_enter Tryz.func301,Tryz.ntmps301
 go_wp2_with fail
 go_loopw [8] (fun v wr=> v= .int .i64 1∧wr=w) (fun _ _=> 0)
 case atStart=> exact⟨by first | rfl | kernel_rfl,rfl⟩
 case round=>
  obtain⟨rfl,rfl⟩:=hrel
  go_wp2_with fail
  go_end0
  exact⟨rfl,rfl⟩
theorem Zkf (w:World) (A:Option Addr) (c:Nat) (f:Value):Calls Tryz.prog 243 #[.slice A 1 c,.int .i64 1,f] w fun e w'=> e= .returned (.tuple #[])∧w'=w:=by
 go_enter Tryz.func243,Tryz.ntmps243
 go_wp2_with fail
 go_loopw [7,8] (fun a b wr=> a= .int .i64 0∧b= .int .i64 20∧wr=w) (fun _ _ _=> 0)
 case atStart=> exact⟨rfl,rfl,rfl⟩
 case round=>
  obtain⟨rfl,rfl,rfl⟩:=hrel
  go_wp2_with fail
  refine(Zln wr A c f).mono ?_
  rintro e w1 ⟨rfl,rfl⟩
  go_wp2_with fail
  go_loopw [6,7,8] (fun s a b wr=> s= .int .i64 20∧a= .int .i64 0∧b= .int .i64 20∧wr=w1) (fun _ _ _ _=> 0)
  case atStart=> exact⟨rfl,rfl,rfl,rfl⟩
  case round=>
   obtain⟨rfl,rfl,rfl,rfl⟩:=hrel
   go_wp2_with fail
   go_end0
   exact⟨rfl,rfl⟩
theorem Zr6 (w:World) (A:Option Addr) (c:Nat) (f:Value):Calls Tryz.prog 200 #[.slice A 1 c,f] w fun e w'=> e= .returned (.tuple #[])∧w'=w:=by
 go_enter Tryz.func200,Tryz.ntmps200
 go_wp2_with fail
 refine(Zkf w A c f).mono ?_
 rintro e w1 ⟨rfl,rfl⟩
 go_wp2_with fail
 go_end0
 exact⟨rfl,rfl⟩
theorem Zmw (w:World) (B:Nat) (A:Option Addr) (n c:Nat) (l:List Ln) (hr:Rd w B A 3 n (lnCs l)) (hn1:n≤1∧1≤n):
  Calls Tryz.prog 139 #[.slice A n c] w fun e w'=> ∃A' c',e= .returned (.slice A' n c')∧Own w' w.heap.size 139 3 A' n c' (lnCs (srtL l))∧Keeps NO w w':=by
 have hn:n=1:=by omega
 have HR:=zz hr
 have hs:srtL l=l:=by
  have h:=Zbn hr
  rcases l with _ | ⟨x,_ | ⟨y,r⟩⟩
  ·rfl
  ·exact Srt.srt_one _
  ·simp at h;omega
 subst hn
 have HS:=zz hs
 clear hr hs
 go_enter Tryz.func139,Tryz.ntmps139
 go_wp2_with fail
 refine(Zpgx HR.out (by omega)).mono ?_
 rintro e w1 ⟨A1,c1,rfl,h1,k1⟩
 have H1:=zz h1
 have K1:=zz k1
 clear h1 k1
 go_wp2_with fail
 refine(Zr6 w1 A1 c1 _).mono ?_
 rintro e w2 ⟨rfl,rfl⟩
 go_wp2_with fail
 go_ret
 exact⟨A1,c1,rfl,by rw [HS.out];exact H1.out,K1.out⟩
open Go.RowKit
abbrev bnd (lo hi:Int):Value:= .agg #[.int .u64 lo,.int .u64 hi]
abbrev bndC (lo hi:Int):Array Value:= #[.int .u64 lo,.int .u64 hi]
abbrev ent (k:ByteArray) (own slack:Int):Value:= .agg #[.string k,.int .u64 own,.int .u64 slack]
abbrev U (a:Int):Prop:=0≤a∧a<18446744073709551616
theorem Zt9 (k:ByteArray) (a b:Int) (ha:U a) (hb:U b) (w:World):
  Calls Tryz.prog 247 #[ent k a b] w fun e w'=> e= .returned (bnd a (Sat.add a b))∧Keeps NO w w':=by
 obtain⟨a0,a1⟩:=ha
 obtain⟨b0,b1⟩:=hb
 go_enter Tryz.func247,Tryz.ntmps247
 go_wp2_with (go_at_call 71;refine(Sat.add_any _ _ (by omega) (by omega) (by omega) (by omega) _).mono ?_;rintro e w1 ⟨rfl,rfl⟩)
 refine bodyPost_ret (v:=bnd a (Sat.add a b)) (by simp [results,Tryz.results247,go_sem]) rfl ?_
 exact⟨rfl,by first | exact((Kz0 _ _).alloc _).alloc _⟩
theorem Ziq (a b c d:Int) (ha:U a) (hb:U b) (hc:U c) (hd:U d) (w:World):
  Calls Tryz.prog 148 #[bnd a b,bnd c d] w fun e w'=> e= .returned (bnd (Sat.add a c) (Sat.add b d))∧Keeps NO w w':=by
 obtain⟨a0,a1⟩:=ha
 obtain⟨b0,b1⟩:=hb
 obtain⟨c0,c1⟩:=hc
 obtain⟨d0,d1⟩:=hd
 go_enter Tryz.func148,Tryz.ntmps148
 go_wp2_with (go_at_call 71;refine(Sat.add_any _ _ (by omega) (by omega) (by omega) (by omega) _).mono ?_;rintro e w1 ⟨rfl,rfl⟩)
 refine bodyPost_ret (v:=bnd (Sat.add a c) (Sat.add b d)) (by simp [results,Tryz.results148,go_sem]) rfl ?_
 exact⟨rfl,by first | exact(((Kz0 _ _).alloc _).alloc _).alloc _⟩
def imin (a b:Int):Int:=if a≤b then a else b
theorem Zpl (a b m:Int) (w:World):
  Calls Tryz.prog 248 #[bnd a b,.int .u64 m] w fun e w'=> e= .returned (bnd (imin a m) (imin b m))∧Keeps NO w w':=by
 go_enter Tryz.func248,Tryz.ntmps248
 go_wp2_with fail
 all_goals
  refine bodyPost_ret (v:=bnd (imin a m) (imin b m)) (by simp [results,Tryz.results248,go_sem];constructor <;> (unfold imin;split <;> omega)) rfl ?_
  exact⟨rfl,by first | exact(((Kz0 _ _).alloc _).alloc _)⟩
open Go.RowKit
theorem Zfb {w:World} {g:Nat} {t:TypeId} {x:Ln} (h:Blk w g t (lnC x).toArray):w.cell? ⟨g,0,none⟩=some (.string x.key)∧w.cell? ⟨g,1,none⟩=some (.int .u64 x.lo)∧w.cell? ⟨g,2,none⟩=some (.int .u64 x.hi):=⟨h.cell 0,h.cell 1,h.cell 2⟩
theorem Zle (l:List Ln) (k:Nat):(lnCs l).take (k*3)=lnCs (l.take k):=(Fl.take lnC 3 (fun _=> rfl) l k).symm
theorem Zlf (l:List Ln) (k:Nat):(lnCs l).drop (k*3)=lnCs (l.drop k):=(Fl.drop lnC 3 (fun _=> rfl) l k).symm
theorem Zc7 {w:World} {B n:Nat} {A:Option Addr} {l:List Ln} (h:Rd w B A 3 n (lnCs l)) {i:Nat} {x:Ln} (hx:l[i]?=some x) (hi:0<n):
  ∃b off,A=some ⟨b,off,none⟩∧b<B∧(w.cell? ⟨b,off+i*3,none⟩=some (.string x.key)∧w.cell? ⟨b,off+i*3+1,none⟩=some (.int .u64 x.lo)∧w.cell? ⟨b,off+i*3+2,none⟩=some (.int .u64 x.hi)):=by
 obtain⟨b,off,rfl,hb,hc⟩:=h.2 hi
 obtain⟨g0,g1,g2⟩:=Zrw hx
 exact⟨b,off,rfl,hb,hc _ _ g0,by rw [Nat.add_assoc];exact hc _ _ g1,by rw [Nat.add_assoc];exact hc _ _ g2⟩
open Go.RowKit
def kLt (x:Ln) (k:ByteArray):Bool:=Op.bytesLess x.key.toList k.toList
def Asc (l:List Ln):Prop:=l.Pairwise fun x y=> Op.bytesLess x.key.toList y.key.toList=true
def posK (l:List Ln) (k:ByteArray):Nat:=(l.takeWhile fun x=> kLt x k).length
theorem Zrl {l:List Ln} {k:ByteArray} {p:Nat} (hp:p≤l.length) (h1:∀i x,i<p→l[i]?=some x→kLt x k=true) (h2:∀x,l[p]?=some x→kLt x k=false):posK l k=p:=by
 induction l generalizing p with
 | nil=> simp at hp;subst hp;rfl
 | cons y l ih=>
   rcases p with _ | p
   ·have:=h2 y rfl
    unfold posK
    rw [List.takeWhile_cons,if_neg (by rw [this];decide)]
    rfl
   ·have:=h1 0 y (by omega) rfl
    have e:=ih (p:=p) (by simpa using hp) (fun i x hi hx=> h1 (i+1) x (by omega) (by simpa using hx)) (fun x hx=> h2 x (by simpa using hx))
    unfold posK at e ⊢
    rw [List.takeWhile_cons,if_pos this,List.length_cons,e]
theorem Zib {l:List Ln} (h:Asc l) {k:ByteArray} {i j:Nat} {x y:Ln} (hij:i≤j) (hx:l[i]?=some x) (hy:l[j]?=some y) (hk:kLt y k=true):kLt x k=true:=by
 rcases Nat.eq_or_lt_of_le hij with rfl | hlt
 ·rw [hx] at hy;injection hy with hy;rw [hy];exact hk
 ·have h1:=List.getElem?_eq_some_iff.1 hx
  have h2:=List.getElem?_eq_some_iff.1 hy
  have:=List.pairwise_iff_getElem.1 h i j h1.1 h2.1 hlt
  rw [h1.2,h2.2] at this
  exact Zta _ _ _ this hk
theorem Zrz (x:Ln) (k:ByteArray):decide (Lib.compareBytes x.key.data.toList k.data.toList<0)=kLt x k:=by
 unfold kLt
 rw [cmpB,ByteArray.toList_eq,ByteArray.toList_eq]
 rcases e:Op.bytesLess x.key.data.toList k.data.toList with _ | _
 ·rcases e2:Op.bytesLess k.data.toList x.key.data.toList with _ | _ <;> simp
 ·simp
def Zbt (l:List Ln) (k:ByteArray):Bool:=match l[posK l k]? with
 | some x=> Lib.compareBytes x.key.data.toList k.data.toList==0
 | none=> false
theorem Zpf (a b:ByteArray):(Lib.compareBytes a.data.toList b.data.toList==0)=true ↔ a=b:=by
 rw [cmpB,beq_iff_eq]
 constructor
 ·intro h
  rcases Zqj a.data.toList b.data.toList with e | e | e
  ·rw [if_pos e] at h;cases h
  ·cases a;cases b;congr 1;exact Array.ext' e
  ·have:Op.bytesLess a.data.toList b.data.toList=false:=by
    rcases e2:Op.bytesLess a.data.toList b.data.toList with _ | _
    ·rfl
    ·have:=Zta _ _ _ e e2
     rw [Zmx] at this;cases this
   rw [this,if_neg (by decide),if_pos e] at h
   cases h
 ·rintro rfl
  simp [Zmx]
theorem Zqg:ElemOf Tryz.prog 75 263 3 32:=ElemOf.mk' (z:= .agg #[.string ⟨#[]⟩,.int .u64 0,.int .u64 0]) Tryz.underlying75 (by kernel_rfl) rfl (by omega)
abbrev Ens (w:World) (B:Nat) (A:Option Addr) (n c:Nat) (l:List Ln):Prop:=Own w B 263 3 A n c (lnCs l)
theorem Zii (x:Ln) (k:ByteArray) (g:Nat) (w:World) (hk:w.cell? ⟨g,0,none⟩=some (.string k)) (hg:g<w.heap.size):
  Calls Tryz.prog 290 #[.agg (lnC x).toArray,.pointer (some ⟨g,0,none⟩)] w fun e w'=> e= .returned (.int .i64 (Lib.compareBytes x.key.data.toList k.data.toList))∧Keeps NO w w':=by
 unfold lnC
 go_enter Tryz.func290,Tryz.ntmps290
 go_wp2_with fail
 refine(Zhn _ _ _).mono ?_
 rintro e w1 ⟨rfl,rfl⟩
 go_wp2_with fail
 go_ret
 exact⟨rfl,(Kz0 _ _).alloc _⟩
theorem Zju (w:World) (B:Nat) (A:Option Addr) (n c:Nat) (l:List Ln) (k:ByteArray) (g:Nat) (hr:Rd w B A 3 n (lnCs l)) (hn:n≤1000000) (hs:Asc l) (hk:w.cell? ⟨g,0,none⟩=some (.string k)) (hg:g<w.heap.size):
  Calls Tryz.prog 289 #[.slice A n c,.func (.func 290) #[] #[.pointer (some ⟨g,0,none⟩)]] w fun e w'=> e= .returned (.tuple #[.int .i64 (posK l k:Nat),.bool (Zbt l k)])∧Keeps NO w w':=by
 have HL:=zz (Zbn hr)
 have HR:=zz hr
 have HS:=zz hs
 have HK:=zz hk
 clear hr hs hk
 go_enter Tryz.func289,Tryz.ntmps289
 go_upto_region 2 with fail
 go_loopw [6,7] (fun lv hv wr=> ∃lo hi:Nat,lo≤hi∧hi≤n∧lv= .int .i64 (lo:Int)∧hv= .int .i64 (hi:Int)∧Hid ((∀i x,i<lo→l[i]?=some x→kLt x k=true)∧(∀i x,hi≤i→l[i]?=some x→kLt x k=false))∧Hid (Keeps NO w wr)) (fun lv hv _=> (intOf hv).toNat-(intOf lv).toNat)
 case atStart=> exact⟨0,n,by omega,by omega,rfl,rfl,zz ⟨fun i x h=> by omega,fun i x h hx=> by have:=(List.getElem?_eq_some_iff.1 hx).1;have:=HL.out;omega⟩,zz (Kz0 _ _)⟩
 case round=>
  obtain⟨lo,hi,hlh,hhn,rfl,rfl,HF,HW⟩:=hrel
  obtain⟨wo,rfl⟩:∃wo:World,wo=wr:=⟨_,rfl⟩
  by_cases hlt:lo<hi
  ·have e1:decide (lo<hi)=true:=by simpa using hlt
   obtain⟨m,hm⟩:∃m:Nat,m=(lo+hi) / 2:=⟨_,rfl⟩
   have he:((lo:Int)+(hi:Int)) / 2=(m:Int):=by omega
   have hmb:lo≤m∧m<hi:=by omega
   obtain⟨x,hx⟩:∃x,l[m]?=some x:=⟨l[m]'(by rw [HL.out];omega),List.getElem?_eq_getElem _⟩
   obtain⟨b,off,rfl,_,p0,p1,p2⟩:=Zc7 (HR.out.kept HW.out (fun _ _ h=> h)) hx (by omega)
   have hmI:(m:Int)<(n:Int):=by omega
   have HX:=zz hx
   have kc:=HW.out.cell_some HK.out (fun h=> h)
   have kl:g<wo.heap.size:=by have:=HW.out.size;omega
   have wm1:IntKind.i64.wrap ((m:Int)+1)=((m+1:Nat):Int):=by rw [IntWalk.i64_in _ (by omega)];omega
   clear hx hm
   go_wp2_with fail
   refine(Zii x k g wo kc kl).mono ?_
   rintro e w2 ⟨rfl,k2⟩
   have K2:=zz (HW.out.trans k2)
   have hcm:=Zrz x k
   generalize Lib.compareBytes x.key.data.toList k.data.toList=cv at*
   clear k2 kc kl p0 p1 p2
   rcases hk:kLt x k with _ | _
   ·rw [hk] at hcm
    have HF2:Hid ((∀i x,i<lo→l[i]?=some x→kLt x k=true)∧(∀i x,m≤i→l[i]?=some x→kLt x k=false)):=zz ⟨HF.out.1,fun i y hi hy=> by
     rcases e:kLt y k with _ | _
     ·rfl
     ·rw [Zib HS.out hi HX.out hy e] at hk
      cases hk⟩
    clear hk
    go_wp2_with fail
    go_roundw
    case rel=> exact⟨lo,m,by omega,by omega,rfl,rfl,HF2,K2⟩
    case measure=> simp [intOf];omega
   ·rw [hk] at hcm
    have HF2:Hid ((∀i x,i<m+1→l[i]?=some x→kLt x k=true)∧(∀i x,hi≤i→l[i]?=some x→kLt x k=false)):=zz ⟨fun i y hi hy=> Zib HS.out (Nat.lt_succ_iff.1 hi) hy HX.out hk,HF.out.2⟩
    clear hk
    go_wp2_with fail
    go_roundw
    case rel=> exact⟨m+1,hi,by omega,by omega,by go_num,rfl,HF2,K2⟩
    case measure=> simp [intOf];omega
  ·have e1:decide (lo<hi)=false:=by simpa using hlt
   obtain rfl:lo=hi:=by omega
   have HP:Hid (posK l k=lo):=zz (Zrl (by rw [HL.out];exact hhn) HF.out.1 (fun x hx=> HF.out.2 lo x (Nat.le_refl _) hx))
   by_cases hln:lo<n
   ·have e2:decide (lo<n)=true:=by simpa using hln
    obtain⟨x,hx⟩:∃x,l[lo]?=some x:=⟨l[lo]'(by rw [HL.out];omega),List.getElem?_eq_getElem _⟩
    obtain⟨b,off,rfl,_,p0,p1,p2⟩:=Zc7 (HR.out.kept HW.out (fun _ _ h=> h)) hx (by omega)
    have HFo:Hid (Zbt l k=(Lib.compareBytes x.key.data.toList k.data.toList==0)):=zz (by unfold Zbt;rw [HP.out,hx])
    have hmI:(lo:Int)<(n:Int):=by omega
    have kc:=HW.out.cell_some HK.out (fun h=> h)
    have kl:g<wo.heap.size:=by have:=HW.out.size;omega
    clear hx
    go_wp2_with fail
    refine(Zii x k g wo kc kl).mono ?_
    rintro e w2 ⟨rfl,k2⟩
    have K2:=zz (HW.out.trans k2)
    clear k2 kc kl p0 p1 p2
    go_wp2_with fail
    go_ret2
    exact⟨by rw [HP.out,HFo.out];rfl,K2.out⟩
   ·have e2:decide (lo<n)=false:=by simpa using hln
    have HFo:Hid (Zbt l k=false):=zz (by unfold Zbt;rw [HP.out,List.getElem?_eq_none (by rw [HL.out];omega)])
    go_wp2_with fail
    go_ret2
    exact⟨by rw [HP.out,HFo.out];rfl,HW.out⟩
theorem Zp2 (w:World) (B s:Nat) (N:Int) (A:Option Addr) (m c:Nat) (l:List Ln) (k:ByteArray) (hb:Blk w s 365 #[.int .i64 N,.slice A m c]) (hr:Rd w B A 3 m (lnCs l)) (hs:Asc l) (hm:m≤1000000):
  Calls Tryz.prog 228 #[.pointer (some ⟨s,0,none⟩),.string k] w fun e w'=> e= .returned (.tuple #[.int .i64 (posK l k:Nat),.bool (Zbt l k)])∧Keeps NO w w':=by
 have k1:=(Kz0 NO w).alloc (.cells #[.string k] 9)
 have b1:=(Blk.new w 9 #[.string k]).cell 0
 have c1:=k1.cell_some (hb.cell 1) (fun h=> h)
 have HR:=zz (hr.kept k1 (fun _ _ h=> h))
 have K1:=zz k1
 have HB1:=zz b1
 clear k1 b1 hr
 have hsl:=hb.lt
 go_enter Tryz.func228,Tryz.ntmps228
 go_wp2_with fail
 refine(Zju _ _ _ _ _ l k _ HR.out hm hs HB1.out (by simp)).mono ?_
 rintro e w2 ⟨rfl,k2⟩
 have K2:=zz (K1.out.trans k2)
 clear k2
 go_wp2_with fail
 go_ret2
 exact⟨rfl,K2.out⟩
open Go.RowKit
abbrev enV (x:Ln):Value:= .agg #[.string x.key,.int .u64 x.lo,.int .u64 x.hi]
abbrev en0:Ln:=⟨⟨#[]⟩,0,0⟩
def getE (l:List Ln) (k:ByteArray):Ln:=if Zbt l k then(l[posK l k]?).getD en0 else en0
theorem Zlx {l:List Ln} {k:ByteArray} (h:Zbt l k=false):getE l k=en0:=by unfold getE;rw [h];rfl
theorem Zou {l:List Ln} {k:ByteArray} (h:Zbt l k=true):l[posK l k]?=some (getE l k)∧(getE l k).key=k:=by
 unfold getE
 rw [h]
 unfold Zbt at h
 split at h
 ·rename_i x hx
  rw [hx]
  exact⟨rfl,(Zpf _ _).1 h⟩
 ·cases h
theorem Zq7 {w:World} {g:Nat} {t:TypeId} {x:Ln} (h:Blk w g t (lnC x).toArray) (y:Ln):
  Blk (((w.setCell ⟨g,0,none⟩ (.string y.key)).setCell ⟨g,1,none⟩ (.int .u64 y.lo)).setCell ⟨g,2,none⟩ (.int .u64 y.hi)) g t (lnC y).toArray∧Keeps (· =g) w (((w.setCell ⟨g,0,none⟩ (.string y.key)).setCell ⟨g,1,none⟩ (.int .u64 y.lo)).setCell ⟨g,2,none⟩ (.int .u64 y.hi)):=
 ⟨((h.set 0 _).set 1 _).set 2 _,(((Kz0 _ _).setCell (S:=(· =g)) (p:=⟨g,0,none⟩) (.inl rfl) _).setCell (p:=⟨g,1,none⟩) (.inl rfl) _).setCell (p:=⟨g,2,none⟩) (.inl rfl) _⟩
theorem Zsv (n:Int) (w:World) (h0:0≤n) (h1:n≤32):Calls Tryz.prog 183 #[.int .i64 n] w fun e w'=> e= .returned (.tuple #[.pointer (some ⟨w.heap.size,0,none⟩),.int .i64 0])∧w'=w.alloc (.cells #[.int .i64 n,.slice none 0 0] 365):=by
 have e1:decide (n<0)=false:=by simp;omega
 have e2:decide (32<n)=false:=by simp;omega
 go_enter Tryz.func183,Tryz.ntmps183
 go_wp2_with fail
 go_ret2
 exact⟨rfl,rfl⟩
theorem Zp8 (w:World) (B s:Nat) (N:Int) (A:Option Addr) (m c:Nat) (l:List Ln) (k:ByteArray) (hb:Blk w s 365 #[.int .i64 N,.slice A m c]) (hr:Rd w B A 3 m (lnCs l)) (hs:Asc l) (hm:m≤1000000):
  Calls Tryz.prog 188 #[.pointer (some ⟨s,0,none⟩),.string k] w fun e w'=> e= .returned (.tuple #[enV (getE l k),.bool (Zbt l k)])∧Keeps NO w w':=by
 obtain⟨w1,hw1⟩:∃w1,w1=w.alloc (.cells #[.string ⟨#[]⟩,.int .u64 0,.int .u64 0] 263):=⟨_,rfl⟩
 obtain⟨gr,hgr⟩:∃gr,gr=w.heap.size:=⟨_,rfl⟩
 have k1:Keeps NO w w1:=by rw [hw1];exact(Kz0 _ _).alloc _
 have HB:=zz (hb.kept k1 (fun h=> h))
 have HR:=zz (hr.kept k1 (fun _ _ h=> h))
 have HX:Hid (Blk w1 gr 263 (lnC en0).toArray):=zz (by rw [hw1,hgr];exact Blk.new _ _ _)
 have HG:=zz hgr
 have HW:=zz hw1
 have K1:=zz k1
 clear hb hr k1 hgr hw1
 go_enter Tryz.func188,Tryz.ntmps188
 go_upto_region 3 with fail
 rw [←HG.out,←HW.out]
 go_wp2_with fail
 refine(Zp2 w1 B s N A m c l k HB.out HR.out hs hm).mono ?_
 rintro e w2 ⟨rfl,k2⟩
 have b2:=HB.out.kept k2 (fun h=> h)
 have c1:=b2.cell 1
 have hsl:=b2.lt
 have x2:=HX.out.kept k2 (fun h=> h)
 have f0:=x2.frozen 0
 have f1:=x2.frozen 1
 have f2:=x2.frozen 2
 obtain⟨x20,x21,x22⟩:=Zfb x2
 have hxl:=x2.lt
 have X2:=zz x2
 have R2:=zz (HR.out.kept k2 (fun _ _ h=> h))
 have K2:=zz (K1.out.trans k2)
 clear k2 b2 x2
 rcases hf:Zbt l k with _ | _
 ·have hge:=zz (Zlx hf)
  obtain⟨hs6,ks6⟩:=Zq7 X2.out en0
  go_wp2_with fail
  obtain⟨w6,hw6⟩:∃w6,w6=((w2.setCell ⟨gr,0,none⟩ (.string ⟨#[]⟩)).setCell ⟨gr,1,none⟩ (.int .u64 0)).setCell ⟨gr,2,none⟩ (.int .u64 0):=⟨_,rfl⟩
  rw [←hw6]
  have hs6':Blk w6 gr 263 (lnC en0).toArray:=by rw [hw6];exact hs6
  have ks6':Keeps (· =gr) w2 w6:=by rw [hw6];exact ks6
  obtain⟨r0,r1,r2⟩:=Zfb hs6'
  clear hw6 hs6 ks6
  refine bodyPost_ret (v:= .tuple #[enV en0,.bool false]) (by simp [results,Tryz.results188,go_sem,r0,r1,r2]) rfl ?_
  exact⟨by rw [hge.out,hf],K2.out.step ks6' (fun b hb e=> by have:=HG.out;omega)⟩
 ·obtain⟨hg1,hg2⟩:=Zou hf
  obtain⟨y,hy⟩:∃y,y=getE l k:=⟨_,rfl⟩
  rw [←hy] at hg1 hg2
  have HY:=zz hy
  obtain⟨b,off,rfl,_,p0,p1,p2⟩:=Zc7 R2.out hg1 (by have:=(List.getElem?_eq_some_iff.1 hg1).1;have:=Zbn R2.out;omega)
  have hpl:(posK l k:Int)<(m:Int):=by have:=(List.getElem?_eq_some_iff.1 hg1).1;have:=Zbn R2.out;omega
  obtain⟨hs6,ks6⟩:=Zq7 X2.out y
  clear hg1 hg2 hy
  generalize posK l k=pk at*
  go_wp2_with fail
  obtain⟨w6,hw6⟩:∃w6,w6=((w2.setCell ⟨gr,0,none⟩ (.string y.key)).setCell ⟨gr,1,none⟩ (.int .u64 y.lo)).setCell ⟨gr,2,none⟩ (.int .u64 y.hi):=⟨_,rfl⟩
  rw [←hw6] at hs6 ks6 ⊢
  obtain⟨r0,r1,r2⟩:=Zfb hs6
  clear hw6
  refine bodyPost_ret (v:= .tuple #[enV y,.bool true]) (by simp [results,Tryz.results188,go_sem,r0,r1,r2]) rfl ?_
  exact⟨by rw [←HY.out,hf],K2.out.step ks6 (fun b hb e=> by have:=HG.out;omega)⟩
open Go.RowKit Go.Maps
abbrev rpC (win tot:Int) (LA:Option Addr) (nl cl:Nat) (ov tr re:Int) (JA:Option Addr) (nj cj:Nat):Array Value:= #[.int .i64 win,.int .u64 tot,.slice LA nl cl,.int .u64 ov,.int .i64 tr,.int .u64 re,.slice JA nj cj]
abbrev rpV (win tot:Int) (LA:Option Addr) (nl cl:Nat) (ov tr re:Int) (JA:Option Addr) (nj cj:Nat):Value:= .agg #[.int .i64 win,.int .u64 tot,.slice LA nl cl,.int .u64 ov,.int .i64 tr,.int .u64 re,.slice JA nj cj]
structure Ln1 (w:World) (b off:Nat) (k:ByteArray) (lo hi:Int):Prop where
 c0:w.cell? ⟨b,off,none⟩=some (.string k)
 c1:w.cell? ⟨b,off+1,none⟩=some (.int .u64 lo)
 c2:w.cell? ⟨b,off+2,none⟩=some (.int .u64 hi)
theorem Ln1.kept {w w':World} {b off:Nat} {k:ByteArray} {lo hi:Int} {S:Nat→Prop} (h:Ln1 w b off k lo hi) (kk:Keeps S w w') (hs:¬S b):Ln1 w' b off k lo hi:=
 ⟨kk.cell_some h.c0 hs,kk.cell_some h.c1 hs,kk.cell_some h.c2 hs⟩
theorem Zq8 (w:World) (b off cL:Nat) (k:ByteArray) (lo hi:Int) (h:Ln1 w b off k lo hi) (h0:0≤lo) (h1:lo<18446744073709551616):
  Calls Tryz.prog 79 #[.slice (some ⟨b,off,none⟩) 1 cL] w fun e w'=> e= .returned (.tuple #[.int .u64 lo,.bool true])∧Keeps NO w w':=by
 have c0:=h.c0
 have c1:=h.c1
 have c2:=h.c2
 have hA:=Sat.add_yes (a:=0) (b:=lo) (by omega)
 have HS:=zz (fun W=> Sat.add_any 0 lo (by omega) (by omega) h0 h1 W)
 rw [hA.1,hA.2,Int.zero_add] at HS
 clear hA h
 go_enter Tryz.func79,Tryz.ntmps79
 go_upto_region 3 with fail
 go_loopw [2,3,9] (fun v x iv wr=> (iv= .int .i64 0∧v= .int .u64 0∧x= .bool true∧wr=w)∨(iv= .int .i64 1∧v= .int .u64 lo∧x= .bool true∧Hid (Keeps NO w wr))) (fun _ _ iv _=> 1-(intOf iv).toNat)
 case atStart=> exact .inl ⟨rfl,rfl,rfl,rfl⟩
 case round=>
  rcases hrel with ⟨rfl,rfl,rfl,rfl⟩ | ⟨rfl,rfl,rfl,K⟩
  ·go_upto_region 5 with fail
   have b5:=Blk.new wr 139 #[.string k,.int .u64 lo,.int .u64 hi]
   have K5:=zz ((Kz0 NO wr).alloc (.cells #[.string k,.int .u64 lo,.int .u64 hi] 139))
   have q0:=b5.cell 1
   clear b5 c0 c1 c2
   generalize wr.alloc _=w5 at*
   generalize wr.heap.size=X at*
   go_wp2_with fail
   refine(HS.out _).mono ?_
   rintro e w6 ⟨rfl,rfl⟩
   go_wp2_with fail
   go_roundw
   case rel=> exact .inr ⟨rfl,rfl,rfl,K5⟩
   case measure=> simp [intOf]
  ·go_wp2_with fail
   go_ret2
   exact⟨rfl,K.out⟩
theorem Zrf (w:World) (win:Int) (b off cL:Nat) (re:Int) (JA:Option Addr) (nj cj:Nat) (k:ByteArray) (h:Ln1 w b off k 5 5) (hke:(k.toList== [])=false) (hk:k.size≤255):
  Calls Tryz.prog 157 #[rpV win 5 (some ⟨b,off,none⟩) 1 cL 0 1 re JA nj cj,.int .i64 0] w fun e w'=> e= .returned (.int .i64 0)∧Keeps NO w w':=by
 have k1:=(Kz0 NO w).alloc (.cells (rpC win 5 (some ⟨b,off,none⟩) 1 cL 0 1 re JA nj cj) 91)
 have b1:=Blk.new w 91 (rpC win 5 (some ⟨b,off,none⟩) 1 cL 0 1 re JA nj cj)
 have HL:=zz (h.kept k1 (fun h=> h))
 have B1:=zz b1
 have K1:=zz k1
 have e2:decide ((255:Int)<(k.size:Int))=false:=by simp;omega
 clear h k1 b1
 go_enter Tryz.func157,Tryz.ntmps157
 go_upto_region 1 with fail
 have q0:=B1.out.cell 2
 have l0:=HL.out.c0
 have l1:=HL.out.c1
 have l2:=HL.out.c2
 generalize w.alloc _=w1 at*
 generalize w.heap.size=X at*
 go_upto_region 2 with fail
 have k2:=(Kz0 NO w1).alloc (.cells #[.string k,.int .u64 5,.int .u64 5] 139)
 have b2:=Blk.new w1 139 #[.string k,.int .u64 5,.int .u64 5]
 have K2:=zz (K1.out.trans k2)
 have c0:=b2.cell 0
 have c1:=b2.cell 1
 have c2:=b2.cell 2
 have d1:=(B1.out.kept k2 (fun h=> h)).cell 1
 have d2:=(B1.out.kept k2 (fun h=> h)).cell 2
 clear k2 b2 q0 l0 l1 l2 B1 K1 HL
 generalize w1.alloc _=w2 at*
 generalize w1.heap.size=Y at*
 go_upto_region 8 with fail
 go_quiet (fail)
 go_wp2_with fail
 go_ret
 exact⟨rfl,K2.out.drewN _⟩
open Go.RowKit Go.Maps
theorem Zi2 (w:World) (b off cL JB jo cj:Nat) (k:ByteArray) (h:Ln1 w b off k 5 5) (hj:w.cell? ⟨JB,jo,none⟩=some (.int .u64 0)) (hke:(k.toList== [])=false) (hk:k.size≤255):
  Calls Tryz.prog 107 #[rpV 0 5 (some ⟨b,off,none⟩) 1 cL 0 1 0 (some ⟨JB,jo,none⟩) 7 cj] w fun e w'=> e= .returned (.int .i64 0)∧Keeps NO w w':=by
 have hmm:∀w,(Instr.makeMap 289 none).run Tryz.prog w= .ok (.map (some w.heap.size)) (w.alloc (.map #[] 0)):=fun w=> run_makeMap _ w
 obtain⟨w1,hw1⟩:∃w1,w1=(w.alloc (.cells (rpC 0 5 (some ⟨b,off,none⟩) 1 cL 0 1 0 (some ⟨JB,jo,none⟩) 7 cj) 91)).alloc (.map #[] 0):=⟨_,rfl⟩
 obtain⟨X,hX⟩:∃X,X=w.heap.size:=⟨_,rfl⟩
 have k1:Keeps NO w w1:=by rw [hw1];exact((Kz0 _ _).alloc _).alloc _
 have HR:Hid (Blk w1 X 91 (rpC 0 5 (some ⟨b,off,none⟩) 1 cL 0 1 0 (some ⟨JB,jo,none⟩) 7 cj)):=zz (by rw [hw1,hX];exact(Blk.new _ _ _).alloc _)
 have HM:Hid (Mp Tryz.prog 9 enS w1 (X+1) []):=zz (by rw [hw1,hX];exact Mp.made _ _ _ _ _ (by simp))
 have HL:=zz (h.kept k1 (fun h=> h))
 have HJ:=zz (k1.cell_some hj (fun h=> h))
 have K1:=zz k1
 have HW:=zz hw1
 have HXw:=zz hX
 have hbw:b<w.heap.size:=block_lt_of_cell h.c0
 have hJw:JB<w.heap.size:=block_lt_of_cell hj
 clear k1 h hj hw1
 go_enter Tryz.func107,Tryz.ntmps107
 go_upto_region 6 with fail
 rw [←HW.out,←hX]
 clear HW hX hmm
 have HXl:=HR.out.lt
 have q2:=HR.out.cell 2
 go_upto_region 7 with fail
 go_loopw [52] (fun iv wr=> (iv= .int .i64 0∧wr=w1)∨(iv= .int .i64 1∧Hid (Blk wr X 91 (rpC 0 5 (some ⟨b,off,none⟩) 1 cL 0 1 0 (some ⟨JB,jo,none⟩) 7 cj)∧Mp Tryz.prog 9 enS wr (X+1) [(k,.bool true)]∧Ln1 wr b off k 5 5∧wr.cell? ⟨JB,jo,none⟩=some (.int .u64 0)∧Keeps NO w wr))) (fun iv _=> 1-(intOf iv).toNat)
 case atStart=> exact .inl ⟨rfl,rfl⟩
 case round=>
  rcases hrel with ⟨rfl,rfl⟩ | ⟨rfl,HB⟩
  ·have l0:=HL.out.c0
   have l1:=HL.out.c1
   have l2:=HL.out.c2
   go_upto_region 9 with fail
   have kA:=(Kz0 NO wr).alloc (.cells #[.string k,.int .u64 5,.int .u64 5] 139)
   have HY:=zz (Blk.new wr 139 #[.string k,.int .u64 5,.int .u64 5])
   have HR2:=zz (HR.out.kept kA (fun h=> h))
   have HM2:=zz (HM.out.kept kA (fun h=> h))
   have HL2:=zz (HL.out.kept kA (fun h=> h))
   have HJ2:=zz (kA.cell_some HJ.out (fun h=> h))
   have K2:=zz (K1.out.trans kA)
   clear kA l0 l1 l2 q2 HR HM HL HJ K1
   generalize wr.alloc _=w2 at*
   generalize wr.heap.size=Y at*
   have p0:=HR2.out.cell 0
   have p1:=HR2.out.cell 1
   have p2:=HR2.out.cell 2
   have p3:=HR2.out.cell 3
   have p4:=HR2.out.cell 4
   have p5:=HR2.out.cell 5
   have p6:=HR2.out.cell 6
   go_wp2_with fail
   refine(Zrf w2 0 b off cL 0 (some ⟨JB,jo,none⟩) 7 cj k HL2.out hke hk).mono ?_
   rintro e w3 ⟨rfl,k3⟩
   have HY3:=zz (HY.out.kept k3 (fun h=> h))
   have HR3:=zz (HR2.out.kept k3 (fun h=> h))
   have HM3:=zz (HM2.out.kept k3 (fun h=> h))
   have HL3:=zz (HL2.out.kept k3 (fun h=> h))
   have HJ3:=zz (k3.cell_some HJ2.out (fun h=> h))
   have K3:=zz (K2.out.trans k3)
   have y0:=HY3.out.cell 0
   obtain⟨w4,hup,mp4,k4⟩:=HM3.out.put_no (string_keyed Tryz.underlying9) Tryz.underlying289 (keyS Tryz.underlying9 k (by omega)) (by simp) (.bool true)
   have HJb:Hid (JB<w3.heap.size):=zz (block_lt_of_cell HJ3.out)
   have hxx:=HXw.out
   have HB4:=zz (show Blk w4 X 91 (rpC 0 5 (some ⟨b,off,none⟩) 1 cL 0 1 0 (some ⟨JB,jo,none⟩) 7 cj)∧Mp Tryz.prog 9 enS w4 (X+1) [(k,.bool true)]∧Ln1 w4 b off k 5 5∧w4.cell? ⟨JB,jo,none⟩=some (.int .u64 0)∧Keeps NO w w4 from
    ⟨HR3.out.kept k4 (by omega),mp4,HL3.out.kept k4 (by omega),k4.cell_some HJ3.out (by show¬JB=X+1;omega),K3.out.step k4 (fun b hb e=> by omega)⟩)
   clear hxx
   clear mp4 k4 k3 p0 p1 p2 p3 p4 p5 p6 HY HR2 HM2 HL2 HJ2 K2 HY3 HR3 HM3 HL3 HJ3 K3
   go_wp2_with fail
   go_roundw
   case rel=> exact .inr ⟨rfl,HB4⟩
   case measure=> simp [intOf]
  ·obtain⟨hr,hm,hl,hj,kk⟩:=HB.out
   have q1:=hr.cell 1
   have q2:=hr.cell 2
   have q3:=hr.cell 3
   have q6:=hr.cell 6
   have hlen:=hm.len Tryz.underlying289 3
   have HLw:=zz (Zq8 wr b off cL k 5 5 hl (by omega) (by omega))
   have HFr:=zz (And.intro hr hj)
   have Kr:=zz kk
   clear hr hm hl hj kk
   go_wp2_with fail
   refine HLw.out.mono ?_
   rintro e w3 ⟨rfl,k3⟩
   have K3:=zz (Kr.out.trans k3)
   have HR3:=zz (HFr.out.1.kept k3 (fun h=> h))
   have HJ3:=zz (k3.cell_some HFr.out.2 (fun h=> h))
   have p1:=HR3.out.cell 1
   have p3:=HR3.out.cell 3
   have p6:=HR3.out.cell 6
   have j0:=HJ3.out
   have HSa:=zz (Sat.add_any 5 0 (by omega) (by omega) (by omega) (by omega) w3)
   rw [(Sat.add_yes (a:=5) (b:=0) (by omega)).1,(Sat.add_yes (a:=5) (b:=0) (by omega)).2,Int.add_zero] at HSa
   clear k3 q1 q2 q3 q6 hlen HLw HFr Kr
   go_wp2_with fail
   refine HSa.out.mono ?_
   rintro e w4 ⟨rfl,rfl⟩
   go_wp2_with fail
   go_ret
   exact⟨rfl,K3.out⟩
open Go.RowKit
def selN (k:Int) (n:Nat):Nat:=min k.toNat n
theorem Zrc (k:Int) (n:Nat):selN k n≤n:=Nat.min_le_right _ _
def Ziw (w:World) (n:Nat) (k:Int) (l:List Ln) (e:Ending) (w':World):Prop:=
 ∃A' c' B' c'',e= .returned (.tuple #[.slice A' (selN k n) c',.slice B' (n-selN k n) c''])∧Own w' w.heap.size 139 3 A' (selN k n) c' (lnCs ((srtL l).take (selN k n)))∧Own w' w.heap.size 139 3 B' (n-selN k n) c'' (lnCs ((srtL l).drop (selN k n)))∧Keeps NO w w'
theorem Znq (k:Int) (n:Nat):(if (n:Int)<(if k<0 then 0 else k) then(n:Int) else if k<0 then 0 else k)=((selN k n:Nat):Int):=by
 have e:(if k<0 then(0:Int) else k)=(k.toNat:Int):=by split <;> omega
 rw [e]
 unfold selN
 split <;> omega
theorem Zj5 (w:World) (B:Nat) (A:Option Addr) (n c:Nat) (l:List Ln) (k:Int) (hr:Rd w B A 3 n (lnCs l)) (hn:n≤1∧1≤n) (k0: -9223372036854775808≤k) (k1:k<9223372036854775808):
  Calls Tryz.prog 77 #[.slice A n c,.int .i64 k] w (Ziw w n k l):=by
 have HR:=zz hr
 obtain⟨q,hq⟩:∃q,q=selN k n:=⟨_,rfl⟩
 have hqn:q≤n:=by rw [hq];exact Zrc _ _
 have he:=Znq k n
 rw [←hq] at he
 have HQ:=zz hq
 have HE:=zz he
 clear hr hq he
 go_enter Tryz.func77,Tryz.ntmps77
 go_wp2_with fail
 refine(Zmw w B A n c l HR.out hn).mono ?_
 rintro e w1 ⟨A1,c1,rfl,h1,kk1⟩
 have H1:=zz h1
 have K1:=zz kk1
 clear h1 kk1
 go_upto_region 3 with fail
 rw [HE.out]
 generalize (if k<0 then(0:Int) else k)=kq
 clear HE
 have hnc:=H1.out.le
 obtain⟨Da,hsa,hra,hia⟩:=Zq4 Zgk A1 n c1 .i64 (q:Int) (by omega) (by omega) hnc
 obtain⟨Db,hsb,hrb,hib⟩:=Zcr Zgk A1 n c1 .i64 (q:Int) (by omega) (by omega) hnc
 rw [show((q:Nat):Int).toNat=q from by omega] at hsb hrb hsa hra
 have RA:=zz (hra _ _ _ (H1.out.rd (by omega)))
 have RB:=zz (hrb _ _ _ (H1.out.rd (by omega)))
 rw [Zle] at RA
 rw [Zlf] at RB
 clear hra hrb hia hib
 refine wp_region_held_drew (S:=fun W=> Keeps NO w1 W) (by kernel_rfl) ((Kz0 _ _).drew) (fun hHeld=> ?_)
 refine tkH 0 ?_
 refine tkH 1 ?_
 refine tkH 2 ?_
 refine tkH 3 ?_
 refine tkH 5 ?_
 refine tkH 6 ?_
 refine tkH 7 ?_
 refine tkH 8 ?_
 refine rd1 4 (fun K hK=> ?_)
 refine Zao _ Zgk (by rfl) (.tmp 14) (.tmp 17) (by rfl) w1.heap.size (A:=none) (n:=0) (c:=0) [] (by simp [Act.eval,Act.put]) (Own.nil _ _ _ _) w1.heap.size (A2:=Da) (m:=q) (c2:=c1) (lnCs (List.take q (srtL l))) (by simp [Act.eval,Act.put]) ?h1 (Zdq _) (by simp only [maxLen];omega) (by omega) ?h2 ?_
 case h1=> exact RA.out.drew
 case h2=> exact Nat.le_refl _
 intro A7 c7 w7 o7 k7 hA7
 rw [Nat.zero_add,List.nil_append] at o7
 have OA:=zz o7
 have K7:=zz (((Kz0 NO w1).drew).step k7 (fun q hq h=> Zaj _ h))
 clear o7 k7 hA7
 rw [Nat.zero_add]
 refine hK.out _ _ K7.out (fun _=> ?_)
 clear hK K
 (try simp only [Zpt])
 refine rd1 9 (fun K hK=> ?_)
 refine Zao _ Zgk (by rfl) (.tmp 19) (.tmp 22) (by rfl) w1.heap.size (A:=none) (n:=0) (c:=0) [] (by simp [Act.eval,Act.put]) (Own.nil _ _ _ _) w1.heap.size (A2:=Db) (m:=n-q) (c2:=c1-q) (lnCs (List.drop q (srtL l))) (by simp [Act.eval,Act.put]) ?h3 (Zdq _) (by simp only [maxLen];omega) (by omega) ?h4 ?_
 case h3=> exact RB.out.kept K7.out (fun _ _ h=> h)
 case h4=> exact K7.out.size
 intro A8 c8 w8 o8 k8 hA8
 rw [Nat.zero_add,List.nil_append] at o8
 have OB:=zz o8
 have K8:=zz (K7.out.step k8 (fun q hq h=> Zaj _ h))
 have OA8:=zz (OA.out.kept k8 (fun _ _ h=> Zaj _ h))
 clear o8 k8 hA8
 rw [Nat.zero_add]
 refine hK.out _ _ K8.out (fun _=> ?_)
 clear hK K
 (try simp only [Zpt])
 refine tkH 10 ?_
 refine tkH 11 ?_
 refine wpAnyH_done (by kernel_rfl) ?_ _
 (try simp only [Zpt])
 go_wp2_with fail
 go_ret2
 refine⟨A7,c7,A8,c8,by rw [←HQ.out];rfl,?_,?_,K1.out.trans K8.out⟩
 ·rw [←HQ.out];exact OA8.out.base_le K1.out.size
 ·rw [←HQ.out];exact OB.out.base_le K1.out.size
open Go.RowKit
def imax (a b:Int):Int:=if a<b then b else a
theorem Zoq {a b:Int} (h:a<b):imax a b=b:=if_pos h
theorem Zs9 {a b:Int} (h:¬a<b):imax a b=a:=if_neg h
def abv (l:List Ln) (u:Int):Int:=(l.map (·.hi)).foldl imax u
theorem Zw0:ElemOf Tryz.prog 25 23 1 8:=ElemOf.mk' (z:= .int .u64 0) Tryz.underlying25 (by kernel_rfl) rfl (by omega)
theorem Zge (u:Int) (w:World) (B:Nat) (A:Option Addr) (n c:Nat) (zs:List Int) (hr:Rd w B A 1 n (zs.map (.int .u64))) (hn:n≤1000000):
  Calls Tryz.prog 143 #[.int .u64 u,.slice A n c] w fun e w'=> e= .returned (.int .u64 (zs.foldl imax u))∧w'=w:=by
 have HR:=zz hr
 have HL:Hid (zs.length=n):=zz (by simpa using hr.1)
 clear hr
 go_enter Tryz.func143,Tryz.ntmps143
 go_upto_region 2 with fail
 go_loopw [0,9] (fun uv iv wr=> ∃i:Nat,i≤n∧uv= .int .u64 ((zs.take i).foldl imax u)∧iv= .int .i64 (i:Int)∧wr=w) (fun _ iv _=> n-(intOf iv).toNat)
 case atStart=> exact⟨0,by omega,rfl,rfl,rfl⟩
 case round=>
  obtain⟨i,hi,rfl,rfl,rfl⟩:=hrel
  by_cases hlt:i<n
  ·have e1:decide (i<n)=true:=by simpa using hlt
   obtain⟨x,hx⟩:∃x,zs[i]?=some x:=⟨zs[i]'(by rw [HL.out];exact hlt),List.getElem?_eq_getElem _⟩
   obtain⟨b,off,rfl,_,hc⟩:=HR.out.2 (by omega)
   have q0:=hc i (.int .u64 x) (by simp [hx])
   have hs:Hid ((zs.take (i+1)).foldl imax u=imax ((zs.take i).foldl imax u) x):=zz (by rw [List.take_add_one,hx,List.foldl_append];rfl)
   generalize (zs.take i).foldl imax u=m at*
   clear hc hx
   by_cases hm:m<x
   ·rw [Zoq hm] at hs
    go_wp2_with fail
    go_roundw
    case rel=> exact⟨i+1,by omega,by rw [hs.out],by go_num,trivial⟩
    case measure=> simp [intOf];omega
   ·rw [Zs9 hm] at hs
    go_wp2_with fail
    go_roundw
    case rel=> exact⟨i+1,by omega,by rw [hs.out],by go_num,trivial⟩
    case measure=> simp [intOf];omega
  ·have e1:decide (i<n)=false:=by simpa using hlt
   obtain rfl:i=n:=by omega
   rw [List.take_of_length_le (by rw [HL.out];exact Nat.le_refl _)]
   go_wp2_with fail
   go_ret
   exact⟨rfl,rfl⟩
theorem Znw (u:Int) (w:World) (B:Nat) (A:Option Addr) (n c:Nat) (l:List Ln) (hr:Rd w B A 3 n (lnCs l)) (hn:n≤1000000):
  Calls Tryz.prog 82 #[.slice A n c,.int .u64 u] w fun e w'=> e= .returned (.int .u64 (abv l u))∧Keeps NO w w':=by
 have HR:=zz hr
 have HL:=zz (Zbn hr)
 clear hr
 go_enter Tryz.func82,Tryz.ntmps82
 go_upto_region 3 with fail
 go_loopw [5,10] (fun ov iv wr=> ∃(i:Nat) (A':Option Addr) (c':Nat),i≤n∧ov= .slice A' i c'∧iv= .int .i64 (i:Int)∧Hid (Own wr w.heap.size 23 1 A' i c' ((l.take i).map fun x=> .int .u64 x.hi))∧Hid (Keeps NO w wr)) (fun _ iv _=> n-(intOf iv).toNat)
 case atStart=> exact⟨0,none,0,by omega,rfl,rfl,zz (Own.nil _ _ _ _),zz (Kz0 _ _)⟩
 case round=>
  obtain⟨i,A',c',hi,rfl,rfl,HO,HK⟩:=hrel
  obtain⟨wo,rfl⟩:∃wo:World,wo=wr:=⟨_,rfl⟩
  by_cases hlt:i<n
  ·have e1:decide (i<n)=true:=by simpa using hlt
   obtain⟨x,hx⟩:∃x,l[i]?=some x:=⟨l[i]'(by rw [HL.out];exact hlt),List.getElem?_eq_getElem _⟩
   obtain⟨b,off,rfl,_,q0,q1,q2⟩:=Zc7 (HR.out.kept HK.out (fun _ _ h=> h)) hx (by omega)
   have hs:Hid ((l.take (i+1)).map (fun x:Ln=> Value.int .u64 x.hi)=(l.take i).map (fun x=> .int .u64 x.hi)++ [.int .u64 x.hi]):=zz (by rw [List.take_add_one,hx,List.map_append];rfl)
   clear hx
   have kA:Hid (Keeps NO wo ((wo.alloc (.cells #[.string x.key,.int .u64 x.lo,.int .u64 x.hi] 139)).alloc (.cells #[.int .u64 x.hi] 23))):=zz (((Kz0 _ _).alloc _).alloc _)
   go_wp2_with (at_builtin;refine Za5 _ Zw0 rfl (.tmp 14) (.tmp 17) rfl w.heap.size _ rfl (HO.out.kept kA.out (fun _ _ h=> h)) _ (m:=1) [.int .u64 x.hi] rfl (by exact Blk.rd (xs:= [.int .u64 x.hi]) (Blk.new_at _ _ _ _ (by simp)) rfl) (by simp [Value.oneCell']) (by simp only [maxLen];omega) (by omega) (by have:=HK.out.size;have:=kA.out.size;omega) ?_;intro A7 c7 w7 o7 k7 hA7;have O7:=zz o7;have K7:=zz ((HK.out.step0 kA.out).step k7 (fun q hq h=> by have:=HO.out.inB h;omega));clear o7 k7 hA7)
   go_roundw
   case rel=> exact⟨i+1,A7,c7,by omega,rfl,by go_num,zz (by rw [hs.out];exact O7.out),K7⟩
   case measure=> simp [intOf];omega
  ·have e1:decide (i<n)=false:=by simpa using hlt
   obtain rfl:i=n:=by omega
   have hf:Hid ((l.map (·.hi)).map (Value.int .u64)=(l.take i).map fun x=> .int .u64 x.hi):=zz (by rw [List.take_of_length_le (by rw [HL.out];exact Nat.le_refl _),List.map_map];rfl)
   go_wp2_with fail
   refine(Zge u _ _ _ _ _ (l.map (·.hi)) (by rw [hf.out];exact HO.out.rd (by omega)) hn).mono ?_
   rintro e w8 ⟨rfl,rfl⟩
   go_wp2_with fail
   go_ret
   exact⟨rfl,HK.out⟩
open Go.RowKit Vp
def IsEn (w:World) (B Y:Nat) (L:List UInt8):Prop:=∃(A:Option Addr) (n c:Nat),Blk w Y 407 #[.slice A n c]∧Own w B 5 1 A n c (L.map by8)
def EnF (B Y:Nat) (w:World) (b:Nat):Prop:=b=Y∨(B≤b∧∃cs,Blk w b 5 cs)
def encs (zs:List Int):List UInt8:=zs.flatMap fun z=> enc z.toNat
theorem Zik (zs:List Int):(encs zs).length≤zs.length*10:=by
 induction zs with
 | nil=> simp [encs]
 | cons z zs ih=>
   have:=(Zae z.toNat).2
   simp only [encs,List.flatMap_cons,List.length_append,List.length_cons] at ih ⊢
   omega
theorem IsEn.kept {w w':World} {B Y:Nat} {L:List UInt8} {S:Nat→Prop} (h:IsEn w B Y L) (k:Keeps S w w') (hY:¬S Y) (hS:∀b cs,Blk w b 5 cs→¬S b):IsEn w' B Y L:=by
 obtain⟨A,n,c,h1,h2⟩:=h
 refine⟨A,n,c,h1.kept k hY,h2.kept k (fun b hb=> ?_)⟩
 obtain⟨cs,hc⟩:=h2.blk hb
 exact hS b cs hc
theorem IsEn.quiet {w w':World} {B Y:Nat} {L:List UInt8} (h:IsEn w B Y L) (k:Keeps NO w w'):IsEn w' B Y L:=h.kept k (fun h=> h) (fun _ _ _ h=> h)
theorem Zeb (w:World) (B Y:Nat) (L:List UInt8) (hL:L.length≤100000) (h:IsEn w B Y L) (hB:B≤w.heap.size) (NA:Option Addr) (m cN:Nat) (zs:List Int) (hz:∀z∈zs,0≤z∧z<18446744073709551616) (hm:m≤1000) (hml:zs.length=m)
  (hN:∀W,Keeps (· =Y) w W→Rd W W.heap.size NA 1 m (zs.map (.int .u64))):
  Calls Tryz.prog 264 #[.pointer (some ⟨Y,0,none⟩),.slice NA m cN] w fun e w'=> e= .returned (.tuple #[])∧IsEn w' B Y (L++encs zs)∧Keeps (· =Y) w w':=by
 have HE:=zz h
 have HN:=zz hN
 have HZ:=zz hz
 have HM:=zz hml
 clear h hN hz hml
 go_enter Tryz.func264,Tryz.ntmps264
 go_upto_region 1 with fail
 go_loopw [8] (fun iv wr=> ∃i:Nat,i≤m∧iv= .int .i64 i∧Hid (IsEn wr B Y (L++encs (zs.take i)))∧Hid (Keeps (· =Y) w wr)) (fun iv _=> m-(intOf iv).toNat)
 case atStart=> exact⟨0,by omega,rfl,zz (by simpa [encs] using HE.out),zz (Kz0 _ _)⟩
 case round=>
  obtain⟨i,hi,rfl,He,K⟩:=hrel
  by_cases hlt:i<m
  ·have e1:decide (i<m)=true:=by simpa using hlt
   obtain⟨z,hz⟩:∃z,zs[i]?=some z:=⟨zs[i]'(by rw [HM.out];exact hlt),List.getElem?_eq_getElem _⟩
   obtain⟨b,off,rfl,_,hc⟩:=(HN.out _ K.out).2 (by omega)
   have q0:=hc i (.int .u64 z) (by simp [hz])
   have hzb:=HZ.out z (List.mem_of_getElem? hz)
   have hsn:Hid (encs (zs.take (i+1))=encs (zs.take i)++enc z.toNat):=zz (by rw [List.take_add_one,hz];simp [encs,List.flatMap_append])
   obtain⟨A,n,c,hb,ho⟩:=He.out
   have hlen:=Zik (zs.take i)
   have hnl:n=L.length+(encs (zs.take i)).length:=by have:=ho.len;simp at this;omega
   have htk:(zs.take i).length≤i:=by simp;omega
   have hBw:B≤wr.heap.size:=Nat.le_trans hB K.out.size
   have HAp:=zz (Varint.append_any (L++encs (zs.take i)) A n c wr.heap.size wr (ho.rd (by omega)) (Nat.le_refl _) (by omega) z hzb.1 hzb.2)
   have HB:=zz hb
   have c0:=hb.cell 0
   clear hb ho hlen hnl htk hc hz hzb
   go_wp2_with fail
   refine HAp.out.mono ?_
   rintro e w2 ⟨A2,n2,c2,hn2,rfl,o2,k2⟩
   clear hn2
   have HB2:=zz (HB.out.kept k2 (fun h=> h))
   have O2:=zz (o2.base_le hBw)
   have K2:=zz (K.out.step0 k2)
   have f0:=HB2.out.frozen 0
   have d0:=HB2.out.cell 0
   clear o2 k2 c0 q0 HAp HB K
   go_wp2_with fail
   have kS:=(Kz0 (· =Y) w2).setCell (p:=⟨Y,0,none⟩) (.inl rfl) (.slice A2 n2 c2)
   have HE2:=zz (show IsEn (w2.setCell ⟨Y,0,none⟩ (.slice A2 n2 c2)) B Y (L++encs (zs.take (i+1))) from
    ⟨A2,n2,c2,HB2.out.set 0 _,by rw [hsn.out,←List.append_assoc];exact O2.out.kept kS (fun b hb e=> O2.out.ne_blk HB2.out (by decide) hb e)⟩)
   go_roundw
   case rel=> exact⟨i+1,by omega,by go_num,HE2,zz (K2.out.trans kS)⟩
   case measure=> simp [intOf];omega
  ·have e1:decide (i<m)=false:=by simpa using hlt
   obtain rfl:i=m:=by omega
   rw [List.take_of_length_le (by rw [HM.out];exact Nat.le_refl _)] at He
   go_wp2_with fail
   go_end0
   exact⟨rfl,He.out,K.out⟩
theorem Zpj (w:World) (B Y:Nat) (L:List UInt8) (hL:L.length≤50000) (h:IsEn w B Y L) (hB:B≤w.heap.size) (s:ByteArray) (hs:s.size≤4096):
  Calls Tryz.prog 265 #[.pointer (some ⟨Y,0,none⟩),.string s] w fun e w'=> e= .returned (.tuple #[])∧IsEn w' B Y (L++(enc s.size++s.data.toList))∧Keeps (EnF B Y w) w w':=by
 have hw:IntKind.u64.wrap (s.size:Int)=(s.size:Int):=by rw [IntKind.wrap_u64];omega
 have kA:=(Kz0 NO w).alloc (.cells #[.int .u64 (s.size:Int)] 23)
 have HNb:=zz (Blk.new w 23 #[.int .u64 (s.size:Int)])
 have HE:=zz (h.quiet kA)
 have hYw:Y<w.heap.size:=by obtain⟨A,n,c,hb,_⟩:=h;exact hb.lt
 have KA:=zz kA
 have HBn:=zz (Zeb (w.alloc (.cells #[.int .u64 (s.size:Int)] 23)) B Y L (by omega) HE.out (Nat.le_trans hB kA.size) (some ⟨w.heap.size,0,none⟩) 1 1 [(s.size:Int)] (by simp;omega) (by omega) rfl (fun W kW=> by
  have:=(HNb.out.kept kW (by omega)).rd (xs:= [.int .u64 (s.size:Int)]) (sz:=1) (n:=1) rfl
  exact this))
 have he1:encs [(s.size:Int)]=enc s.size:=by simp [encs]
 rw [he1] at HBn
 clear h kA he1
 go_enter Tryz.func265,Tryz.ntmps265
 go_wp2_with fail
 refine HBn.out.mono ?_
 rintro e w2 ⟨rfl,he,k2⟩
 obtain⟨A,n,c,hb,ho⟩:=he
 have c0:=hb.cell 0
 have HB:=zz hb
 have HO:=zz ho
 have K2:=zz (show Keeps (· =Y) w w2 from(KA.out.weak (S':=(· =Y)) (fun _ _ h=> h.elim)).trans k2)
 have hn2:n≤60000:=by
  have h1:=ho.len
  have h2:=(Zae s.size).2
  simp at h1
  omega
 have hBw:B≤w2.heap.size:=Nat.le_trans hB K2.out.size
 clear hb ho k2 HBn HE HNb KA
 go_wp2_with (at_builtin;refine Zbh _ rfl _ _ rfl B _ rfl HO.out s rfl (by omega) (by omega) hBw ?_;intro A3 c3 w3 o3 k3 hA3;have O3:=zz o3;have HB3:=zz (HB.out.kept k3 (fun hb=> HO.out.ne_blk HB.out (by decide) hb rfl));have K3:=zz k3;have f0:=HB3.out.frozen 0;have d0:=HB3.out.cell 0;clear o3 k3 hA3)
 go_end0
 have kS:=(Kz0 (· =Y) w3).setCell (p:=⟨Y,0,none⟩) (.inl rfl) (.slice A3 (n+s.size) c3)
 refine⟨rfl,⟨A3,n+s.size,c3,HB3.out.set 0 _,?_⟩,?_⟩
 ·rw [←List.append_assoc]
  exact O3.out.kept kS (fun b hb e=> O3.out.ne_blk HB3.out (by decide) hb e)
 ·refine((K2.out.weak (S':=EnF B Y w) (fun _ _ h=> .inl h)).step K3.out (fun b hb e=> .inr ⟨(HO.out.inB e).1,?_⟩)).step kS (fun b _ e=> .inl e)
  obtain⟨cs,hc⟩:=HO.out.blk e
  have hbY:b≠Y:=hc.ne HB.out (by decide)
  exact⟨cs,(K2.out.block b hb hbY).symm.trans hc⟩
end Go.Proofs.YtjamiaamngalgaaGreat
