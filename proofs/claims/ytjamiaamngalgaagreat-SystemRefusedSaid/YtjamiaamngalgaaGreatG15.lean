/-
  Parts: Zhs of structs as lists; Plain: the stable sort o; The functions of package; Sketches of counters, pl; Sorting. No conditions beyond those of the statement.
-/
import Derived.Test.YtjamiaamngalgaaGreatG01
import Derived.Test.YtjamiaamngalgaaGreatG03
import Derived.Maps.OwnSet
import Derived.RegionTactic
import Derived.ChangeAlike
set_option linter.unusedVariables false
set_option linter.unusedSimpArgs false
set_option maxRecDepth 1000000
set_option maxHeartbeats 4000000
namespace Go.Proofs.YtjamiaamngalgaaGreat.Fl
open Go.RowKit
section flat
variable {α:Type} (f:α→List Value) (m:Nat) (hf:∀x,(f x).length=m)
include hf
theorem len (l:List α):(l.flatMap f).length=l.length*m:=by
 induction l with
 | nil=> simp
 | cons x l ih=> rw [List.flatMap_cons,List.length_append,hf,ih,List.length_cons,Nat.add_mul];omega
theorem get:∀(l:List α) (i k:Nat) (x:α),l[i]?=some x→k<m→(l.flatMap f)[i*m+k]?=(f x)[k]?
 | [],_,_,_,h,_=> by simp at h
 | y :: l,0,k,x,h,hk=> by
   simp at h
   subst h
   rw [List.flatMap_cons,Nat.zero_mul,Nat.zero_add,List.getElem?_append_left (by rw [hf];exact hk)]
 | y :: l,i+1,k,x,h,hk=> by
   rw [List.flatMap_cons,List.getElem?_append_right (by rw [hf,Nat.add_mul];omega),hf]
   have:=get l i k x (by simpa using h) hk
   rw [←this]
   congr 1
   rw [Nat.add_mul];omega
theorem at_ (hm:0<m):∀(l:List α) (q:Nat),(l.flatMap f)[q]?=(l[q / m]?).bind (fun x=> (f x)[q % m]?)
 | [],q=> by simp
 | x :: l,q=> by
   rw [List.flatMap_cons]
   by_cases h:q<m
   ·rw [List.getElem?_append_left (by rw [hf];exact h),Nat.div_eq_of_lt h,Nat.mod_eq_of_lt h]
    simp
   ·rw [List.getElem?_append_right (by rw [hf];omega),hf,at_ hm l (q-m),Nat.mod_eq_sub_mod (by omega:q ≥ m),Nat.div_eq_sub_div hm (by omega:m≤q)]
    simp
theorem take (l:List α) (k:Nat):(l.take k).flatMap f=(l.flatMap f).take (k*m):=by
 rcases Nat.lt_or_ge k l.length with h | h
 ·have e:l.flatMap f=(l.take k).flatMap f++(l.drop k).flatMap f:=by rw [←List.flatMap_append,List.take_append_drop]
  rw [e,List.take_left' (by rw [len f m hf,List.length_take];congr 1;omega)]
 ·rw [List.take_of_length_le h,List.take_of_length_le (by rw [len f m hf];exact Nat.mul_le_mul_right _ h)]
theorem drop (l:List α) (k:Nat):(l.drop k).flatMap f=(l.flatMap f).drop (k*m):=by
 rcases Nat.lt_or_ge k l.length with h | h
 ·have e:l.flatMap f=(l.take k).flatMap f++(l.drop k).flatMap f:=by rw [←List.flatMap_append,List.take_append_drop]
  rw [e,List.drop_left' (by rw [len f m hf,List.length_take];congr 1;omega)]
 ·rw [List.drop_of_length_le h,List.drop_of_length_le (by rw [len f m hf];exact Nat.mul_le_mul_right _ h)]
  rfl
end flat
def sets:List Value→Nat→List Value→List Value
 | xs,_,[]=> xs
 | xs,o,v :: vs=> sets (xs.set o v) (o+1) vs
theorem sets_get:∀(vs xs:List Value) (o q:Nat),(sets xs o vs)[q]?=if o≤q∧q<o+vs.length∧q<xs.length then vs[q-o]? else xs[q]?
 | [],xs,o,q=> by simp [sets];omega
 | v :: vs,xs,o,q=> by
   rw [sets,sets_get vs (xs.set o v) (o+1) q,List.length_set,List.length_cons]
   by_cases h1:o+1≤q∧q<o+1+vs.length∧q<xs.length
   ·rw [if_pos h1,if_pos (by omega),show q-o=(q-(o+1))+1 by omega,List.getElem?_cons_succ]
   ·rw [if_neg h1]
    by_cases h2:o=q
    ·subst h2
     by_cases h3:o<xs.length
     ·rw [if_pos (by omega)];simp [h3]
     ·rw [if_neg (by omega)];simp [h3]
    ·rw [if_neg (by omega),List.getElem?_set,if_neg h2]
end Go.Proofs.YtjamiaamngalgaaGreat.Fl
namespace Go.Proofs.YtjamiaamngalgaaGreat.Srt
variable {α:Type} {lt:α→α→Bool}
structure Wk (lt:α→α→Bool):Prop where
 irr:∀x,lt x x=false
 tr:∀x y z,lt x y=true→lt y z=true→lt x z=true
 nt:∀x y z,lt x y=false→lt y z=false→lt x z=false
def mrg (lt:α→α→Bool):List α→List α→List α
 | [],B=> B
 | x :: A,[]=> x :: A
 | x :: A,y :: B=> if lt y x then y :: mrg lt (x :: A) B else x :: mrg lt A (y :: B)
termination_by A B=> A.length+B.length
theorem Zrq (B:List α):mrg lt [] B=B:=by unfold mrg;rfl
def srt (lt:α→α→Bool) (l:List α):List α:=l.foldl (fun out x=> mrg lt out [x]) []
theorem srt_one (x:α):srt lt [x]= [x]:=by simp [srt,Zrq]
def Sd (lt:α→α→Bool) (l:List α):Prop:=l.Pairwise (fun x y=> lt y x=false)
theorem Sd.left (hw:Wk lt) {A:List α} {z x:α} (h:Sd lt (A++ [z])) (hz:lt x z=false):∀y∈A++ [z],lt x y=false:=by
 intro y hy
 rcases List.mem_append.1 hy with hy | hy
 ·have:=(List.pairwise_append.1 h).2.2 y hy z (List.mem_singleton.2 rfl)
  exact hw.nt x z y hz this
 ·rw [List.mem_singleton.1 hy];exact hz
theorem Sd.right (hw:Wk lt) {A:List α} {z x:α} (h:Sd lt (z :: A)) (hz:lt x z=true):∀y∈z :: A,lt x y=true:=by
 intro y hy
 rcases List.mem_cons.1 hy with rfl | hy
 ·exact hz
 ·have:=(List.pairwise_cons.1 h).1 y hy
  rcases e:lt x y with _ | _
  ·have:=hw.nt x y z e this
   rw [hz] at this
   cases this
  ·rfl
def put (l:List α) (a b:Nat) (P:List α):List α:=l.take a++P++l.drop b
theorem put_len (l:List α) {a b:Nat} (P:List α) (h:a≤b) (hb:b≤l.length) (hP:P.length=b-a):(put l a b P).length=l.length:=by simp [put,hP];omega
end Go.Proofs.YtjamiaamngalgaaGreat.Srt
namespace Go.Proofs.YtjamiaamngalgaaGreat
open Go.RowKit
namespace Sat
def add (a b:Int):Int:=if a+b≤18446744073709551615 then a+b else 18446744073709551615
def addOk (a b:Int):Bool:=decide (a+b≤18446744073709551615)
def sub (a b:Int):Int:=if a<b then 0 else a-b
def Zkc (a b:Int):Bool:=decide (b≤a)
def fits (t w:Int):Bool:=decide (t+w≤9223372036854775808)
theorem add_bd (a b:Int) (ha:0≤a) (hb:0≤b):0≤add a b∧add a b<18446744073709551616:=by unfold add;split <;> omega
theorem add_yes {a b:Int} (h:a+b≤18446744073709551615):add a b=a+b∧addOk a b=true:=by unfold add addOk;simp [h]
theorem Ziu {a b:Int} (h:¬a+b≤18446744073709551615):add a b=18446744073709551615∧addOk a b=false:=by unfold add addOk;simp [h]
theorem Zq2 {a b:Int} (h:a<b):sub a b=0∧Zkc a b=false:=by unfold sub Zkc;simp [h]
theorem sub_yes {a b:Int} (h:¬a<b):sub a b=a-b∧Zkc a b=true:=by unfold sub Zkc;simp [h];omega
theorem run_add64 (a b:Int) (ha:0≤a) (hb:0≤b) (w:World):
  (callFunc 136 #[.int .u64 a,.int .u64 b,.int .u64 0]).run Tryz.prog w=
   .ok (.value (.tuple #[.int .u64 ((a+b) % 18446744073709551616),.int .u64 ((a+b) / 18446744073709551616)])) w:=by
 have h:=_root_.Go.run_add64 (P:=Tryz.prog) a b 0 ha hb (by omega) (by omega) w
 rw [run_callFunc_extern Tryz.func136 (by kernel_rfl) (by kernel_rfl) (by kernel_rfl) (e:=add64Entry) (by kernel_rfl),h]
 simp only [Result.andThen,Int.add_zero]
theorem add_any (a b:Int) (ha:0≤a) (ha':a<18446744073709551616) (hb:0≤b) (hb':b<18446744073709551616) (w:World):
  Calls Tryz.prog 71 #[.int .u64 a,.int .u64 b] w fun e w'=> e= .returned (.tuple #[.int .u64 (add a b),.bool (addOk a b)])∧w=w':=by
 have h49:=run_add64 a b ha hb
 by_cases h:a+b≤18446744073709551615
 ·rw [(add_yes h).1,(add_yes h).2]
  rw [show(a+b) % 18446744073709551616=a+b from by omega,show(a+b) / 18446744073709551616=0 from by omega] at h49
  go_enter Tryz.func71,Tryz.ntmps71
  go_wp2
  go_ret2
  exact⟨rfl,rfl⟩
 ·rw [(Ziu h).1,(Ziu h).2]
  rw [show(a+b) / 18446744073709551616=1 from by omega] at h49
  go_enter Tryz.func71,Tryz.ntmps71
  go_wp2
  go_ret2
  exact⟨rfl,rfl⟩
theorem sub_any (a b:Int) (ha:0≤a) (ha':a<18446744073709551616) (hb:0≤b) (hb':b<18446744073709551616) (w:World):
  Calls Tryz.prog 80 #[.int .u64 a,.int .u64 b] w fun e w'=> e= .returned (.tuple #[.int .u64 (sub a b),.bool (Zkc a b)])∧w=w':=by
 by_cases h:a<b
 ·rw [(Zq2 h).1,(Zq2 h).2]
  go_enter Tryz.func80,Tryz.ntmps80
  go_wp2
  go_ret2
  exact⟨rfl,rfl⟩
 ·rw [(sub_yes h).1,(sub_yes h).2]
  go_enter Tryz.func80,Tryz.ntmps80
  go_wp2
  go_ret2
  exact⟨rfl,rfl⟩
theorem fits_any (a b:Int) (ha:0≤a) (ha':a<18446744073709551616) (hb:0≤b) (hb':b<18446744073709551616) (w:World):
  Calls Tryz.prog 164 #[.int .u64 a,.int .u64 b] w fun e w'=> e= .returned (.bool (fits a b))∧w=w':=by
 have H:=Lib.hid (add_any a b ha ha' hb hb')
 by_cases h:a+b≤18446744073709551615
 ·rw [(add_yes h).1,(add_yes h).2] at H
  go_enter Tryz.func164,Tryz.ntmps164
  go_wp2_with (go_at_call 71;refine(H.out _).mono ?_;rintro e w' ⟨rfl,rfl⟩)
  go_ret
  exact⟨rfl,rfl⟩
 ·rw [(Ziu h).1,(Ziu h).2] at H
  have e:fits a b=false:=by unfold fits;simp;omega
  rw [e];clear e
  go_enter Tryz.func164,Tryz.ntmps164
  go_wp2_with (go_at_call 71;refine(H.out _).mono ?_;rintro e w' ⟨rfl,rfl⟩)
  go_ret
  exact⟨rfl,rfl⟩
end Sat
end Go.Proofs.YtjamiaamngalgaaGreat
namespace Go.Proofs.YtjamiaamngalgaaGreat.Cmp
abbrev Rows:=List (List Int)
def big:Int:=18446744073709551615
def pos (t:List Int) (seed:Int) (k:List UInt8) (n i:Nat):Nat:=(Hash.slot (Hash.key t (Hash.rowSeed seed i) k) n).toNat
theorem pos_lt (t:List Int) (seed:Int) (k:List UInt8) (n i:Nat) (h:0<n):pos t seed k n i<n:=by
 unfold pos Hash.slot
 rw [if_neg (by omega)]
 have h1:=Int.emod_lt_of_pos (Hash.key t (Hash.rowSeed seed i) k) (show(0:Int)<n by omega)
 have h2:=Int.emod_nonneg (Hash.key t (Hash.rowSeed seed i) k) (show(n:Int)≠0 by omega)
 omega
def cell (R:Rows) (i j:Nat):Int:=(R.getD i []).getD j 0
def val (R:Rows) (t:List Int) (seed:Int) (k:List UInt8) (i:Nat):Int:=if (R.getD i []).length=0 then 0 else cell R i (pos t seed k (R.getD i []).length i)
def least (R:Rows) (t:List Int) (seed:Int) (k:List UInt8):Nat→Int
 | 0=> big
 | i+1=> min (least R t seed k i) (val R t seed k i)
def put (R:Rows) (i j:Nat) (v:Int):Rows:=R.set i ((R.getD i []).set j v)
def raise (R:Rows) (t:List Int) (seed:Int) (k:List UInt8) (v:Int):Nat→Rows
 | 0=> R
 | i+1=> put (raise R t seed k v i) i (pos t seed k (R.getD i []).length i) (max (val R t seed k i) v)
def Fine (R:Rows) (d n:Nat) (total:Int):Prop:=R.length=d∧(∀i,i<d→(R.getD i []).length=n)∧∀i j,0≤cell R i j∧cell R i j≤total
theorem put_len (R:Rows) (i j:Nat) (v:Int):(put R i j v).length=R.length:=by simp [put]
theorem put_row (R:Rows) (i j:Nat) (v:Int) (m:Nat):(put R i j v).getD m []=if m=i∧i<R.length then(R.getD i []).set j v else R.getD m []:=by
 unfold put
 simp only [List.getD,List.getElem?_set]
 by_cases h:i=m
 ·subst h
  by_cases h2:i<R.length <;> simp [h2]
 ·rw [if_neg h,if_neg (fun hh=> h hh.1.symm)]
theorem Zny (R:Rows) (i j:Nat) (v:Int) (a b:Nat):cell (put R i j v) a b=if a=i∧i<R.length∧b=j∧j<(R.getD i []).length then v else cell R a b:=by
 unfold cell
 rw [put_row]
 by_cases h:a=i∧i<R.length
 ·rw [if_pos h]
  obtain⟨rfl,h2⟩:=h
  simp only [List.getD,List.getElem?_set]
  by_cases h3:j=b
  ·subst h3
   by_cases h4:j<(R[a]?.getD []).length
   ·have h5:j<R[a].length:=by simpa [h2] using h4
    simp [h5,h2]
   ·have h5:¬j<R[a].length:=by simpa [h2] using h4
    simp [h5,h2,List.getElem?_eq_none (Nat.not_lt.1 h5)]
  ·rw [if_neg h3,if_neg (fun hh=> h3 hh.2.2.1.symm)]
 ·rw [if_neg h,if_neg (fun hh=> h ⟨hh.1,hh.2.1⟩)]
section
variable {R:Rows} {t:List Int} {seed:Int} {k:List UInt8} {v:Int}
theorem Zg1 (i:Nat):(raise R t seed k v i).length=R.length:=by
 induction i with
 | zero=> rfl
 | succ i ih=> rw [raise,put_len,ih]
theorem raise_row_ge (i m:Nat) (h:i≤m):(raise R t seed k v i).getD m []=R.getD m []:=by
 induction i with
 | zero=> rfl
 | succ i ih=> rw [raise,put_row,if_neg (by omega),ih (by omega)]
theorem Zf3 (i m:Nat):((raise R t seed k v i).getD m []).length=(R.getD m []).length:=by
 induction i with
 | zero=> rfl
 | succ i ih=>
   rw [raise,put_row]
   split
   ·rename_i h
    rw [List.length_set,raise_row_ge i i (Nat.le_refl _),h.1]
   ·exact ih
theorem Zja (d n i:Nat) (hR:R.length=d) (hn:∀i,i<d→(R.getD i []).length=n) (h0:0<n) (hi:i≤d) (a b:Nat):
  cell (raise R t seed k v i) a b=if a<i∧b=pos t seed k n a then max (val R t seed k a) v else cell R a b:=by
 induction i with
 | zero=> rw [if_neg (by omega)];rfl
 | succ i ih=>
   rw [raise,Zny,Zg1,raise_row_ge i i (Nat.le_refl _),hn i (by omega),ih (by omega)]
   have hp:=pos_lt t seed k n i h0
   by_cases h1:a=i∧b=pos t seed k n i
   ·obtain⟨rfl,rfl⟩:=h1
    rw [if_pos ⟨rfl,by omega,rfl,hp⟩,if_pos ⟨by omega,rfl⟩]
   ·rw [if_neg (fun hh=> h1 ⟨hh.1,hh.2.2.1⟩)]
    by_cases h2:a<i∧b=pos t seed k n a
    ·rw [if_pos h2,if_pos ⟨by omega,h2.2⟩]
    ·rw [if_neg h2]
     by_cases h3:a<i+1∧b=pos t seed k n a
     ·exfalso
      have:a=i:=by
       by_cases h4:a<i
       ·exact absurd ⟨h4,h3.2⟩ h2
       ·omega
      subst this
      exact h1 ⟨rfl,h3.2⟩
     ·rw [if_neg h3]
theorem val_of (d n:Nat) (hn:∀i,i<d→(R.getD i []).length=n) (h0:0<n) (i:Nat) (hi:i<d):val R t seed k i=cell R i (pos t seed k n i):=by
 unfold val;rw [hn i hi,if_neg (by omega)]
theorem Zog (d:Nat) (i:Nat) (hi:i<d):least R t seed k d≤val R t seed k i:=by
 induction d with
 | zero=> omega
 | succ d ih=>
   rw [least]
   by_cases h:i=d
   ·subst h;omega
   ·have:=ih (by omega);omega
theorem Zoh (d:Nat) (x:Int) (hx:x≤big) (h:∀i,i<d→x≤val R t seed k i):x≤least R t seed k d:=by
 induction d with
 | zero=> exact hx
 | succ d ih=>
   rw [least]
   have:=ih (fun i hi=> h i (by omega))
   have:=h d (by omega)
   omega
theorem least_big (d:Nat):least R t seed k d≤big:=by
 induction d with
 | zero=> exact Int.le_refl _
 | succ d ih=> rw [least];omega
theorem least_bd {d n:Nat} {total:Int} (h:Fine R d n total) (h0:0<n) (hd:0<d):0≤least R t seed k d∧least R t seed k d≤total:=by
 obtain⟨h1,h2,h3⟩:=h
 constructor
 ·refine Zoh d 0 (by unfold big;omega) (fun i hi=> ?_)
  rw [val_of d n h2 h0 i hi];exact(h3 _ _).1
 ·refine Int.le_trans (Zog d 0 hd) ?_
  rw [val_of d n h2 h0 0 hd];exact(h3 _ _).2
theorem fine_raise {d n:Nat} {total w:Int} (h:Fine R d n total) (h0:0<n) (hd:0<d) (hw:0≤w) (i:Nat) (hi:i≤d):
  Fine (raise R t seed k (least R t seed k d+w) i) d n (total+w):=by
 have hl:=least_bd (t:=t) (seed:=seed) (k:=k) h h0 hd
 obtain⟨h1,h2,h3⟩:=h
 refine⟨by rw [Zg1,h1],fun j hj=> by rw [Zf3,h2 j hj],fun a b=> ?_⟩
 rw [Zja d n i h1 h2 h0 hi]
 split
 ·rename_i hh
  rw [val_of d n h2 h0 a (by omega)]
  have:=h3 a (pos t seed k n a)
  omega
 ·have:=h3 a b;omega
end
def addE (k:List UInt8) (w total:Int):Int:=if k= [] then 3 else if w=0 then 1 else if total+w≤9223372036854775808 then 0 else 12
def news (d n:Nat):Rows:=List.replicate d (List.replicate n 0)
theorem fine_news (d n:Nat):Fine (news d n) d n 0:=by
 refine⟨by simp [news],fun i hi=> by simp [news,List.getD,hi],fun i j=> ?_⟩
 have:cell (news d n) i j=0:=by
  unfold cell news
  simp only [List.getD,List.getElem?_replicate]
  by_cases h:i<d <;> by_cases h2:j<n <;> simp [h,h2,List.getElem?_replicate]
 rw [this];omega
end Go.Proofs.YtjamiaamngalgaaGreat.Cmp
namespace Go.Proofs.YtjamiaamngalgaaGreat
open Go.RowKit
theorem Zmy (w:World) (n:Nat) (hn:n≤1):Calls Tryz.prog 261 #[.int .u64 n] w fun e w'=> e= .returned (.int .i64 n)∧w'=w:=by
 rcases(show n=0∨n=1 by omega) with rfl | rfl
 ·go_enter Tryz.func261,Tryz.ntmps261
  go_wp2_with fail
  go_ret
  refine⟨?_,rfl⟩
  kernel_rfl
 ·go_enter Tryz.func261,Tryz.ntmps261
  go_wp2_with fail
  go_ret
  refine⟨?_,rfl⟩
  kernel_rfl
theorem Zhr (w:World) (n:Nat) (hn:n≤1):Calls Tryz.prog 207 #[.int .u64 n] w fun e w'=> e= .returned (.int .i64 n)∧w'=w:=by
 go_enter Tryz.func207,Tryz.ntmps207
 go_wp2_with fail
 refine(Zmy w n hn).mono ?_
 rintro e w2 ⟨rfl,rfl⟩
 go_wp2_with fail
 go_ret
 exact⟨rfl,rfl⟩
theorem Ztq (w:World) (A:Option Addr) (n c:Nat) (hn:n≤1) (f:Value):Calls Tryz.prog 266 #[.slice A n c,.int .i64 0,.int .i64 n,f] w fun e w'=> e= .returned (.tuple #[])∧w'=w:=by
 have h1:¬((1:Int)<(n:Int)):=by omega
 go_enter Tryz.func266,Tryz.ntmps266
 go_wp2_with fail
 go_loopw [8] (fun v wr=> v= .int .i64 1∧wr=w) (fun _ _=> 0)
 case atStart=> exact⟨by first | rfl | kernel_rfl,rfl⟩
 case round=>
  obtain⟨rfl,rfl⟩:=hrel
  go_wp2_with fail
  go_end0
  exact⟨rfl,rfl⟩
theorem Ztp (w:World) (A:Option Addr) (n c:Nat) (hn:n≤1) (lim:Int) (f:Value):Calls Tryz.prog 215 #[.slice A n c,.int .i64 0,.int .i64 n,.int .i64 lim,f] w fun e w'=> e= .returned (.tuple #[])∧w'=w:=by
 have h1:(n:Int)≤12:=by omega
 have h2:IntKind.i64.wrap (n:Int)=n:=by rw [IntKind.wrap_i64];omega
 go_enter Tryz.func215,Tryz.ntmps215
 go_wp2_with fail
 go_loopw [1,2,3,10,11] (fun p q r s t wr=> p= .int .i64 0∧q= .int .i64 n∧r= .int .i64 lim∧s= .bool true∧t= .bool true∧wr=w) (fun _ _ _ _ _ _=> 0)
 case atStart=> exact⟨rfl,rfl,rfl,rfl,rfl,rfl⟩
 case round=>
  obtain⟨rfl,rfl,rfl,rfl,rfl,rfl⟩:=hrel
  go_wp2_with fail
  refine(Ztq _ A n c hn f).mono ?_
  rintro e w2 ⟨rfl,rfl⟩
  go_wp2_with fail
  refine bodyPost_ret (v:= .tuple #[]) (by simp [results,Tryz.results215,go_sem]) rfl ?_
  exact⟨rfl,rfl⟩
theorem Zqx (w:World) (A:Option Addr) (n c:Nat) (hn:n≤1) (f:Value):Calls Tryz.prog 168 #[.slice A n c,f] w fun e w'=> e= .returned (.tuple #[])∧w'=w:=by
 have h2:IntKind.u64.wrap (n:Int)=n:=by rw [IntKind.wrap_u64];omega
 go_enter Tryz.func168,Tryz.ntmps168
 go_wp2_with fail
 refine(Zhr w n hn).mono ?_
 rintro e w2 ⟨rfl,rfl⟩
 go_wp2_with fail
 refine(Ztp w2 A n c hn _ f).mono ?_
 rintro e w3 ⟨rfl,rfl⟩
 go_wp2_with fail
 go_end0
 exact⟨rfl,rfl⟩
theorem Zuz (w:World) (A:Option Addr) (n c:Nat) (hn:n≤1) (f:Value):Calls Tryz.prog 293 #[.slice A n c,.int .i64 0,.int .i64 n,f] w fun e w'=> e= .returned (.tuple #[])∧w'=w:=by
 have h1:¬((1:Int)<(n:Int)):=by omega
 go_enter Tryz.func293,Tryz.ntmps293
 go_wp2_with fail
 go_loopw [8] (fun v wr=> v= .int .i64 1∧wr=w) (fun _ _=> 0)
 case atStart=> exact⟨by first | rfl | kernel_rfl,rfl⟩
 case round=>
  obtain⟨rfl,rfl⟩:=hrel
  go_wp2_with fail
  go_end0
  exact⟨rfl,rfl⟩
theorem Zuy (w:World) (A:Option Addr) (n c:Nat) (hn:n≤1) (lim:Int) (f:Value):Calls Tryz.prog 241 #[.slice A n c,.int .i64 0,.int .i64 n,.int .i64 lim,f] w fun e w'=> e= .returned (.tuple #[])∧w'=w:=by
 have h1:(n:Int)≤12:=by omega
 have h2:IntKind.i64.wrap (n:Int)=n:=by rw [IntKind.wrap_i64];omega
 go_enter Tryz.func241,Tryz.ntmps241
 go_wp2_with fail
 go_loopw [1,2,3,10,11] (fun p q r s t wr=> p= .int .i64 0∧q= .int .i64 n∧r= .int .i64 lim∧s= .bool true∧t= .bool true∧wr=w) (fun _ _ _ _ _ _=> 0)
 case atStart=> exact⟨rfl,rfl,rfl,rfl,rfl,rfl⟩
 case round=>
  obtain⟨rfl,rfl,rfl,rfl,rfl,rfl⟩:=hrel
  go_wp2_with fail
  refine(Zuz _ A n c hn f).mono ?_
  rintro e w2 ⟨rfl,rfl⟩
  go_wp2_with fail
  refine bodyPost_ret (v:= .tuple #[]) (by simp [results,Tryz.results241,go_sem]) rfl ?_
  exact⟨rfl,rfl⟩
theorem Zsy (w:World) (A:Option Addr) (n c:Nat) (hn:n≤1) (f:Value):Calls Tryz.prog 195 #[.slice A n c,f] w fun e w'=> e= .returned (.tuple #[])∧w'=w:=by
 have h2:IntKind.u64.wrap (n:Int)=n:=by rw [IntKind.wrap_u64];omega
 go_enter Tryz.func195,Tryz.ntmps195
 go_wp2_with fail
 refine(Zhr w n hn).mono ?_
 rintro e w2 ⟨rfl,rfl⟩
 go_wp2_with fail
 refine(Zuy w2 A n c hn _ f).mono ?_
 rintro e w3 ⟨rfl,rfl⟩
 go_wp2_with fail
 go_end0
 exact⟨rfl,rfl⟩
theorem Ztt (w:World) (A:Option Addr) (n c:Nat) (hn:n≤1):Calls Tryz.prog 251 #[.slice A n c,.int .i64 0,.int .i64 n] w fun e w'=> e= .returned (.tuple #[])∧w'=w:=by
 have h1:¬((1:Int)<(n:Int)):=by omega
 go_enter Tryz.func251,Tryz.ntmps251
 go_wp2_with fail
 go_loopw [6] (fun v wr=> v= .int .i64 1∧wr=w) (fun _ _=> 0)
 case atStart=> exact⟨by first | rfl | kernel_rfl,rfl⟩
 case round=>
  obtain⟨rfl,rfl⟩:=hrel
  go_wp2_with fail
  go_end0
  exact⟨rfl,rfl⟩
theorem Zts (w:World) (A:Option Addr) (n c:Nat) (hn:n≤1) (lim:Int):Calls Tryz.prog 206 #[.slice A n c,.int .i64 0,.int .i64 n,.int .i64 lim] w fun e w'=> e= .returned (.tuple #[])∧w'=w:=by
 have h1:(n:Int)≤12:=by omega
 have h2:IntKind.i64.wrap (n:Int)=n:=by rw [IntKind.wrap_i64];omega
 go_enter Tryz.func206,Tryz.ntmps206
 go_wp2_with fail
 go_loopw [1,2,3,8,9] (fun p q r s t wr=> p= .int .i64 0∧q= .int .i64 n∧r= .int .i64 lim∧s= .bool true∧t= .bool true∧wr=w) (fun _ _ _ _ _ _=> 0)
 case atStart=> exact⟨rfl,rfl,rfl,rfl,rfl,rfl⟩
 case round=>
  obtain⟨rfl,rfl,rfl,rfl,rfl,rfl⟩:=hrel
  go_wp2_with fail
  refine(Ztt _ A n c hn).mono ?_
  rintro e w2 ⟨rfl,rfl⟩
  go_wp2_with fail
  refine bodyPost_ret (v:= .tuple #[]) (by simp [results,Tryz.results206,go_sem]) rfl ?_
  exact⟨rfl,rfl⟩
theorem Zh1 (w:World) (A:Option Addr) (n c:Nat) (hn:n≤1):Calls Tryz.prog 141 #[.slice A n c] w fun e w'=> e= .returned (.tuple #[])∧w'=w:=by
 have h2:IntKind.u64.wrap (n:Int)=n:=by rw [IntKind.wrap_u64];omega
 go_enter Tryz.func141,Tryz.ntmps141
 go_wp2_with fail
 refine(Zhr w n hn).mono ?_
 rintro e w2 ⟨rfl,rfl⟩
 go_wp2_with fail
 refine(Zts w2 A n c hn _).mono ?_
 rintro e w3 ⟨rfl,rfl⟩
 go_wp2_with fail
 go_end0
 exact⟨rfl,rfl⟩
open Go.RowKit
namespace Varint
open Vp
theorem Zvw:∀b:Fin 256,(b.val ||| 128)=b.val % 128+128:=by decide+kernel
theorem Zuf (z:Int) (hz:0≤z):bits .or .u8 (z % 256) 128=(((z.toNat % 128+128).toUInt8.toNat:Nat):Int):=by
 rw [Zbm _ (by omega)]
 have h:=u8_or_nat (z.toNat % 256) 128 (by omega) (by omega)
 rw [show((z.toNat % 256:Nat):Int)=z % 256 from by omega] at h
 refine h.trans ?_
 have:=Zvw ⟨z.toNat % 256,by omega⟩
 simp only at this
 rw [this]
 omega
def Zn7 (w:World) (l:List UInt8) (e:Ending) (w':World):Prop:=
 ∃(A:Option Addr) (n c:Nat),n=l.length∧e= .returned (.slice A n c)∧Own w' w.heap.size 5 1 A n c (l.map by8)∧Keeps NO w w'
theorem append_any (l:List UInt8) (A:Option Addr) (m c B:Nat) (w:World) (hr:Rd w B A 1 m (l.map by8)) (hB:B≤w.heap.size) (hm:m≤140737488351232) (x:Int) (x0:0≤x) (x1:x<18446744073709551616):
  Calls Tryz.prog 54 #[.slice A m c,.int .u64 x] w (Zn7 w (l++enc x.toNat)):=by
 have hl:l.length=m:=by simpa using hr.1
 have hnew:=Own.new w w.heap.size 5 #[] 0 1 (Nat.le_refl _) (by simp [maxLen]) rfl
 have hrn:Rd (w.alloc (.cells #[] 5)) B A 1 m (l.map by8):=hr.kept ((Kz0 NO w).alloc _) (fun _ _ h=> h)
 have hkn:Keeps NO w (w.alloc (.cells #[] 5)):=(Kz0 _ w).alloc _
 go_enter Tryz.func54,Tryz.ntmps54
 go_wp2_with (at_builtin;refine Za5 _ Zbu rfl (.tmp 6) (.tmp 7) rfl w.heap.size _ rfl hnew B _ rfl hrn (Zb4 l) (by simp [maxLen];omega) (by omega) (by simp) ?_;intro A1 c1 w1 hown1 hk1 hA1)
 have hX:Hid (x.toNat<128 ^ (9+1)):=by show x.toNat<128 ^ (9+1);omega
 have O1:=zz (show Own w1 w.heap.size 5 1 A1 m c1 (l.map by8) by simpa using hown1)
 have K1:=zz (hkn.step hk1 (fun k h=> by rw [Za0];omega))
 clear hown1 hk1 hA1 hnew hrn hkn
 go_loopw [1,5] (fun nv ov wr=> ∃(y:Int) (f:Nat) (pre:List UInt8) (A':Option Addr) (k c':Nat),nv= .int .u64 y∧ov= .slice A' k c'∧k≤m+9-f∧f≤9∧0≤y∧y<18446744073709551616∧Hid (y.toNat<128 ^ (f+1))∧Hid (pre++encF f y.toNat=l++enc x.toNat∧k=pre.length)∧
   Own wr w.heap.size 5 1 A' k c' (pre.map by8)∧Keeps NO w wr) (fun nv _ _=> (intOf nv).toNat)
 case atStart=> exact⟨x,9,l,A1,m,c1,rfl,rfl,by omega,by omega,x0,x1,hX,⟨rfl,hl.symm⟩,O1.out,K1.out⟩
 case round=>
  obtain⟨y,f,pre,A',k,c',rfl,rfl,hk,hf,hy0,hy,HY,HP,hown,hkeep⟩:=hrel
  clear hX
  by_cases h128:128≤y
  ·have e1:=Zuf y hy0
   have hstep:Hid (1≤f∧encF f y.toNat=(y.toNat % 128+128).toUInt8 :: encF (f-1) (y / 128).toNat∧(y / 128).toNat<128 ^ (f-1+1)):=by
    have h:=HY.out
    obtain⟨g,rfl⟩:∃g,f=g+1:=by
     cases f with
     | zero=> omega
     | succ g=> exact⟨g,rfl⟩
    have e2:(y / 128).toNat=y.toNat / 128:=by omega
    refine⟨by omega,?_,?_⟩
    ·rw [encF,if_neg (by omega),e2];rfl
    ·rw [e2];rw [Nat.pow_succ] at h;simp only [Nat.add_sub_cancel];omega
   obtain⟨q,hq⟩:∃q:UInt8,q=(y.toNat % 128+128).toUInt8:=⟨_,rfl⟩
   rw [←hq] at e1 hstep
   clear hq
   have hkeep':=zz hkeep
   have hown':=zz hown
   clear hkeep hown
   go_wp2_with (at_builtin; (refine Za5 _ Zbu rfl (.tmp 11) (.tmp 15) rfl w.heap.size (pre.map by8) rfl (by exact hown'.out.kept ((Kz0 NO _).alloc _) (fun _ _ h=> h)) _ [by8 q] rfl (by exact Blk.rd (xs:= [by8 q]) (Blk.new _ _ _) rfl) (Zb4 [q]) (by simp [maxLen];omega) (by omega) (by have:=hkeep'.out.size;simp;omega) ?_);intro A2 c2 w2 hown2 hk2 hA2)
   have K2:=zz (hkeep'.out.step (((Kz0 (fun k=> w.heap.size≤k) wr).alloc _).step hk2 (fun k _ h=> by
    have:=(hown'.out.inB h).1;omega)) (fun k hk h=> by omega))
   have O2:=zz hown2
   clear hown2 hk2 hA2 hkeep' hown' e1
   go_wp2_with fail
   go_roundw
   case rel=>
    have h1:=hstep.out
    have h2:=HP.out
    refine⟨y / 128,f-1,pre++ [q],A2,k+1,c2,by go_num,rfl,by omega,by omega,by omega,by omega,h1.2.2,⟨?_,by simp;omega⟩,by simpa using O2.out,K2.out⟩
    rw [←h2.1,h1.2.1];simp
   case measure=> simp [intOf];omega
  ·have e1:IntKind.u8.wrap y=((y.toNat.toUInt8.toNat:Nat):Int):=by rw [Zbm _ (by omega),IntKind.wrap_u8];omega
   have hfin:Hid (encF f y.toNat= [y.toNat.toUInt8]):=by
    show encF f y.toNat=_
    cases f with
    | zero=> rfl
    | succ f=> rw [encF,if_pos (by omega)]
   obtain⟨q,hq⟩:∃q:UInt8,q=y.toNat.toUInt8:=⟨_,rfl⟩
   rw [←hq] at e1 hfin
   clear hq
   have hkeep':=zz hkeep
   have hown':=zz hown
   clear hkeep hown
   go_wp2_with (at_builtin; (refine Za5 _ Zbu rfl (.tmp 19) (.tmp 22) rfl w.heap.size (pre.map by8) rfl (by exact hown'.out.kept ((Kz0 NO _).alloc _) (fun _ _ h=> h)) _ [by8 q] rfl (by exact Blk.rd (xs:= [by8 q]) (Blk.new _ _ _) rfl) (Zb4 [q]) (by simp [maxLen];omega) (by omega) (by have:=hkeep'.out.size;simp;omega) ?_);intro A2 c2 w2 hown2 hk2 hA2)
   have K2:=zz (hkeep'.out.step (((Kz0 (fun k=> w.heap.size≤k) wr).alloc _).step hk2 (fun k _ h=> by
    have:=(hown'.out.inB h).1;omega)) (fun k hk h=> by omega))
   have O2:=zz hown2
   clear hown2 hk2 hA2 hkeep' hown' e1
   go_wp2_with fail
   go_ret
   have h2:=HP.out
   refine⟨A2,k+1,c2,?_,rfl,?_,K2.out⟩
   ·rw [←h2.1,hfin.out];simp;omega
   ·rw [←h2.1,hfin.out];simpa using O2.out
end Varint
open Go.RowKit
namespace Varint
open Vp
def out (l:List UInt8):Value:= .tuple #[.int .u64 ((Zam l).1:Nat),.int .i64 ((Zam l).2.1:Nat),.int .i64 ((Zam l).2.2:Nat)]
theorem Zf8 {l:List UInt8} (h:scan l 10=10):out l= .tuple #[.int .u64 0,.int .i64 0,.int .i64 3]:=by unfold out Zam;rw [if_pos h];rfl
theorem Zl5 {l:List UInt8} (h1:scan l 10≠10) (h:scan l 10=l.length):out l= .tuple #[.int .u64 0,.int .i64 0,.int .i64 2]:=by unfold out Zam;rw [if_neg h1,if_pos h];rfl
theorem Zl6 {l:List UInt8} (h1:scan l 10≠10) (h:scan l 10≠l.length) (hb:bad l (scan l 10)):out l= .tuple #[.int .u64 0,.int .i64 0,.int .i64 3]:=by unfold out Zam;rw [if_neg h1,if_neg h,if_pos hb];rfl
theorem Zu9 {l:List UInt8} (h1:scan l 10≠10) (h:scan l 10≠l.length) (hb:¬bad l (scan l 10)):
  out l= .tuple #[.int .u64 (val (l.take (scan l 10+1)):Nat),.int .i64 (scan l 10+1:Nat),.int .i64 0]:=by unfold out Zam;rw [if_neg h1,if_neg h,if_neg hb];rfl
theorem Ztm (l:List UInt8) (k:Nat) (hk:k<l.length) (h9:k<9∨(k=9∧(l.getD k 0).toNat % 128≤1)):
  bits .or .u64 (val (l.take k):Nat) (IntKind.u64.wrap (((l.getD k 0).toNat:Int) % 128*2 ^ (7*k)))=(val (l.take (k+1)):Nat):=by
 have e:l[k]=l.getD k 0:=by simp [List.getD,hk]
 rw [List.take_succ_eq_append_getElem hk,Zew,e]
 have hv:=Zpy (l.take k)
 rw [List.length_take,Nat.min_eq_left (by omega)] at hv ⊢
 generalize val (l.take k)=v at*
 generalize (l.getD k 0).toNat=g at*
 have ep:(2:Nat) ^ (7*k)=128 ^ k:=by rw [Nat.pow_mul]
 have hb:128 ^ k*(g % 128)<18446744073709551616:=by
  rcases h9 with h | ⟨h,hg⟩
  ·have h5:128 ^ k≤128 ^ 8:=Nat.pow_le_pow_right (by omega) (by omega)
   have h6:128 ^ k*(g % 128)≤128 ^ 8*127:=Nat.mul_le_mul h5 (by omega)
   omega
  ·subst h
   have:128 ^ 9*(g % 128)≤128 ^ 9*1:=Nat.mul_le_mul (Nat.le_refl _) hg
   omega
 have hb2:128 ^ k<18446744073709551616:=by
  have:128 ^ k≤128 ^ 9:=Nat.pow_le_pow_right (by omega) (by omega)
  omega
 have ec:((g:Int) % 128*2 ^ (7*k))=((128 ^ k*(g % 128):Nat):Int):=by
  rw [←ep,Int.natCast_mul,Int.natCast_pow,Int.mul_comm,Int.natCast_emod];rfl
 rw [ec,IntKind.wrap_u64,show((128 ^ k*(g % 128):Nat):Int) % 18446744073709551616=((128 ^ k*(g % 128):Nat):Int) by omega,
  u64_or_nat _ _ (by omega) hb]
 congr 1
 rw [Nat.or_comm,nat_join (7*k) _ _ (by rw [ep,Nat.mul_mod_right]) (by rw [ep];exact hv),Nat.add_comm]
theorem Zqo (g:Nat) (h:g<256):bits .andNot .u8 (g:Int) 128=(g:Int) % 128:=by
 have:=u8_andNot_nat g 128 h (by omega)
 rw [show(255-128:Nat)=127 from rfl,nat_mask7] at this
 exact this.trans (by omega)
theorem read_any (l:List UInt8) (A:Option Addr) (m c B:Nat) (w:World) (hr:Rd w B A 1 m (l.map by8)) (hm:m≤140737488355328):
  Calls Tryz.prog 111 #[.slice A m c] w fun e w'=> e= .returned (out l)∧w=w':=by
 have hl:l.length=m:=by simpa using hr.1
 have hsl:=Zey l 10
 go_enter Tryz.func111,Tryz.ntmps111
 go_wp2
 go_loop [2,5,6] (fun n i _=> ∃k:Nat,k≤10∧k≤m∧i= .int .i64 k∧n= .int .u64 (val (l.take k):Nat)∧k≤scan l 10) (fun _ i _=> 10-(intOf i).toNat)
 case atStart=> exact⟨0,by omega,by omega,rfl,rfl,by omega⟩
 case round=>
  obtain⟨k,hk,hkm,rfl,rfl,hks⟩:=hrel
  have hys:=fun j hj=> Zdp l 10 j hj
  by_cases hkl:k<m
  ·obtain⟨b,off,rfl,_,hcs⟩:=hr.2 (by omega)
   have hcell:=hcs k (by8 (l.getD k 0)) (by simp [List.getD,show k<l.length by omega])
   have hg:=(l.getD k 0).toNat_lt
   have hand:=Zqo _ hg
   have HV:=fun h=> zz (Ztm l k (by omega) h)
   have hup:128≤(l.getD k 0).toNat→k<10→k+1≤scan l 10:=fun h1 h2=> by
    rcases Nat.lt_or_ge (scan l 10) (k+1) with h | h
    ·have e:scan l 10=k:=by omega
     have:=Zh3 l 10 (by omega) (by omega)
     rw [e] at this;omega
    ·exact h
   have hdn:(l.getD k 0).toNat<128→scan l 10=k:=fun h1=> by
    rcases Nat.lt_or_ge k (scan l 10) with h | h
    ·have:=hys k h;omega
    ·omega
   have HB:Hid (bad l k ↔ (k=9∧1<(l.getD k 0).toNat)∨(0<k∧(l.getD k 0).toNat=0)):=Iff.rfl
   simp only [by8] at hcell
   obtain⟨g,hgg⟩:∃g,g=(l.getD k 0).toNat:=⟨_,rfl⟩
   rw [←hgg] at hcell hg hand hup hdn HV HB
   clear hgg hcs hys hr
   by_cases hk10:k<10
   ·by_cases hb:9≤k∧1<g % 128
    ·have FIN:Hid (out l= .tuple #[.int .u64 0,.int .i64 0,.int .i64 3]):=by
      rcases Nat.lt_or_ge g 128 with h | h
      ·exact Zl6 (by have:=hdn h;omega) (by have:=hdn h;omega) (by rw [hdn h,HB.out];omega)
      ·exact Zf8 (by have:=hup h hk10;omega)
     have h9:((k:Int)==9)=true:=by simp;omega
     have hb2:(1:Int)<(g:Int) % 128:=by omega
     clear HV hup hdn hb HB
     go_wp2
     go_ret3
     exact⟨by rw [FIN.out];rfl,rfl⟩
    ·have HVv:=HV (by omega)
     have hvb:=Zdg (wf_bits .or .u64 (val (l.take k):Nat) (IntKind.u64.wrap ((g:Int) % 128*2 ^ (7*k))))
     have h9:(((k:Int)==9)=true∧(g:Int) % 128≤1)∨((k:Int)==9)=false:=by
      by_cases h:k=9
      ·exact .inl ⟨by simp;omega,by omega⟩
      ·exact .inr (by simp;omega)
     have hb7:Hid (k<9∨(9≤k∧g % 128≤1)):=by show _∨_;omega
     have hsh:7*k<64:=by omega
     clear hb
     rcases Nat.lt_or_ge g 128 with hc | hc
     ·have hsc:=hdn hc
      by_cases hz:g=0∧0<k
      ·have FIN:Hid (out l= .tuple #[.int .u64 0,.int .i64 0,.int .i64 3]):=Zl6 (by omega) (by omega) (by rw [hsc,HB.out];omega)
       have hz0:((g:Int)==0)=true:=by simp;omega
       have hk0:=hz.2
       clear HV hup hdn hsc HVv hz HB
       rcases h9 with ⟨h9,hg1⟩ | h9
       all_goals
        go_wp2
        go_ret3
        exact⟨by rw [FIN.out];rfl,rfl⟩
      ·have FIN:Hid (out l= .tuple #[.int .u64 (val (l.take (k+1)):Nat),.int .i64 ((k:Int)+1),.int .i64 0]):=by
        have h7:=hb7.out
        have:=Zu9 (l:=l) (by omega) (by omega) (by rw [hsc,HB.out];omega)
        rw [hsc] at this
        exact this
       have hz0:((g:Int)==0)=false∨(((g:Int)==0)=true∧decide (0<k)=false):=by
        by_cases h:g=0
        ·exact .inr ⟨by simp;omega,by simp;omega⟩
        ·exact .inl (by simp;omega)
       clear HV hup hdn hsc hz HB
       rcases hz0 with hz0 | ⟨hz0,hk0⟩
       all_goals
        rcases h9 with ⟨h9,hg1⟩ | h9
        all_goals
         go_wp2
         go_ret3
         exact⟨by rw [FIN.out,←HVv.out];rfl,rfl⟩
     ·have hc':(128:Int)≤(g:Int):=by omega
      have hk1:=hup hc hk10
      clear HV hup hdn HB
      rcases h9 with ⟨h9,hg1⟩ | h9
      all_goals
       go_wp2
       go_round
       case rel=> exact⟨k+1,by omega,by omega,by go_num,by rw [←HVv.out],by omega⟩
       case measure=> simp [intOf];omega
   ·have hk10':10≤k:=by omega
    have FIN:Hid (out l= .tuple #[.int .u64 0,.int .i64 0,.int .i64 3]):=Zf8 (by omega)
    clear HV hup hdn HB hk10
    go_wp2
    go_ret3
    exact⟨by rw [FIN.out];rfl,rfl⟩
  ·by_cases hk10:m<10
   ·have FIN:Hid (out l= .tuple #[.int .u64 0,.int .i64 0,.int .i64 2]):=Zl5 (by omega) (by omega)
    clear hys hr
    go_wp2
    go_ret3
    exact⟨by rw [FIN.out];rfl,rfl⟩
   ·have FIN:Hid (out l= .tuple #[.int .u64 0,.int .i64 0,.int .i64 3]):=Zf8 (by omega)
    clear hys hr
    go_wp2
    go_ret3
    exact⟨by rw [FIN.out];rfl,rfl⟩
end Varint
open Go.WideMaps Go.RowKit Go.ChangeMaps Go.MapKept Go.WideShapes Go.Maps
section
variable {κ:Type} {P:Program} {k e t:TypeId} {en:κ→Value} {w w':World} {M:Nat} {L:List (κ × Value)}
def Mp (P:Program) (k:TypeId) (en:κ→Value) (w:World) (M:Nat) (L:List (κ × Value)):Prop:=
 ∃es c,w.heap[M]?=some (.map es c)∧es.toList.map (fun e=> (e.key,e.val))=L.map (fun x=> (en x.1,x.2))∧(∀x∈L,∃l,keyOf P k (en x.1)=some l)∧(L.map fun x=> en x.1).Nodup∧Stamped es c
theorem Mp.lt (h:Mp P k en w M L):M<w.heap.size:=by
 obtain⟨es,c,h1,_⟩:=h
 exact(Array.getElem?_eq_some_iff.1 h1).1
theorem Mp.kept {S:Nat→Prop} (h:Mp P k en w M L) (kk:Keeps S w w') (hn:¬S M):Mp P k en w' M L:=by
 have hl:=h.lt
 obtain⟨es,c,h1,r⟩:=h
 exact⟨es,c,(kk.block M hl hn).trans h1,r⟩
theorem Mp.made (P:Program) (k:TypeId) (en:κ→Value) (w:World) (M:Nat) (hM:M=w.heap.size):Mp P k en (w.alloc (.map #[] 0)) M []:=
 ⟨#[],0,by rw [hM];exact heap_alloc_new w _,rfl,by simp,by simp,stamped_empty 0⟩
theorem Mp.of_empty (h:w.heap[M]?=some (.map #[] 0)):Mp P k en w M []:=⟨#[],0,h,rfl,by simp,by simp,stamped_empty 0⟩
theorem Mp.ne_blk {g:Nat} {ty:TypeId} {cs:Array Value} (h:Mp P k en w M L) (h':Blk w g ty cs):M≠g:=by
 rintro rfl
 obtain⟨es,c,h1,_⟩:=h
 unfold Blk at h'
 rw [h1] at h'
 cases h'
theorem Zds {es:Array MapEntry} (h:es.toList.map (fun e=> (e.key,e.val))=L.map (fun x=> (en x.1,x.2))) {x:MapEntry} (hx:x∈es.toList):∃y∈L,x.key=en y.1∧x.val=y.2:=by
 have:(x.key,x.val)∈L.map (fun x=> (en x.1,x.2)):=by rw [←h];exact List.mem_map.2 ⟨x,hx,rfl⟩
 obtain⟨y,hy,e1⟩:=List.mem_map.1 this
 injection e1 with e1 e2
 exact⟨y,hy,e1.symm,e2.symm⟩
theorem Zmf {es:Array MapEntry} (h:es.toList.map (fun e=> (e.key,e.val))=L.map (fun x=> (en x.1,x.2))) {i:Nat} {x:MapEntry} (hx:es.toList[i]?=some x):∃y,L[i]?=some y∧x.key=en y.1∧x.val=y.2:=by
 have h1:=congrArg (fun l=> l[i]?) h
 simp only [List.getElem?_map,hx,Option.map_some] at h1
 cases hy:L[i]? with
 | none=> rw [hy] at h1;cases h1
 | some y=>
   rw [hy] at h1
   simp only [Option.map_some,Option.some.injEq,Prod.mk.injEq] at h1
   exact⟨y,rfl,h1.1,h1.2⟩
theorem Zo6 (hd:(L.map fun x=> en x.1).Nodup) {i j:Nat} {x y:κ × Value} (hx:L[i]?=some x) (hy:L[j]?=some y) (he:en x.1=en y.1):i=j:=by
 obtain⟨hi,hx'⟩:=List.getElem?_eq_some_iff.1 hx
 obtain⟨hj,hy'⟩:=List.getElem?_eq_some_iff.1 hy
 refine(List.getElem_inj (xs:=L.map fun x=> en x.1) (h₀:=by simpa using hi) (h₁:=by simpa using hj) hd).1 ?_
 simp only [List.getElem_map,hx',hy',he]
theorem Mp.find_no (h:Mp P k en w M L) (K:Keyed P k) {a:κ} (hk:∃l,keyOf P k (en a)=some l) (hn:∀x∈L,en x.1≠en a):
  ∃es c,w.heap[M]?=some (.map es c)∧es.toList.map (fun e=> (e.key,e.val))=L.map (fun x=> (en x.1,x.2))∧Stamped es c∧(Instr.findKey k (en a) es.toList).run P w= .ok none w∧(∀x∈es.toList,x.key≠en a):=by
 obtain⟨es,c,h1,h2,h3,h4,h5⟩:=h
 obtain⟨l,hl⟩:=hk
 rcases K.find w hl es.toList (fun x hx=> by obtain⟨y,hy,e1,_⟩:=Zds h2 hx;rw [e1];exact h3 y hy) with ⟨f1,f2⟩ | ⟨j,x,f1,f2,f3⟩
 ·exact⟨es,c,h1,h2,h5,f1,f2⟩
 ·obtain⟨y,hy,e1,_⟩:=Zds h2 (List.mem_of_getElem? f2)
  exact absurd (e1.symm.trans f3) (hn y hy)
theorem Mp.find_yes (h:Mp P k en w M L) (K:Keyed P k) {i:Nat} {x:κ × Value} (hx:L[i]?=some x):
  ∃es c,w.heap[M]?=some (.map es c)∧es.toList.map (fun e=> (e.key,e.val))=L.map (fun x=> (en x.1,x.2))∧Stamped es c∧(Instr.findKey k (en x.1) es.toList).run P w= .ok (some (i,x.2)) w∧i<es.size∧(∃y,es[i]?=some y∧y.key=en x.1):=by
 obtain⟨es,c,h1,h2,h3,h4,h5⟩:=h
 obtain⟨l,hl⟩:=h3 x (List.mem_of_getElem? hx)
 rcases K.find w hl es.toList (fun x hx=> by obtain⟨y,hy,e1,_⟩:=Zds h2 hx;rw [e1];exact h3 y hy) with ⟨f1,f2⟩ | ⟨j,y,f1,f2,f3⟩
 ·have h6:=congrArg (fun l=> l[i]?) h2
  simp only [List.getElem?_map,hx,Option.map_some] at h6
  cases hy:es.toList[i]? with
  | none=> rw [hy] at h6;cases h6
  | some y=>
    rw [hy] at h6
    simp only [Option.map_some,Option.some.injEq,Prod.mk.injEq] at h6
    exact absurd h6.1 (f2 y (List.mem_of_getElem? hy))
 ·obtain⟨y',hy',e1,e2⟩:=Zmf h2 f2
  have hij:=Zo6 h4 hy' hx (e1.symm.trans f3)
  subst hij
  rw [hx] at hy'
  cases hy'
  refine⟨es,c,h1,h2,h5,by rw [f1,e2],by have:=(List.getElem?_eq_some_iff.1 f2).1;simpa using this,y,by simpa using f2,f3⟩
theorem Mp.look_no (h:Mp P k en w M L) (K:Keyed P k) (ht:P.underlying t=some (.map k e)) {z:Value} (hz:(zeroValue e).run P w= .ok z w) {a:κ} (hk:∃l,keyOf P k (en a)=some l) (hn:∀x∈L,en x.1≠en a) (b:Bool):
  (Instr.lookup t (.map (some M)) (en a) b).run P w= .ok (if b then .tuple #[z,.bool false] else z) w:=by
 obtain⟨es,c,h1,h2,h5,f1,f2⟩:=h.find_no K hk hn
 obtain⟨l,hl⟩:=hk
 simp [Instr.lookup,run_underlying ht,MapKept.run_getObj_map h1,K.check w _ hl,f1,hz,Result.andThen]
theorem Mp.look_yes (h:Mp P k en w M L) (K:Keyed P k) (ht:P.underlying t=some (.map k e)) {i:Nat} {x:κ × Value} (hx:L[i]?=some x) (b:Bool):
  (Instr.lookup t (.map (some M)) (en x.1) b).run P w= .ok (if b then .tuple #[x.2,.bool true] else x.2) w:=by
 obtain⟨l,hl⟩:∃l,keyOf P k (en x.1)=some l:=by obtain⟨_,_,_,_,h3,_⟩:=h;exact h3 x (List.mem_of_getElem? hx)
 obtain⟨es,c,h1,h2,h5,f1,f2⟩:=h.find_yes K hx
 simp [Instr.lookup,run_underlying ht,MapKept.run_getObj_map h1,K.check w _ hl,f1,Result.andThen]
theorem Zby (w:World) (M:Nat) (o:Obj):Keeps (· =M) w (setBlock w M o):=
 ⟨rfl,rfl,rfl,by simp [setBlock],fun i _ hi=> by simp only [setBlock];exact Array.getElem?_setIfInBounds_ne (fun e=> hi e.symm)⟩
theorem Mp.put_no (h:Mp P k en w M L) (K:Keyed P k) (ht:P.underlying t=some (.map k e)) {a:κ} (hk:∃l,keyOf P k (en a)=some l) (hn:∀x∈L,en x.1≠en a) (v:Value):
  ∃w',(Instr.mapUpdate t (.map (some M)) (en a) v).run P w= .ok () w'∧Mp P k en w' M (L++ [(a,v)])∧Keeps (· =M) w w':=by
 have h4:(L.map fun x=> en x.1).Nodup:=by obtain⟨_,_,_,_,_,h4,_⟩:=h;exact h4
 have h3:∀x∈L,∃l,keyOf P k (en x.1)=some l:=by obtain⟨_,_,_,_,h3,_⟩:=h;exact h3
 obtain⟨es,c,h1,h2,h5,f1,f2⟩:=h.find_no K hk hn
 have hk':=hk
 obtain⟨l,hl⟩:=hk
 refine⟨setBlock w M (.map (es.push ⟨en a,v,c⟩) (c+1)),?_,⟨_,_,heap_setBlock_same h1 _,?_,?_,?_,stamped_push h5 f2⟩,Zby _ _ _⟩
 ·simp [Instr.mapUpdate,run_underlying ht,MapKept.run_getObj_map h1,K.check w false hl,f1,MapKept.run_setObj_map _ h1,Result.andThen,setBlock]
 ·rw [Array.toList_push,List.map_append,List.map_append,h2]
  rfl
 ·intro x hx
  rcases List.mem_append.1 hx with hx | hx
  ·exact h3 x hx
  ·rw [List.mem_singleton.1 hx];exact hk'
 ·rw [List.map_append,List.nodup_append]
  refine⟨h4,by simp,fun y hy z hz=> ?_⟩
  obtain⟨x,hx,rfl⟩:=List.mem_map.1 hy
  simp only [List.map_cons,List.map_nil,List.mem_singleton] at hz
  rw [hz]
  exact hn x hx
theorem Mp.put_yes (h:Mp P k en w M L) (K:Keyed P k) (ht:P.underlying t=some (.map k e)) {i:Nat} {x:κ × Value} (hx:L[i]?=some x) (v:Value):
  ∃w',(Instr.mapUpdate t (.map (some M)) (en x.1) v).run P w= .ok () w'∧Mp P k en w' M (L.set i (x.1,v))∧Keeps (· =M) w w':=by
 have h4:(L.map fun x=> en x.1).Nodup:=by obtain⟨_,_,_,_,_,h4,_⟩:=h;exact h4
 have h3:∀x∈L,∃l,keyOf P k (en x.1)=some l:=by obtain⟨_,_,_,_,h3,_⟩:=h;exact h3
 obtain⟨l,hl⟩:=h3 x (List.mem_of_getElem? hx)
 obtain⟨es,c,h1,h2,h5,f1,fi,y,hy,hyk⟩:=h.find_yes K hx
 have hy':es.toList[i]?=some y:=by simpa using hy
 have hkeyf:∀e',es[i]?=some e'→({ e' with key:=en x.1,val:=v}:MapEntry).key=e'.key:=fun e' he'=> by rw [hy] at he';cases he';exact hyk.symm
 have hlist:(es.modify i (fun e'=> { e' with key:=en x.1,val:=v})).toList=es.toList.set i { y with key:=en x.1,val:=v}:=by rw [Array.toList_modify,modify_eq_set _ _ _ _ hy']
 refine⟨setBlock w M (.map (es.modify i (fun e'=> { e' with key:=en x.1,val:=v})) c),?_,⟨_,_,heap_setBlock_same h1 _,?_,?_,?_,stamped_modify h5 _ _ (fun _ _=> rfl) (fun e' _ he'=> hkeyf e' he')⟩,Zby _ _ _⟩
 ·simp [Instr.mapUpdate,run_underlying ht,MapKept.run_getObj_map h1,K.check w false hl,f1,hy,hyk,K.stays w hl,MapKept.run_setObj_map _ h1,Result.andThen,setBlock]
 ·rw [hlist,List.map_set,List.map_set,h2]
 ·intro z hz
  rcases List.mem_or_eq_of_mem_set hz with h | h
  ·exact h3 z h
  ·rw [h];exact⟨l,hl⟩
 ·have:(L.set i (x.1,v)).map (fun x=> en x.1)=L.map (fun x=> en x.1):=by
   rw [List.map_set]
   refine List.ext_getElem? fun q=> ?_
   rw [List.getElem?_set]
   split
   ·rename_i e1
    subst e1
    have hlt:=(List.getElem?_eq_some_iff.1 hx).1
    simp [hx,hlt]
    have:=(List.getElem?_eq_some_iff.1 hx).2
    rw [this]
   ·rfl
  rw [this];exact h4
theorem Mp.del_no (h:Mp P k en w M L) (K:Keyed P k) (ht:P.underlying t=some (.map k e)) {a:κ} (hk:∃l,keyOf P k (en a)=some l) (hn:∀x∈L,en x.1≠en a) (ty:TypeId):
  ∃w',(Builtin.delete_ #[t,k] ty #[.map (some M),en a]).run P w= .ok (.tuple #[]) w'∧Mp P k en w' M L∧Keeps (· =M) w w':=by
 have h4:(L.map fun x=> en x.1).Nodup:=by obtain⟨_,_,_,_,_,h4,_⟩:=h;exact h4
 have h3:∀x∈L,∃l,keyOf P k (en x.1)=some l:=by obtain⟨_,_,_,_,h3,_⟩:=h;exact h3
 obtain⟨es,c,h1,h2,h5,f1,f2⟩:=h.find_no K hk hn
 obtain⟨l,hl⟩:=hk
 refine⟨setBlock w M (.map es c),?_,⟨_,_,heap_setBlock_same h1 _,h2,h3,h4,h5⟩,Zby _ _ _⟩
 simp [Builtin.delete_,run_underlying ht,MapKept.run_getObj_map h1,K.check w _ hl,f1,MapKept.run_setObj_map _ h1,Result.andThen,setBlock]
theorem Mp.del_yes (h:Mp P k en w M L) (K:Keyed P k) (ht:P.underlying t=some (.map k e)) {i:Nat} {x:κ × Value} (hx:L[i]?=some x) (ty:TypeId):
  ∃w',(Builtin.delete_ #[t,k] ty #[.map (some M),en x.1]).run P w= .ok (.tuple #[]) w'∧Mp P k en w' M (L.eraseIdx i)∧Keeps (· =M) w w':=by
 have h4:(L.map fun x=> en x.1).Nodup:=by obtain⟨_,_,_,_,_,h4,_⟩:=h;exact h4
 have h3:∀x∈L,∃l,keyOf P k (en x.1)=some l:=by obtain⟨_,_,_,_,h3,_⟩:=h;exact h3
 obtain⟨l,hl⟩:=h3 x (List.mem_of_getElem? hx)
 obtain⟨es,c,h1,h2,h5,f1,fi,y,hy,hyk⟩:=h.find_yes K hx
 have hsub:(es.eraseIdxIfInBounds i).toList=es.toList.eraseIdx i:=by
  unfold Array.eraseIdxIfInBounds
  rw [dif_pos fi]
  simp
 refine⟨setBlock w M (.map (es.eraseIdxIfInBounds i) c),?_,⟨_,_,heap_setBlock_same h1 _,?_,?_,?_,stamped_erase h5 i⟩,Zby _ _ _⟩
 ·simp [Builtin.delete_,run_underlying ht,MapKept.run_getObj_map h1,K.check w _ hl,f1,MapKept.run_setObj_map _ h1,Result.andThen,setBlock]
 ·rw [hsub,map_eraseIdx,h2,map_eraseIdx]
 ·intro z hz
  exact h3 z ((List.eraseIdx_sublist _ _).subset hz)
 ·rw [map_eraseIdx]
  exact h4.sublist (List.eraseIdx_sublist _ _)
theorem Mp.len (h:Mp P k en w M L) (ht:P.underlying t=some (.map k e)) (ty:TypeId):(Builtin.len_ #[t] ty #[.map (some M)]).run P w= .ok (.int .i64 L.length) w:=by
 obtain⟨es,c,h1,h2,_⟩:=h
 have:es.size=L.length:=by have:=congrArg List.length h2;simpa using this
 simp [Builtin.len_,run_underlying ht,MapKept.run_getObj_map h1,goInt,Result.andThen,this]
end
abbrev enI (z:Int):Value:= .int .i64 z
abbrev enS (s:ByteArray):Value:= .string s
theorem keyI {P:Program} {k:TypeId} (hk:P.underlying k=some (.int .i64)) (z:Int) (h0: -9223372036854775808≤z) (h1:z<9223372036854775808):∃l,keyOf P k (enI z)=some l:=by
 have:(Lit.int .i64 z).wf=true:=by
  have h1:IntKind.i64.min= -9223372036854775808:=rfl
  have h2:IntKind.i64.max=9223372036854775807:=rfl
  simp only [Lit.wf,Bool.and_eq_true,decide_eq_true_eq];omega
 exact⟨.int .i64 z,by simp [keyOf,mapKey,hk,this]⟩
theorem keyS {P:Program} {k:TypeId} (hk:P.underlying k=some .string) (s:ByteArray) (hs:s.size≤281474976710656):∃l,keyOf P k (enS s)=some l:=⟨_,keyOf_string_mk hk (by simp only [maxLen];omega)⟩
open Go.RowKit
open Vp Stp
def RdP (w:World) (P:Nat→Prop) (A:Option Addr) (sz n:Nat) (xs:List Value):Prop:=
 xs.length=n*sz∧(0<n→∃b off,A=some ⟨b,off,none⟩∧P b∧b<w.heap.size∧∀j u,xs[j]?=some u→w.cell? ⟨b,off+j,none⟩=some u)
theorem RdP.kept {w w':World} {P S:Nat→Prop} {A:Option Addr} {sz n:Nat} {xs:List Value} (h:RdP w P A sz n xs) (k:Keeps S w w') (hs:∀b,P b→b<w.heap.size→¬S b):RdP w' P A sz n xs:=
 ⟨h.1,fun hn=> by obtain⟨b,off,e,hp,hl,hc⟩:=h.2 hn;exact⟨b,off,e,hp,Nat.lt_of_lt_of_le hl k.size,fun j u hu=> k.cell_some (hc j u hu) (hs b hp hl)⟩⟩
theorem RdP.weak {w:World} {P Q:Nat→Prop} {A:Option Addr} {sz n:Nat} {xs:List Value} (h:RdP w P A sz n xs) (hs:∀b,P b→b<w.heap.size→Q b):RdP w Q A sz n xs:=
 ⟨h.1,fun hn=> by obtain⟨b,off,e,hp,hl,hc⟩:=h.2 hn;exact⟨b,off,e,hs b hp hl,hl,hc⟩⟩
theorem RdP.rd {w:World} {P:Nat→Prop} {A:Option Addr} {sz n:Nat} {xs:List Value} (h:RdP w P A sz n xs):Rd w w.heap.size A sz n xs:=
 ⟨h.1,fun hn=> by obtain⟨b,off,e,hp,hl,hc⟩:=h.2 hn;exact⟨b,off,e,hl,hc⟩⟩
theorem Zrn {w:World} {base n c sz:Nat} {e:TypeId} {A:Option Addr} {xs:List Value} {P:Nat→Prop} (h:Own w base e sz A n c xs) (hp:0<sz) (hP:∀b,inB A b→P b):RdP w P A sz n xs:=
 ⟨h.1,fun hn=> by
  obtain⟨b,off,e',hl,hc⟩:=(h.rd hp).2 hn
  exact⟨b,off,e',hP b ⟨_,e',rfl⟩,hl,hc⟩⟩
def ChCells (w:World) (P:Nat→Prop):List Value→List Ch→Prop
 | [],[]=> True
 | x :: y :: r,ch :: L=> (∃A n c,x= .slice A n c∧RdP w P A 1 n (ch.body.map by8)∧n≤c)∧y= .int .i64 ch.v∧ChCells w P r L
 | _,_=> False
theorem ChCells.len {w:World} {P:Nat→Prop}:∀ {cells:List Value} {L:List Ch},ChCells w P cells L→cells.length=L.length*2
 | [],[],_=> rfl
 | _ :: _ :: r,_ :: L,h=> by have:=ChCells.len (cells:=r) (L:=L) h.2.2;simp;omega
theorem ChCells.kept {w w':World} {P S:Nat→Prop} (k:Keeps S w w') (hs:∀b,P b→b<w.heap.size→¬S b):∀ {cells:List Value} {L:List Ch},ChCells w P cells L→ChCells w' P cells L
 | [],[],_=> trivial
 | _ :: _ :: r,_ :: L,⟨⟨A,n,c,e,h⟩,h2,h3⟩=> ⟨⟨A,n,c,e,h.1.kept k hs,h.2⟩,h2,ChCells.kept k hs h3⟩
theorem ChCells.weak {w:World} {P Q:Nat→Prop} (hs:∀b,P b→b<w.heap.size→Q b):∀ {cells:List Value} {L:List Ch},ChCells w P cells L→ChCells w Q cells L
 | [],[],_=> trivial
 | _ :: _ :: r,_ :: L,⟨⟨A,n,c,e,h⟩,h2,h3⟩=> ⟨⟨A,n,c,e,h.1.weak hs,h.2⟩,h2,ChCells.weak hs h3⟩
theorem ChCells.append {w:World} {P:Nat→Prop}:∀ {cells cells2:List Value} {L L2:List Ch},ChCells w P cells L→ChCells w P cells2 L2→ChCells w P (cells++cells2) (L++L2)
 | [],_,[],_,_,h2=> h2
 | _ :: _ :: r,_,_ :: L,_,⟨h,h',h3⟩,h2=> ⟨h,h',ChCells.append h3 h2⟩
theorem ChCells.one {w:World} {P:Nat→Prop}:∀ {cells:List Value} {L:List Ch},ChCells w P cells L→∀u∈cells,u.oneCell'=true
 | [],[],_,u,hu=> by cases hu
 | x :: y :: r,ch :: L,⟨⟨A,n,c,e,_⟩,h2,h3⟩,u,hu=> by
   simp only [List.mem_cons] at hu
   rcases hu with rfl | rfl | hu
   ·rw [e];rfl
   ·rw [h2];rfl
   ·exact ChCells.one h3 u hu
theorem ChCells.at_ {w:World} {P:Nat→Prop}:∀ {cells:List Value} {L:List Ch} (i:Nat) (ch:Ch),ChCells w P cells L→L[i]?=some ch→
  ∃A n c,cells[i*2]?=some (.slice A n c)∧cells[i*2+1]?=some (.int .i64 ch.v)∧RdP w P A 1 n (ch.body.map by8)
 | [],[],_,_,_,hi=> by simp at hi
 | x :: y :: r,ch' :: L,0,ch,⟨⟨A,n,c,e,h⟩,h2,h3⟩,hi=> by
   simp at hi;subst hi
   exact⟨A,n,c,by simp [e],by simp [h2],h.1⟩
 | x :: y :: r,ch' :: L,i+1,ch,⟨_,_,h3⟩,hi=> by
   obtain⟨A,n,c,g1,g2,g3⟩:=ChCells.at_ i ch h3 (by simpa using hi)
   exact⟨A,n,c,by rw [show(i+1)*2=i*2+1+1 from by omega];simpa using g1,by rw [show(i+1)*2+1=i*2+1+1+1 from by omega];simpa using g2,g3⟩
def Fed (w:World) (base:Nat) (A:Option Addr) (r:St × List Ch) (e:Ending) (w':World):Prop:=
 ∃(A':Option Addr) (n' c':Nat) (C:Option Addr) (m mc:Nat) (cells:List Value),
  e= .returned (.tuple #[.agg #[.slice A' n' c',.int .u64 r.1.skip,.bool r.1.broken],.slice C m mc])∧Own w' base 5 1 A' n' c' (r.1.buf.map by8)∧
  (∀k,inB A' k→inB A k∨w.heap.size≤k)∧Own w' w.heap.size 164 2 C m mc cells∧ChCells w' (fun b=> w.heap.size≤b∧¬inB A' b) cells r.2∧Keeps (inB A) w w'
theorem Zbe (W:World) (g:Nat) (v0 v1 v2:Value):Keeps (· =g) W (((W.setCell ⟨g,0,none⟩ v0).setCell ⟨g,1,none⟩ v1).setCell ⟨g,2,none⟩ v2):=
 Keeps.setCell (S:=(· =g)) (p:=⟨g,2,none⟩) (Keeps.setCell (S:=(· =g)) (p:=⟨g,1,none⟩) (Keeps.setCell (S:=(· =g)) (p:=⟨g,0,none⟩) (Kz0 _ _) (.inl rfl) _) (.inl rfl) _) (.inl rfl) _
theorem Zma {w W:World} {base:Nat} {A:Option Addr} (K:Keeps (inB A) w W) (h:w.heap.size+1<W.heap.size) (hA:∀k,inB A k→k<w.heap.size) (v0 v1 v2:Value) (sk v:Int) (br:Bool):
  Fed w base A (⟨[],sk,br⟩,[⟨[],v⟩]) (.returned (.tuple #[.agg #[.slice none 0 0,.int .u64 sk,.bool br],.slice (some ⟨W.heap.size,0,none⟩) 1 1]))
   ((((W.setCell ⟨w.heap.size+1,0,none⟩ v0).setCell ⟨w.heap.size+1,1,none⟩ v1).setCell ⟨w.heap.size+1,2,none⟩ v2).alloc (.cells #[.slice none 0 0,.int .i64 v] 164)):=by
 have hz:W.heap.size=(((W.setCell ⟨w.heap.size+1,0,none⟩ v0).setCell ⟨w.heap.size+1,1,none⟩ v1).setCell ⟨w.heap.size+1,2,none⟩ v2).heap.size:=by simp [World.setCell]
 have hle:=K.size
 refine⟨none,0,0,some ⟨W.heap.size,0,none⟩,1,1,[.slice none 0 0,.int .i64 v],rfl,Own.nil _ _ _ _,fun k hk=> absurd hk (Zaj k),?_,?_,?_⟩
 ·rw [hz]
  exact Own.new _ _ 164 #[.slice none 0 0,.int .i64 v] 1 2 (by rw [←hz];omega) (by simp [maxLen]) rfl
 ·exact⟨⟨none,0,0,rfl,⟨rfl,fun h=> by omega⟩,Nat.le_refl _⟩,rfl,trivial⟩
 ·exact(((K.setCell (.inr (by show w.heap.size≤w.heap.size+1;omega)) _).setCell (.inr (by show w.heap.size≤w.heap.size+1;omega)) _).setCell (.inr (by show w.heap.size≤w.heap.size+1;omega)) _).alloc _
theorem Zih {w W:World} {base n c:Nat} {A A':Option Addr} {l:List UInt8} (K:Keeps (inB A) w W) (h:w.heap.size+1<W.heap.size) (o:Own W base 5 1 A' n c (l.map by8))
  (hA:∀k,inB A' k→inB A k∨w.heap.size+2≤k) (hN:∀k,inB A' k→k≠w.heap.size∧k≠w.heap.size+1) (v0 v1 v2:Value) (sk:Int) (br:Bool):
  Fed w base A (⟨l,sk,br⟩,[]) (.returned (.tuple #[.agg #[.slice A' n c,.int .u64 sk,.bool br],.slice none 0 0]))
   (((W.setCell ⟨w.heap.size+1,0,none⟩ v0).setCell ⟨w.heap.size+1,1,none⟩ v1).setCell ⟨w.heap.size+1,2,none⟩ v2):=by
 have hle:=K.size
 refine⟨A',n,c,none,0,0,[],rfl,?_,fun k hk=> (hA k hk).imp_right (fun h=> by omega),Own.nil _ _ _ _,trivial,?_⟩
 ·have k2:Keeps (· =w.heap.size+1) W (((W.setCell ⟨w.heap.size+1,0,none⟩ v0).setCell ⟨w.heap.size+1,1,none⟩ v1).setCell ⟨w.heap.size+1,2,none⟩ v2):=
   Zbe _ _ _ _ _
  exact o.kept k2 (fun b hb e=> (hN b hb).2 e)
 ·exact((K.setCell (.inr (by show w.heap.size≤w.heap.size+1;omega)) _).setCell (.inr (by show w.heap.size≤w.heap.size+1;omega)) _).setCell (.inr (by show w.heap.size≤w.heap.size+1;omega)) _
theorem Zp4 {w W:World} {base n c:Nat} {A A':Option Addr} {l:List UInt8} (K:Keeps (inB A) w W) (h:w.heap.size+1<W.heap.size) (o:Own W (w.heap.size+2) 5 1 A' n c (l.map by8))
  (v0 v1 v2:Value):
  Fed w base A (⟨[],0,false⟩,[⟨l,0⟩]) (.returned (.tuple #[.agg #[.slice none 0 0,.int .u64 0,.bool false],.slice (some ⟨W.heap.size,0,none⟩) 1 1]))
   ((((W.setCell ⟨w.heap.size+1,0,none⟩ v0).setCell ⟨w.heap.size+1,1,none⟩ v1).setCell ⟨w.heap.size+1,2,none⟩ v2).alloc (.cells #[.slice A' n c,.int .i64 0] 164)):=by
 have hz:W.heap.size=(((W.setCell ⟨w.heap.size+1,0,none⟩ v0).setCell ⟨w.heap.size+1,1,none⟩ v1).setCell ⟨w.heap.size+1,2,none⟩ v2).heap.size:=by simp [World.setCell]
 have hle:=K.size
 have k2:Keeps (· =w.heap.size+1) W ((((W.setCell ⟨w.heap.size+1,0,none⟩ v0).setCell ⟨w.heap.size+1,1,none⟩ v1).setCell ⟨w.heap.size+1,2,none⟩ v2).alloc (.cells #[.slice A' n c,.int .i64 0] 164)):=
  (Zbe _ _ _ _ _).alloc _
 have o2:=o.kept k2 (fun b hb e=> by have:=o.inB hb;omega)
 refine⟨none,0,0,some ⟨W.heap.size,0,none⟩,1,1,[.slice A' n c,.int .i64 0],rfl,Own.nil _ _ _ _,fun k hk=> absurd hk (Zaj k),?_,?_,?_⟩
 ·rw [hz]
  exact Own.new _ _ 164 #[.slice A' n c,.int .i64 0] 1 2 (by rw [←hz];omega) (by simp [maxLen]) rfl
 ·exact⟨⟨A',n,c,rfl,Zrn o2 (by omega) (fun b hb=> ⟨by have:=o.inB hb;omega,Zaj b⟩),o.le⟩,rfl,trivial⟩
 ·exact(((K.setCell (.inr (by show w.heap.size≤w.heap.size+1;omega)) _).setCell (.inr (by show w.heap.size≤w.heap.size+1;omega)) _).setCell (.inr (by show w.heap.size≤w.heap.size+1;omega)) _).alloc _
theorem Zp3 (s:St) (hg:Stp.Good s) (A:Option Addr) (n c base:Nat) (w:World) (own:Own w base 5 1 A n c (s.buf.map by8)) (hB:base≤w.heap.size) (x:UInt8):
  Calls Tryz.prog 110 #[.agg #[.slice A n c,.int .u64 s.skip,.bool s.broken],.int .u8 (x.toNat:Int)] w (Fed w base A (Zba s x)):=by
 obtain⟨buf,skip,broken⟩:=s
 have hln:buf.length=n:=by simpa using own.len
 obtain⟨g0,g1,g2⟩:=hg
 simp only at g0 g1 g2 own ⊢
 have OWN:=zz own
 have HL:=zz hln
 clear own hln
 cases broken
 case true=>
  have F:Hid (Zba ⟨buf,skip,true⟩ x=(⟨buf,skip,true⟩,[])):=by simp [Hid,Zba]
  rw [F.out]
  clear F g2
  go_enter Tryz.func110,Tryz.ntmps110
  go_wp2_with fail
  refine bodyPost_ret (v:= .tuple #[.agg #[.slice A n c,.int .u64 skip,.bool true],.slice none 0 0]) (by simp [results,Tryz.results110,go_sem]) rfl ?_
  have K:=(((Kz0 (inB A) w).alloc (.cells #[.slice A n c,.int .u64 skip,.bool true] 121)).alloc (.cells #[.slice A n c,.int .u64 skip,.bool true] 121))
  have K':=(((Kz0 NO w).alloc (.cells #[.slice A n c,.int .u64 skip,.bool true] 121)).alloc (.cells #[.slice A n c,.int .u64 skip,.bool true] 121))
  exact⟨A,n,c,none,0,0,[],rfl,OWN.out.kept K' (fun _ _ h=> h),fun k h=> .inl h,Own.nil _ _ _ _,trivial,K⟩
 case false=>
  have hinc:=g2 rfl
  have hlt:=Zuq _ hinc
  have HINC:=zz hinc
  clear g2 hinc
  by_cases hsk:0<skip
  ·have F:Hid (Zba ⟨buf,skip,false⟩ x=(⟨buf,skip-1,false⟩,[])):=by simp [Hid,Zba,hsk]
   rw [F.out]
   clear F
   go_enter Tryz.func110,Tryz.ntmps110
   go_wp2_with fail
   refine bodyPost_ret (v:= .tuple #[.agg #[.slice A n c,.int .u64 (skip-1),.bool false],.slice none 0 0]) (by simp [results,Tryz.results110,go_sem]) rfl ?_
   have K:=(((Kz0 (inB A) w).alloc (.cells #[.slice A n c,.int .u64 (skip-1),.bool false] 121)).alloc (.cells #[.slice A n c,.int .u64 (skip-1),.bool false] 121))
   have K':=(((Kz0 NO w).alloc (.cells #[.slice A n c,.int .u64 (skip-1),.bool false] 121)).alloc (.cells #[.slice A n c,.int .u64 (skip-1),.bool false] 121))
   exact⟨A,n,c,none,0,0,[],rfl,OWN.out.kept K' (fun _ _ h=> h),fun k h=> .inl h,Own.nil _ _ _ _,trivial,K⟩
  ·have hsk0:skip≤0:=by omega
   have hA:∀k,inB A k→base≤k∧k<w.heap.size:=fun k h=> OWN.out.inB h
   have hln:=HL.out
   have hn:n≤4097:=by omega
   have he:=Zkz (buf++ [x])
   have hok:=Zf6 (buf++ [x])
   obtain⟨pn,pu,pe,ho⟩:∃a b e:Int,a=((Zam (buf++ [x])).1:Nat)∧b=((Zam (buf++ [x])).2.1:Nat)∧e=((Zam (buf++ [x])).2.2:Nat):=⟨_,_,_,rfl,rfl,rfl⟩
   have hout:Varint.out (buf++ [x])= .tuple #[.int .u64 pn,.int .i64 pu,.int .i64 pe]:=by unfold Varint.out;rw [ho.1,ho.2.1,ho.2.2]
   have HO:=zz ho
   have HOUT:=zz hout
   have HOK:=zz hok
   have HA:=zz hA
   clear ho hout hok hA hln
   have he':pe=0∨pe=2∨pe=3:=by have:=HO.out.2.2;omega
   clear he
   go_enter Tryz.func110,Tryz.ntmps110
   go_wp2_with (first
    | (at_builtin
       refine Za5 _ Zbu rfl (.tmp 23) (.tmp 25) rfl base _ rfl (by exact OWN.out.kept ((((Kz0 NO w).alloc _).alloc _).alloc _) (fun _ _ h=> h)) _ [by8 x] rfl (by exact Blk.rd (xs:= [by8 x]) (Blk.new_at _ _ _ _ (by simp)) rfl) (Zb4 [x]) (by simp only [maxLen];omega) (by omega) (by simp;omega) ?_
       intro A2 c2 w2 o2 k2 hA2
       have B1:Blk w2 w.heap.size 121 #[.slice A n c,.int .u64 skip,.bool false]:=(((Blk.new w _ _).alloc _).alloc _).kept k2 (fun h=> by have:=HA.out _ h;omega)
       have B2:Blk w2 (w.heap.size+1) 121 #[.slice none 0 0,.int .u64 0,.bool false]:=((Blk.new_at _ _ _ _ (by simp)).alloc _).kept k2 (fun h=> by have:=HA.out _ h;omega)
       obtain⟨⟨c10,c11,c12⟩,⟨f10,f11,f12⟩,_⟩:=B1.three
       obtain⟨⟨c20,c21,c22⟩,⟨f20,f21,f22⟩,hsz2⟩:=B2.three
       have OO:=zz o2
       have KK:=zz k2
       have HA2:=zz hA2
       have BB1:=zz B1
       have BB2:=zz B2
       clear o2 k2 hA2 B1 B2))
   obtain⟨W,hW⟩:∃W,W=w2.setCell ⟨w.heap.size,0,none⟩ (.slice A2 (n+1) c2):=⟨_,rfl⟩
   rw [←hW]
   have hna:∀k,inB A2 k→k≠w.heap.size∧k≠w.heap.size+1:=fun k h=> by
    rcases HA2.out k h with h | h
    ·have:=HA.out k h;omega
    ·simp at h;omega
   have KW:Keeps (· =w.heap.size) w2 W:=by rw [hW];exact Keeps.setCell (S:=(· =w.heap.size)) (p:=⟨w.heap.size,0,none⟩) (Kz0 _ _) (.inl rfl) _
   have O3:Own W base 5 1 A2 (n+1) c2 ((buf++ [x]).map by8):=by rw [List.map_append];exact OO.out.kept KW (fun k h e=> (hna k h).1 e)
   have B1:Blk W w.heap.size 121 #[.slice A2 (n+1) c2,.int .u64 skip,.bool false]:=by rw [hW];exact BB1.out.set 0 _
   have B2:Blk W (w.heap.size+1) 121 #[.slice none 0 0,.int .u64 0,.bool false]:=BB2.out.kept KW (by omega)
   have K3:Keeps (inB A) w W:=((((((Kz0 (inB A) w).alloc _).alloc _).alloc _).trans KK.out).step KW (fun k hk e=> by omega))
   have HA3:∀k,inB A2 k→inB A k∨w.heap.size+2≤k:=fun k h=> by
    rcases HA2.out k h with h | h
    ·exact .inl h
    ·simp at h;exact .inr (by omega)
   clear hW KW OO BB1 BB2 HA2 KK c10 c11 c12 f10 f11 f12 c20 c21 c22 f20 f21 f22 hsz2
   refine(Varint.read_any (buf++ [x]) A2 (n+1) c2 _ W (O3.rd (by omega)) (by omega)).mono ?_
   rintro e w3 ⟨rfl,rfl⟩
   rw [HOUT.out]
   obtain⟨⟨c10,c11,c12⟩,⟨f10,f11,f12⟩,_⟩:=B1.three
   obtain⟨⟨c20,c21,c22⟩,⟨f20,f21,f22⟩,hsz2⟩:=B2.three
   have O3':=zz O3
   have K3':=zz K3
   have HA3':=zz HA3
   have HNA:=zz hna
   clear O3 K3 HA3 hna
   have hle3:=O3'.out.le
   have hpn:0≤pn:=by rw [HO.out.1];omega
   have hpu:0≤pu:=by rw [HO.out.2.1];omega
   rcases he' with rfl | rfl | rfl
   ·have hok:=HOK.out (by have:=HO.out.2.2;omega)
    have hpu1:1≤pu∧pu≤n+1:=by
     have h1:=hok.1
     have h2:=hok.2.1
     have h3:=HL.out
     rw [HO.out.2.1]
     simp at h2
     omega
    have hpnx:pn<18446744073709551616:=by rw [HO.out.1];have:=hok.2.2.2;omega
    clear hok
    have hF:(Zba ⟨buf,skip,false⟩ x)=if 4096<pn then(⟨[],pn,false⟩,[⟨[],2⟩]) else if (n:Int)+1-pu<pn then(⟨buf++ [x],skip,false⟩,[]) else(⟨[],0,false⟩,[⟨(buf++ [x]).drop pu.toNat,0⟩]):=by
     have h1:=HO.out
     have h2:=HL.out
     have h3:(buf++ [x]).length=buf.length+1:=by simp
     unfold Zba
     dsimp only
     rw [if_neg (by simp),if_neg (by simpa using hsk0),if_neg (by omega),if_neg (by omega)]
     rw [h3]
     by_cases hb:4096<pn
     ·rw [if_pos (by omega),if_pos hb,←h1.1]
     ·rw [if_neg (by omega),if_neg hb]
      by_cases hm:(n:Int)+1-pu<pn
      ·rw [if_pos (by omega),if_pos hm]
      ·rw [if_neg (by omega),if_neg hm,h1.2.1];simp
    have HF:=zz hF
    clear hF
    by_cases hbig:4096<pn
    ·go_wp2_with fail
     refine bodyPost_ret (v:= .tuple #[.agg #[.slice none 0 0,.int .u64 pn,.bool false],.slice (some ⟨W.heap.size,0,none⟩) 1 1]) (by simp [results,Tryz.results110,go_sem,c20,c21,c22,hsz2]) rfl ?_
     rw [HF.out,if_pos hbig]
     exact Zma K3'.out hsz2 (fun k h=> (HA.out k h).2) _ _ _ _ _ _
    ·by_cases hmore:(n:Int)+1-pu<pn
     ·go_wp2_with fail
      refine bodyPost_ret (v:= .tuple #[.agg #[.slice A2 (n+1) c2,.int .u64 skip,.bool false],.slice none 0 0]) (by simp [results,Tryz.results110,go_sem,c20,c21,c22,hsz2]) rfl ?_
      rw [HF.out,if_neg (by omega),if_pos hmore]
      exact Zih K3'.out hsz2 O3'.out HA3'.out HNA.out _ _ _ _ _
     ·obtain⟨g,rfl,hg1,hg2⟩:=O3'.out.some_ (by omega)
      obtain⟨A4,hsl,hsr,hsb⟩:=Zcr Zbu (some ⟨g,0,none⟩) (n+1) c2 .i64 pu hpu (by omega) hle3
      have RD4:Hid (Rd W W.heap.size A4 1 (n+1-pu.toNat) (((buf++ [x]).drop pu.toNat).map by8)):=by
       have:=hsr W _ _ (O3'.out.rd (by omega))
       rw [Nat.mul_one,←List.map_drop] at this
       exact this
      clear hsr hsb
      go_wp2_with (first
       | (at_builtin
          refine Za5 _ Zbu rfl (.tmp 63) (.tmp 67) rfl W.heap.size _ rfl (Own.new _ _ 5 #[] 0 1 (Nat.le_refl _) (by simp [maxLen]) rfl) W.heap.size (m:=n+1-pu.toNat) _ rfl (RD4.out.kept ((Kz0 NO W).alloc _) (fun _ _ h=> h)) (Zb4 _) (by simp [maxLen];omega) (by omega) (by simp) ?_
          intro A5 c5 w5 o5 k5 hA5
          have B5:Blk w5 (w.heap.size+1) 121 #[.slice none 0 0,.int .u64 0,.bool false]:=(B2.alloc _).kept k5 (fun h=> by have:=(Za0 _ _ _).1 h;omega)
          obtain⟨⟨c50,c51,c52⟩,⟨f50,f51,f52⟩,hsz5⟩:=B5.three
          rw [Nat.zero_add,List.nil_append] at o5
          have O5:=zz o5
          have K5:=zz k5
          have HA5:=zz hA5
          clear o5 k5 hA5 B5))
      refine bodyPost_ret (v:= .tuple #[.agg #[.slice none 0 0,.int .u64 0,.bool false],.slice (some ⟨w5.heap.size,0,none⟩) 1 1]) (by simp [results,Tryz.results110,go_sem,c50,c51,c52,hsz5]) rfl ?_
      rw [HF.out,if_neg (by omega),if_neg (by omega)]
      exact Zp4 ((K3'.out.alloc _).step K5.out (fun k hk e=> by have:=(Za0 _ _ _).1 e;omega)) hsz5 (O5.out.base_le (by omega)) _ _ _
   ·go_wp2_with fail
    have hF:(Zba ⟨buf,skip,false⟩ x)=(⟨buf++ [x],skip,false⟩,[]):=by
     have h1:=HO.out
     unfold Zba
     dsimp only
     rw [if_neg (by simp),if_neg (by simpa using hsk0),if_neg (by omega),if_pos (by omega)]
    refine bodyPost_ret (v:= .tuple #[.agg #[.slice A2 (n+1) c2,.int .u64 skip,.bool false],.slice none 0 0]) (by simp [results,Tryz.results110,go_sem,c20,c21,c22,hsz2]) rfl ?_
    rw [hF]
    exact Zih K3'.out hsz2 O3'.out HA3'.out HNA.out _ _ _ _ _
   ·have hF:(Zba ⟨buf,skip,false⟩ x)=(⟨[],0,true⟩,[⟨[],1⟩]):=by
     have h1:=HO.out
     unfold Zba
     dsimp only
     rw [if_neg (by simp),if_neg (by simpa using hsk0),if_pos (by omega)]
    have HF:=zz hF
    clear hF
    go_wp2_with fail
    refine bodyPost_ret (v:= .tuple #[.agg #[.slice none 0 0,.int .u64 0,.bool true],.slice (some ⟨W.heap.size,0,none⟩) 1 1]) (by simp [results,Tryz.results110,go_sem,c20,c21,c22,hsz2]) rfl ?_
    rw [HF.out]
    exact Zma K3'.out hsz2 (fun k h=> (HA.out k h).2) _ _ _ _ _ _
open Go.RowKit
open Vp Stp
theorem Zv5:ElemOf Tryz.prog 160 164 2 32:=ElemOf.mk' (z:= .agg #[.slice none 0 0,.int .i64 0]) Tryz.underlying160 (by kernel_rfl) rfl (by omega)
def FedL (w:World) (r:St × List Ch) (e:Ending) (w':World):Prop:=
 ∃(A':Option Addr) (n' c':Nat) (C:Option Addr) (m mc:Nat) (cells:List Value),
  e= .returned (.tuple #[.agg #[.slice A' n' c',.int .u64 r.1.skip,.bool r.1.broken],.slice C m mc])∧Own w' w.heap.size 5 1 A' n' c' (r.1.buf.map by8)∧
  Own w' w.heap.size 164 2 C m mc cells∧ChCells w' (fun b=> w.heap.size≤b) cells r.2∧Keeps NO w w'
theorem ChCells.at_c {w:World} {P:Nat→Prop}:∀ {cells:List Value} {L:List Ch} (i:Nat) (ch:Ch),ChCells w P cells L→L[i]?=some ch→
  ∃A n c,cells[i*2]?=some (.slice A n c)∧cells[i*2+1]?=some (.int .i64 ch.v)∧RdP w P A 1 n (ch.body.map by8)∧n≤c
 | [],[],_,_,_,hi=> by simp at hi
 | x :: y :: r,ch' :: L,0,ch,⟨⟨A,n,c,e,h⟩,h2,h3⟩,hi=> by
   simp at hi;subst hi
   exact⟨A,n,c,by simp [e],by simp [h2],h.1,h.2⟩
 | x :: y :: r,ch' :: L,i+1,ch,⟨_,_,h3⟩,hi=> by
   obtain⟨A,n,c,g1,g2,g3⟩:=ChCells.at_c i ch h3 (by simpa using hi)
   exact⟨A,n,c,by rw [show(i+1)*2=i*2+1+1 from by omega];simpa using g1,by rw [show(i+1)*2+1=i*2+1+1+1 from by omega];simpa using g2,g3⟩
theorem Zpu (s:St) (hg:Stp.Good s) (hsb:s.buf.length≤100000) (A:Option Addr) (n c B:Nat) (w:World) (hr:Rd w B A 1 n (s.buf.map by8)) (hB:B≤w.heap.size) (l:List UInt8) (A2:Option Addr) (n2 c2 B2:Nat)
  (hr2:Rd w B2 A2 1 n2 (l.map by8)) (hB2:B2≤w.heap.size) (hn2:n2≤140737488351232) (hch:(Zbc s l).2.length≤1000000):
  Calls Tryz.prog 55 #[.agg #[.slice A n c,.int .u64 s.skip,.bool s.broken],.slice A2 n2 c2] w (FedL w (Zbc s l)):=by
 have hln:s.buf.length=n:=by simpa using hr.1
 have hll:l.length=n2:=by simpa using hr2.1
 obtain⟨buf,skip,broken⟩:=s
 have hgood:=hg
 obtain⟨g0,g1,g2⟩:=hg
 simp only at g0 g1 g2 hsb hln hr ⊢
 have HR:=zz hr
 have HR2:=zz hr2
 have HL:=zz hln
 have HLL:=zz hll
 have hn:n≤100000:=by omega
 have HG:=zz hgood
 have HCH:=zz hch
 clear hr hr2 hln hll g2 hgood hch
 go_enter Tryz.func55,Tryz.ntmps55
 go_wp2_with (first
  | (at_builtin
     refine Za5 _ Zbu rfl (.tmp 11) (.tmp 13) rfl w.heap.size _ rfl (Own.new0 _ _ 5 1 _ (by simp) (by omega)) _ (m:=n) _ rfl (HR.out.kept ((((Kz0 NO w).alloc _).alloc _).alloc _) (fun _ _ h=> h)) (Zb4 _) (by simp [maxLen];omega) (by omega) (by first | omega | (simp;done) | (simp;omega)) ?_
     intro A5 c5 w5 o5 k5 hA5
     have B1:Blk w5 w.heap.size 121 #[.slice A n c,.int .u64 skip,.bool broken]:=((((Blk.new w _ _).alloc _).alloc _)).kept k5 (fun h=> by have:=(Za0 _ _ _).1 h;omega)
     have B2:Blk w5 (w.heap.size+1) 121 #[.slice none 0 0,.int .u64 0,.bool false]:=((Blk.new_at _ _ _ _ (by simp)).alloc _).kept k5 (fun h=> by have:=(Za0 _ _ _).1 h;omega)
     obtain⟨⟨c10,c11,c12⟩,⟨f10,f11,f12⟩,_⟩:=B1.three
     obtain⟨⟨c20,c21,c22⟩,⟨f20,f21,f22⟩,hsz2⟩:=B2.three
     rw [Nat.zero_add,List.nil_append] at o5
     have O5:=zz o5
     have K5:=zz k5
     have HA5:=zz hA5
     have BB1:=zz B1
     have BB2:=zz B2
     clear o5 k5 hA5 B1 B2))
 obtain⟨W,hW⟩:∃W,W=w5.setCell ⟨w.heap.size,0,none⟩ (.slice A5 n c5):=⟨_,rfl⟩
 rw [←hW]
 have hA5:∀k,inB A5 k→w.heap.size+2≤k:=fun k h=> by
  rcases HA5.out k h with h | h
  ·have:=(Za0 _ _ _).1 h;omega
  ·simp at h;omega
 have KW:Keeps (· =w.heap.size) w5 W:=by rw [hW];exact Keeps.setCell (S:=(· =w.heap.size)) (p:=⟨w.heap.size,0,none⟩) (Kz0 _ _) (.inl rfl) _
 have B1:Blk W w.heap.size 121 #[.slice A5 n c5,.int .u64 skip,.bool broken]:=by rw [hW];exact BB1.out.set 0 _
 have B2:Blk W (w.heap.size+1) 121 #[.slice none 0 0,.int .u64 0,.bool false]:=BB2.out.kept KW (by omega)
 have K6:Keeps NO w W:=((((((Kz0 _ w).alloc _).alloc _).alloc _).step K5.out (fun k hk h=> by have:=(Za0 _ _ _).1 h;omega))).step KW (fun k hk h=> by omega)
 have O6:Own W (w.heap.size+2) 5 1 A5 n c5 (buf.map by8):=by
  have:=O5.out.kept KW (fun k h e=> by have:=hA5 k h;omega)
  refine⟨this.1,?_⟩
  rcases this.2 with h | ⟨g,cap,cur,hv,hb,r⟩
  ·exact .inl h
  ·exact .inr ⟨g,cap,cur,hv,by injection hv with h1;exact hA5 g ⟨_,h1,rfl⟩,r⟩
 have hWs:=B2.lt
 have hch:∀k,(Zbc ⟨buf,skip,broken⟩ (l.take k)).2.length≤1000000:=fun k=> by
  have h1:=HCH.out
  have h2:=Zdj ⟨buf,skip,broken⟩ (l.take k) (l.drop k)
  rw [List.take_append_drop] at h2
  rw [h2] at h1
  simp at h1
  omega
 have HC:=zz hch
 have HK6:=zz K6
 have HO6:=zz O6
 have HB1:=zz B1
 have HB2:=zz B2
 clear hA5 KW B1 B2 K6 O6 hch HCH HA5 O5 K5 BB1 BB2 c10 c11 c12 f10 f11 f12 c20 c21 c22 f20 f21 f22 hsz2 hW
 go_loopw [6,18] (fun out i wr=> ∃(k:Nat) (bf:List UInt8) (sk:Int) (br:Bool) (chs:List Ch) (A:Option Addr) (n c:Nat) (C:Option Addr) (m mc:Nat) (cells:List Value),k≤n2∧i= .int .i64 k∧out= .slice C m mc∧
   Hid (Zbc ⟨buf,skip,broken⟩ (l.take k)=(⟨bf,sk,br⟩,chs))∧Blk wr w.heap.size 121 #[.slice A n c,.int .u64 sk,.bool br]∧Blk wr (w.heap.size+1) 121 #[.slice none 0 0,.int .u64 0,.bool false]∧
   Own wr (w.heap.size+2) 5 1 A n c (bf.map by8)∧Own wr (w.heap.size+2) 164 2 C m mc cells∧ChCells wr (fun b=> w.heap.size+2≤b∧¬inB A b∧¬inB C b) cells chs∧Keeps NO w wr) (fun _ i _=> n2-(intOf i).toNat)
 case atStart=>
  exact⟨0,buf,skip,broken,[],A5,n,c5,none,0,0,[],by omega,rfl,rfl,rfl,HB1.out,HB2.out,HO6.out,Own.nil _ _ _ _,trivial,HK6.out⟩
 case round=>
  obtain⟨k,bf,sk,br,chs,A,n,c,C,m,mc,cells,hk,rfl,rfl,HF,B1,B2,o1,oc,ch,kp⟩:=hrel
  have hgd:Stp.Good ⟨bf,sk,br⟩:=by
   have:=Zjq ⟨buf,skip,broken⟩ (l.take k) HG.out
   rwa [HF.out] at this
  have hcn:=HC.out k
  rw [HF.out] at hcn
  have hcl:=ch.len
  have hm:m=chs.length:=by have:=oc.len;omega
  have hm1:m≤1000000:=by rw [hm];exact hcn
  obtain⟨⟨c10,c11,c12⟩,⟨f10,f11,f12⟩,_⟩:=B1.three
  obtain⟨⟨c20,c21,c22⟩,⟨f20,f21,f22⟩,hsz2⟩:=B2.three
  have RP:=zz (HR2.out.kept kp (fun _ _ h=> h))
  have HGD:=zz hgd
  have HB1:=zz B1
  have HB2:=zz B2
  have HO1:=zz o1
  have HOC:=zz oc
  have HCHS:=zz ch
  have HM:=zz hm
  have HKP:=zz kp
  clear hgd B1 B2 o1 oc ch hcn hcl hm kp
  by_cases hlt:k<n2
  ·obtain⟨b,off,rfl,_,hc⟩:=RP.out.2 (by omega)
   have hx:=hc k (by8 (l.getD k 0)) (by have:=HLL.out;simp [List.getD,show k<l.length by omega])
   have HSN:Hid (Zbc ⟨buf,skip,broken⟩ (l.take (k+1))=((Zba ⟨bf,sk,br⟩ (l.getD k 0)).1,chs++(Zba ⟨bf,sk,br⟩ (l.getD k 0)).2)):=by
    have h1:=HLL.out
    have h2:l.take (k+1)=l.take k++ [l.getD k 0]:=by rw [List.take_succ_eq_append_getElem (by omega)];simp [List.getD,show k<l.length by omega]
    show Zbc _ _=_
    rw [h2,Zdb,HF.out]
   generalize l.getD k 0=x at*
   have HFD:=zz (fun W o h=> Zp3 ⟨bf,sk,br⟩ HGD.out A n c (w.heap.size+2) W o h x)
   generalize Zba ⟨bf,sk,br⟩ x=q at*
   obtain⟨⟨bf2,sk2,br2⟩,chs2⟩:=q
   simp only [by8] at hx
   clear hc
   go_wp2_with fail
   refine(HFD.out _ HO1.out (by first | exact hsz2 | (simp;omega))).mono ?_
   rintro e w1 ⟨A',n',c',C2,m2,mc2,cells2,rfl,o',hA',oc2,ch2,k1⟩
   have hcl2:=ch2.len
   dsimp only at hcl2 o' ch2
   have hm2:m2=chs2.length:=by have:=oc2.len;omega
   have hmm:m+m2≤1000000:=by
    have h1:=HC.out (k+1)
    rw [HSN.out] at h1
    simp at h1
    have:=HM.out
    omega
   have hA0:∀k,inB A k→w.heap.size+2≤k∧k<wr.heap.size:=fun k h=> HO1.out.inB h
   have B1:=HB1.out.kept k1 (fun h=> by have:=hA0 _ h;omega)
   have B2:=HB2.out.kept k1 (fun h=> by have:=hA0 _ h;omega)
   have HB1':=zz B1
   have HB2':=zz B2
   obtain⟨⟨c10,c11,c12⟩,⟨f10,f11,f12⟩,hsz1⟩:=B1.three
   have HCH2:=zz ch2
   have HO':=zz o'
   have HOC2:=zz oc2
   have HA':=zz hA'
   have HK1:=zz k1
   have HA0:=zz hA0
   have HM2:=zz hm2
   have HC0:=zz (HOC.out.kept k1 (fun b hb h=> HO1.out.ne HOC.out (by decide) h hb))
   have HC1:=zz (fun v0 v1 v2 o=> HC0.out.kept ((Zbe w1 w.heap.size v0 v1 v2).alloc o) (fun b hb e=> by have:=HC0.out.inB hb;omega))
   have HD1:=zz (fun v0 v1 v2 o=> (HOC2.out.kept ((Zbe w1 w.heap.size v0 v1 v2).alloc o) (fun b hb e=> by have:=HOC2.out.inB hb;omega)).rd (by omega))
   have hw1:=HK1.out.size
   clear B1 B2 ch2 o' oc2 hA' k1 hA0 hcl2 hm2 HB1 HB2
   go_wp2_with (first
    | (at_builtin
       refine Za5 _ Zv5 rfl (.tmp 29) (.tmp 30) rfl (w.heap.size+2) _ rfl (HC1.out _ _ _ _) _ _ rfl (HD1.out _ _ _ _) HCH2.out.one (by simp only [maxLen];omega) (by omega) (by simp [World.setCell];omega) ?_
       intro C3 mc3 w3 oc3 k3 hC3
       have HO3:=zz oc3
       have HK3:=zz k3
       have HC3:=zz hC3
       clear oc3 k3 hC3))
   obtain⟨W3,hW3⟩:∃W3,W3=(((w1.setCell ⟨w.heap.size,0,none⟩ (.slice A' n' c')).setCell ⟨w.heap.size,1,none⟩ (.int .u64 sk2)).setCell ⟨w.heap.size,2,none⟩ (.bool br2)).alloc (.cells #[.slice A' n' c',.int .u64 sk2,.bool br2] 121):=⟨_,rfl⟩
   have KS:Keeps (· =w.heap.size) w1 W3:=by rw [hW3];exact(Zbe w1 w.heap.size _ _ _).alloc _
   have BS:Blk W3 w.heap.size 121 #[.slice A' n' c',.int .u64 sk2,.bool br2]:=by rw [hW3];exact(((HB1'.out.set 0 _).set 1 _).set 2 _).alloc _
   have K3:=HK3.out
   have C3:=HC3.out
   rw [←hW3] at K3 C3
   have hws:=KS.size
   go_roundw
   case rel=>
    refine⟨k+1,bf2,sk2,br2,chs++chs2,A',n',c',_,_,_,_,by omega,by go_num,rfl,HSN.out,BS.kept K3 (fun h=> by have:=HC0.out.inB h;omega),(HB2'.out.kept KS (by omega)).kept K3 (fun h=> by have:=HC0.out.inB h;omega),?_,HO3.out,?_,?_⟩
    ·have h1:=HO'.out.kept KS (fun b hb e=> by have:=HO'.out.inB hb;omega)
     exact h1.kept K3 (fun b hb h=> h1.ne (HC0.out.kept KS (fun b hb e=> by have:=HC0.out.inB hb;omega)) (by decide) hb h)
    ·have hc1:∀b,inB C b→w.heap.size+2≤b∧b<wr.heap.size:=fun b hb=> HOC.out.inB hb
     have ha0:∀b,inB A b→w.heap.size+2≤b:=fun b hb=> (HA0.out b hb).1
     refine ChCells.append ?_ ?_
     ·have h0:ChCells wr (fun b=> (w.heap.size+2≤b∧¬inB A b∧¬inB C b)∧b<wr.heap.size) cells chs:=ChCells.weak (fun b hb hl=> ⟨hb,hl⟩) HCHS.out
      have h1:=h0.kept HK1.out (fun b hb _=> hb.1.2.1)
      have h2:=h1.kept KS (fun b hb _ e=> by have:=hb.1.1;omega)
      have h3:=h2.kept K3 (fun b hb _ h=> hb.1.2.2 h)
      exact ChCells.weak (fun b hb _=> ⟨hb.1.1,fun h=> by
       rcases HA'.out b h with h | h
       ·exact hb.1.2.1 h
       ·have:=hb.2;omega,fun h=> by
       rcases C3 b h with h | h
       ·exact hb.1.2.2 h
       ·have:=hb.2;omega⟩) h3
     ·have h0:=ChCells.weak (Q:=fun b=> (wr.heap.size≤b∧¬inB A' b)∧b<w1.heap.size) (fun b hb hl=> ⟨hb,hl⟩) HCH2.out
      have h2:=h0.kept KS (fun b hb _ e=> by have:=hb.1.1;omega)
      have h3:=h2.kept K3 (fun b hb _ h=> by have:=hc1 b h;have:=hb.1.1;omega)
      exact ChCells.weak (fun b hb _=> ⟨by have:=hb.1.1;omega,hb.1.2,fun h=> by
       rcases C3 b h with h | h
       ·have:=hc1 b h;have:=hb.1.1;omega
       ·have:=hb.2;omega⟩) h3
    ·exact((HKP.out.step HK1.out (fun b hb h=> by have:=(HA0.out b h).1;omega)).step KS (fun b hb h=> by omega)).step K3 (fun b hb h=> by have:=HOC.out.inB h;omega)
   case measure=> simp [intOf];omega
  ·go_wp2_with fail
   refine bodyPost_ret (v:= .tuple #[.agg #[.slice A n c,.int .u64 sk,.bool br],.slice C m mc]) (by simp [results,Tryz.results55,go_sem,c20,c21,c22,hsz2]) rfl ?_
   have hk2:k=n2:=by omega
   subst hk2
   have hF:=HF.out
   rw [List.take_of_length_le (by have:=HLL.out;omega)] at hF
   rw [hF]
   have KS:=Zbe wr (w.heap.size+1) (.slice A n c) (.int .u64 sk) (.bool br)
   refine⟨A,n,c,C,m,mc,cells,rfl,?_,?_,?_,HKP.out.step KS (fun k hk h=> by omega)⟩
   ·exact(HO1.out.kept KS (fun b hb e=> by have:=HO1.out.inB hb;omega)).base_le (by omega)
   ·exact(HOC.out.kept KS (fun b hb e=> by have:=HOC.out.inB hb;omega)).base_le (by omega)
   ·exact ChCells.weak (fun b hb _=> by omega) (HCHS.out.kept KS (fun b hb _ e=> by omega))
open Go.RowKit
structure Sk (w:World) (lo hi g d n:Nat) (R:Cmp.Rows) (zs:List Int) (seed total:Int) (bs:Nat→Nat) (bt ct:Nat):Prop where
 blk:∃cs:Array Value,Blk w g 327 cs∧cs[0]?=some (.int .i64 d)∧(∀i,i<d→cs[1+i]?=some (.slice (some ⟨bs i,0,none⟩) n n))∧
  cs[5]?=some (.slice (some ⟨bt,0,none⟩) 16 ct)∧cs[6]?=some (.int .u64 seed)∧cs[7]?=some (.int .u64 total)
 rows:∀i,i<d→Blk w (bs i) 23 ((R.getD i []).map (.int .u64)).toArray
 tab:Rd w w.heap.size (some ⟨bt,0,none⟩) 1 16 (zs.map (.int .u64))
 tabne:∀i,i<d→bs i≠bt
 inj:∀i j,i<d→j<d→bs i=bs j→i=j
 lo_g:lo≤g∧g<hi
 lo_r:∀i,i<d→lo≤bs i∧bs i<hi
 lo_t:lo≤bt∧bt<hi
 fine:Cmp.Fine R d n total
 zl:zs.length=16
 zb:∀z∈zs,0≤z∧z<18446744073709551616
 sd:0≤seed∧seed<18446744073709551616
 dd:1≤d∧d≤4
 nn:1≤n∧n≤256
 tt:0≤total∧total≤9223372036854775808
 tbk:∃xs,Blk w bt 23 xs
section
variable {w w':World} {lo hi g d n:Nat} {R:Cmp.Rows} {zs:List Int} {seed total:Int} {bs:Nat→Nat} {bt ct:Nat}
theorem Sk.kept {S:Nat→Prop} (h:Sk w lo hi g d n R zs seed total bs bt ct) (k:Keeps S w w') (hs:∀b,lo≤b→b<hi→¬S b):Sk w' lo hi g d n R zs seed total bs bt ct:=by
 obtain⟨⟨cs,hb,hc⟩,h2,h3,h4,h5,h6,h7,h8,h9,h10,h11,h12,h13,h14,h15,h16⟩:=h
 refine⟨⟨cs,hb.kept k (hs _ h6.1 h6.2),hc⟩,fun i hi=> (h2 i hi).kept k (hs _ (h7 i hi).1 (h7 i hi).2),?_,h4,h5,h6,h7,h8,h9,h10,h11,h12,h13,h14,h15,h16.elim fun xs h=> ⟨xs,h.kept k (hs _ h8.1 h8.2)⟩⟩
 refine⟨h3.1,fun hn=> ?_⟩
 obtain⟨b,off,e,hb2,hcell⟩:=h3.2 hn
 injection e with e
 injection e with e1 e2
 subst e1 e2
 exact⟨bt,0,rfl,by have:=k.size;omega,fun j u hu=> k.cell_some (hcell j u hu) (hs _ h8.1 h8.2)⟩
theorem Sk.drewN (h:Sk w lo hi g d n R zs seed total bs bt ct) (k:Nat):Sk (w.drewN k) lo hi g d n R zs seed total bs bt ct:=h.kept (S:=fun _=> False) ((Kz0 _ _).drewN k) (fun _ _ _ hh=> hh)
end
theorem Ze8 {w:World} {lo hi g d n:Nat} {R:Cmp.Rows} {zs:List Int} {seed total:Int} {bs:Nat→Nat} {bt ct:Nat} (h:Sk w lo hi g d n R zs seed total bs bt ct) (i:Nat) (hid:i<d) (s:ByteArray) (hs:s.size≤140737488351232):
  Calls Tryz.prog 227 #[.pointer (some ⟨g,0,none⟩),.int .i64 i,.string s] w fun e w'=> e= .returned (.pointer (some ⟨bs i,Cmp.pos zs seed s.data.toList n i,none⟩))∧∃nq,w'=w.drewN nq:=by
 obtain⟨cs,hb,hc0,hcr,hc5,hc6,hc7⟩:=h.blk
 have f1:=hb.cell (1+i)
 have f5:=hb.cell 5
 have f6:=hb.cell 6
 rw [hcr i hid] at f1
 rw [hc5] at f5
 rw [hc6] at f6
 have hn:=h.nn
 have hd:=h.dd
 have hp:=Cmp.pos_lt zs seed s.data.toList n i (by omega)
 obtain⟨hh,hhh⟩:∃hh,hh=Hash.key zs (Hash.rowSeed seed i) s.data.toList:=⟨_,rfl⟩
 have hkb:0≤hh∧hh<18446744073709551616:=by
  rw [hhh];unfold Hash.key;split
  ·exact Hash.fin_bd _
  ·omega
 have HR:=zz (fun q=> Hash.row_any zs h.zb _ 16 ct _ (w.drewN q) (h.tab.drewN q) seed h.sd.1 h.sd.2 (i:Int) (by omega) (by omega) s hs)
 rw [←hhh] at HR
 have HS:=zz (fun q=> Hash.slot_any hh (n:Int) hkb.1 hkb.2 (by omega) (by omega) (w.drewN q))
 have hsl:Hash.slot hh (n:Int)=(Cmp.pos zs seed s.data.toList n i:Nat):=by
  unfold Cmp.pos
  rw [←hhh]
  have:0≤Hash.slot hh (n:Int):=by
   unfold Hash.slot;split
   ·omega
   ·exact Int.emod_nonneg _ (by omega)
  omega
 rw [hsl] at HS
 generalize Cmp.pos zs seed s.data.toList n i=p at*
 have g0:(0:Int)≤(p:Int):=by omega
 have g1:(p:Int)<(n:Int):=by omega
 have g2:(i:Int)<4:=by omega
 clear hb hc0 hcr hc5 hc6 hc7 hhh hsl hkb h
 go_enter Tryz.func227,Tryz.ntmps227
 go_wp2_with fail
 go_quiet ((first
  | (go_at_call 288;first | exact Zd7 (HR.out _) | exact Ze0 (HR.out _))
  | (go_at_call 171;first | exact Zbs (HS.out _) | exact Zas (HS.out _))))
 go_wp2_with fail
 go_ret
 exact⟨by simp,_,rfl⟩
section
variable {w w':World} {lo hi g d n:Nat} {R:Cmp.Rows} {zs:List Int} {seed total:Int} {bs:Nat→Nat} {bt ct:Nat}
theorem Sk.cell (h:Sk w lo hi g d n R zs seed total bs bt ct) (i j:Nat) (hi':i<d) (hj:j<n):
  w.cell? ⟨bs i,j,none⟩=some (.int .u64 (Cmp.cell R i j))∧w.frozen? ⟨bs i,j,none⟩=false:=by
 have hb:=h.rows i hi'
 refine⟨?_,hb.frozen j⟩
 rw [hb.cell j]
 have hl:=h.fine.2.1 i hi'
 unfold Cmp.cell
 simp [List.getD] at hl ⊢
 rw [List.getElem?_eq_getElem (by omega)]
 simp
theorem Sk.tot (h:Sk w lo hi g d n R zs seed total bs bt ct):w.cell? ⟨g,7,none⟩=some (.int .u64 total)∧w.cell? ⟨g,0,none⟩=some (.int .i64 d)∧w.frozen? ⟨g,7,none⟩=false:=by
 obtain⟨cs,hb,hc0,hcr,hc5,hc6,hc7⟩:=h.blk
 exact⟨by rw [hb.cell 7,hc7],by rw [hb.cell 0,hc0],hb.frozen 7⟩
theorem Sk.gne (h:Sk w lo hi g d n R zs seed total bs bt ct) (i:Nat) (hi':i<d):g≠bs i:=by
 obtain⟨cs,hb,_⟩:=h.blk
 exact hb.ne (h.rows i hi') (by decide)
theorem Sk.setTotal (h:Sk w lo hi g d n R zs seed total bs bt ct) (hg:g≠bt) (t2:Int) (h0:total≤t2) (h1:t2≤9223372036854775808):Sk (w.setCell ⟨g,7,none⟩ (.int .u64 t2)) lo hi g d n R zs seed t2 bs bt ct:=by
 have hgn:=h.gne
 obtain⟨⟨cs,hb,hc0,hcr,hc5,hc6,hc7⟩,h2,h3,h4,h5,h6,h7,h8,h9,h10,h11,h12,h13,h14,h15,h16⟩:=h
 have hlt:7<cs.size:=by
  rcases Nat.lt_or_ge 7 cs.size with h | h
  ·exact h
  ·rw [Array.getElem?_eq_none h] at hc7;cases hc7
 refine⟨⟨_,hb.set 7 _,?_,fun i hi'=> ?_,?_,?_,?_⟩,fun i hi'=> (h2 i hi').far (fun e=> hgn i hi' e.symm) _,?_,h4,h5,h6,h7,h8,⟨h9.1,h9.2.1,fun i j=> ⟨(h9.2.2 i j).1,by have:=(h9.2.2 i j).2;omega⟩⟩,h10,h11,h12,h13,h14,by omega,h16.elim fun xs h=> ⟨xs,h.far (p:=⟨g,7,none⟩) (fun e=> hg e.symm) _⟩⟩
 ·rw [Array.getElem?_setIfInBounds];simpa using hc0
 ·rw [Array.getElem?_setIfInBounds,if_neg (by omega)];exact hcr i hi'
 ·rw [Array.getElem?_setIfInBounds];simpa using hc5
 ·rw [Array.getElem?_setIfInBounds];simpa using hc6
 ·rw [Array.getElem?_setIfInBounds];simp [hlt]
 ·have k:Keeps (· =g) w (w.setCell ⟨g,7,none⟩ (.int .u64 t2)):=Keeps.setCell (S:=(· =g)) (p:=⟨g,7,none⟩) (Kz0 _ _) (.inl rfl) _
  refine⟨h3.1,fun hn=> ?_⟩
  obtain⟨b,off,e,hb2,hcell⟩:=h3.2 hn
  injection e with e
  injection e with e1 e2
  subst e1 e2
  exact⟨bt,0,rfl,by have:=k.size;omega,fun j u hu=> k.cell_some (hcell j u hu) (fun e=> hg e.symm)⟩
theorem Sk.put (h:Sk w lo hi g d n R zs seed total bs bt ct) (i j:Nat) (hi':i<d) (v:Int) (hf:Cmp.Fine (Cmp.put R i j v) d n total):
  Sk (w.setCell ⟨bs i,j,none⟩ (.int .u64 v)) lo hi g d n (Cmp.put R i j v) zs seed total bs bt ct:=by
 have hgn:=h.gne
 obtain⟨⟨cs,hb,hc⟩,h2,h3,h4,h5,h6,h7,h8,h9,h10,h11,h12,h13,h14,h15,h16⟩:=h
 refine⟨⟨cs,hb.far (hgn i hi') _,hc⟩,fun m hm=> ?_,?_,h4,h5,h6,h7,h8,hf,h10,h11,h12,h13,h14,h15,h16.elim fun xs h=> ⟨xs,h.far (p:=⟨bs i,j,none⟩) (fun e=> h4 i hi' e.symm) _⟩⟩
 ·by_cases hmi:m=i
  ·subst hmi
   have:=(h2 m hm).set j (.int .u64 v)
   rw [Cmp.put_row,if_pos ⟨rfl,by have:=h9.1;omega⟩]
   simpa [List.map_set] using this
  ·rw [Cmp.put_row,if_neg (fun hh=> hmi hh.1)]
   exact(h2 m hm).far (fun e=> hmi (h5 m i hm hi' e)) _
 ·have k:Keeps (· =bs i) w (w.setCell ⟨bs i,j,none⟩ (.int .u64 v)):=Keeps.setCell (S:=(· =bs i)) (p:=⟨bs i,j,none⟩) (Kz0 _ _) (.inl rfl) _
  refine⟨h3.1,fun hn=> ?_⟩
  obtain⟨b,off,e,hb2,hcell⟩:=h3.2 hn
  injection e with e
  injection e with e1 e2
  subst e1 e2
  exact⟨bt,0,rfl,by have:=k.size;omega,fun j u hu=> k.cell_some (hcell j u hu) (fun e=> h4 i hi' e.symm)⟩
end
theorem Zfo {w:World} {lo hi g d n:Nat} {R:Cmp.Rows} {zs:List Int} {seed total:Int} {bs:Nat→Nat} {bt ct:Nat} (h:Sk w lo hi g d n R zs seed total bs bt ct):
  Calls Tryz.prog 129 #[.pointer (some ⟨g,0,none⟩)] w fun e w'=> e= .returned (.int .u64 total)∧w=w':=by
 obtain⟨c7,c0,f7⟩:=h.tot
 clear h
 go_enter Tryz.func129,Tryz.ntmps129
 go_wp2_with fail
 go_ret
 exact⟨rfl,rfl⟩
theorem Zgj {w:World} {lo hi g d n:Nat} {R:Cmp.Rows} {zs:List Int} {seed total:Int} {bs:Nat→Nat} {bt ct:Nat} (h:Sk w lo hi g d n R zs seed total bs bt ct) (s:ByteArray) (hs:s.size≤140737488351232):
  Calls Tryz.prog 226 #[.pointer (some ⟨g,0,none⟩),.string s] w fun e w'=> e= .returned (.int .u64 (Cmp.least R zs seed s.data.toList d))∧∃nq,w'=w.drewN nq:=by
 have hd:=h.dd
 have hn:=h.nn
 have hc:∀i,i<d→∃p v,Cmp.pos zs seed s.data.toList n i=p∧w.cell? ⟨bs i,p,none⟩=some (.int .u64 v)∧0≤v∧v≤Cmp.big∧Cmp.least R zs seed s.data.toList (i+1)=min (Cmp.least R zs seed s.data.toList i) v:=fun i hi=> by
  have hp:=Cmp.pos_lt zs seed s.data.toList n i (by omega)
  refine⟨_,_,rfl,(h.cell i _ hi hp).1,(h.fine.2.2 _ _).1,Int.le_trans (h.fine.2.2 _ _).2 (by have:=h.tt;unfold Cmp.big;omega),?_⟩
  rw [Cmp.least,Cmp.val_of d n h.fine.2.1 (by omega) i hi]
 have HC:=zz hc
 have hct:=fun(i:Nat) (hi:i<d) (q:Nat)=> Ze8 (h.drewN q) i hi s hs
 have HCT:=zz hct
 obtain⟨c7,c0,f7⟩:=h.tot
 have hbig:Cmp.big=18446744073709551615:=rfl
 have HBIG:=zz hbig
 have hlb:∀k,Cmp.least R zs seed s.data.toList k≤Cmp.big:=fun k=> Cmp.least_big k
 have HLB:=zz hlb
 clear hc h hct hbig hlb c7 f7
 go_enter Tryz.func226,Tryz.ntmps226
 go_wp2_with fail
 obtain⟨p,v,hp,hv,v0,v1,hl⟩:=HC.out 0 (by omega)
 have H0:=HCT.out 0 (by omega) 0
 rw [hp] at H0
 have HL:=zz hl
 have HH:=zz H0
 clear hp hl H0
 refine HH.out.mono ?_
 rintro e w1 ⟨rfl,nq,rfl⟩
 go_wp2_with fail
 have hL1:v=Cmp.least R zs seed s.data.toList 1:=by
  rw [HL.out]
  show v=min Cmp.big v
  omega
 go_loopw [5,6] (fun x i wr=> ∃k:Nat,1≤k∧k≤d∧i= .int .i64 k∧x= .int .u64 (Cmp.least R zs seed s.data.toList k)∧∃nq,wr=w.drewN nq) (fun _ i _=> d-(intOf i).toNat)
 case atStart=> exact⟨1,by omega,by omega,rfl,by rw [hL1],nq,by simp⟩
 case round=>
  obtain⟨k,hk1,hk,rfl,rfl,nq,rfl⟩:=hrel
  by_cases hlt:k<d
  ·obtain⟨p,v',hp,hv',v0',v1',hl⟩:=HC.out k hlt
   have H0:=HCT.out k hlt nq
   rw [hp] at H0
   have HL':=zz hl
   have HH':=zz H0
   clear hp hl H0 hL1
   generalize Cmp.least R zs seed s.data.toList k=x at*
   go_wp2_with fail
   refine HH'.out.mono ?_
   rintro e w1 ⟨rfl,nq2,rfl⟩
   go_wp2_with fail
   all_goals
    go_roundw
    case rel=> exact⟨k+1,by omega,by omega,by go_num,by rw [HL'.out];congr 1;omega,_,rfl⟩
    case measure=> simp [intOf];omega
  ·go_wp2_with fail
   go_ret
   obtain rfl:k=d:=by omega
   exact⟨rfl,nq,rfl⟩
open Go.RowKit
theorem Zp6 {s:ByteArray} (h:s.data.toList= []):s=ByteArray.empty:=by
 obtain⟨⟨l⟩⟩:=s
 simp at h
 subst h
 rfl
def Zwc (w:World) (lo hi g d n:Nat) (R:Cmp.Rows) (zs:List Int) (seed total:Int) (bs:Nat→Nat) (bt ct:Nat) (k:List UInt8) (wt:Int) (e:Ending) (w':World):Prop:=
 e= .returned (.int .i64 (Cmp.addE k wt total))∧Keeps (fun b=> lo≤b∧b<hi) w w'∧
  Sk w' lo hi g d n (if Cmp.addE k wt total=0 then Cmp.raise R zs seed k (Cmp.least R zs seed k d+wt) d else R) zs seed (if Cmp.addE k wt total=0 then total+wt else total) bs bt ct
def SkF (lo hi g d:Nat) (bs:Nat→Nat) (b:Nat):Prop:=(lo≤b∧b<hi)∧(b=g∨∃i,i<d∧b=bs i)
def Zdl (w:World) (lo hi g d n:Nat) (R:Cmp.Rows) (zs:List Int) (seed total:Int) (bs:Nat→Nat) (bt ct:Nat) (k:List UInt8) (wt:Int) (e:Ending) (w':World):Prop:=
 e= .returned (.int .i64 (Cmp.addE k wt total))∧Keeps (SkF lo hi g d bs) w w'∧
  Sk w' lo hi g d n (if Cmp.addE k wt total=0 then Cmp.raise R zs seed k (Cmp.least R zs seed k d+wt) d else R) zs seed (if Cmp.addE k wt total=0 then total+wt else total) bs bt ct
theorem Ziv {w:World} {lo hi g d n:Nat} {R:Cmp.Rows} {zs:List Int} {seed total:Int} {bs:Nat→Nat} {bt ct:Nat} (h:Sk w lo hi g d n R zs seed total bs bt ct) (hgt:g≠bt) (s:ByteArray) (hs:s.size≤140737488351232)
  (wt:Int) (w0:0≤wt) (w1:wt<18446744073709551616):
  Calls Tryz.prog 187 #[.pointer (some ⟨g,0,none⟩),.string s,.int .u64 wt] w (Zdl w lo hi g d n R zs seed total bs bt ct s.data.toList wt):=by
 by_cases hk:s.data.toList= []
 ·have hE:Hid (Zdl w lo hi g d n R zs seed total bs bt ct s.data.toList wt (.returned (.int .i64 3)) w):=by
   have:Cmp.addE s.data.toList wt total=3:=by unfold Cmp.addE;rw [if_pos hk]
   unfold Zdl
   rw [this]
   exact⟨rfl,Kz0 _ _,by simpa using h⟩
  obtain rfl:=Zp6 hk
  clear h hk
  go_enter Tryz.func187,Tryz.ntmps187
  go_wp2_with fail
  go_ret
  exact hE.out
 have hne1:s.toList.isEmpty=false:=by
  rw [ByteArray.toList_eq];simpa using hk
 by_cases hw:wt=0
 ·have hE:Hid (Zdl w lo hi g d n R zs seed total bs bt ct s.data.toList wt (.returned (.int .i64 1)) w):=by
   have:Cmp.addE s.data.toList wt total=1:=by unfold Cmp.addE;rw [if_neg hk,if_pos hw]
   unfold Zdl
   rw [this]
   exact⟨rfl,Kz0 _ _,by simpa using h⟩
  have hk':=zz hk
  subst hw
  clear h hk
  go_enter Tryz.func187,Tryz.ntmps187
  go_wp2_with fail
  go_ret
  exact hE.out
 have hw1':((wt:Int)==0)=false:=by simpa using hw
 have hd:=h.dd
 have hn:=h.nn
 have htt:=h.tt
 obtain⟨c7,c0,f7⟩:=h.tot
 have HS:=zz h
 by_cases hov:total+wt≤9223372036854775808
 ·have hfit:Sat.fits total wt=true:=by unfold Sat.fits;exact decide_eq_true hov
  have HF:=zz (fun W=> Sat.fits_any total wt (by omega) (by omega) (by omega) (by omega) W)
  rw [hfit] at HF
  have hE:Hid (Cmp.addE s.data.toList wt total=0):=by show _=_;unfold Cmp.addE;rw [if_neg hk,if_neg hw,if_pos hov]
  have hS1:=h.setTotal hgt (total+wt) (by omega) hov
  have hlb:=Cmp.least_bd (t:=zs) (seed:=seed) (k:=s.data.toList) h.fine (by omega) (by omega)
  obtain⟨W1,hW1⟩:∃W1,W1=w.setCell ⟨g,7,none⟩ (.int .u64 (total+wt)):=⟨_,rfl⟩
  rw [←hW1] at hS1
  have k1:Keeps (SkF lo hi g d bs) w W1:=by rw [hW1];exact Keeps.setCell (S:=SkF lo hi g d bs) (p:=⟨g,7,none⟩) (Kz0 _ _) (.inl ⟨h.lo_g,.inl rfl⟩) _
  have HEST:=zz (Zgj hS1 s hs)
  have hfine:=fun i (hi:i≤d)=> Cmp.fine_raise (t:=zs) (seed:=seed) (k:=s.data.toList) h.fine (by omega) (by omega) w0 i hi
  have hval:=fun i (hi:i<d)=> Cmp.val_of (R:=R) (t:=zs) (seed:=seed) (k:=s.data.toList) d n h.fine.2.1 (by omega) i hi
  obtain⟨est,hest⟩:∃est,est=Cmp.least R zs seed s.data.toList d:=⟨_,rfl⟩
  rw [←hest] at HEST hlb hfine
  have HEQ:=zz hest
  have HW:=zz hW1
  have HS1:=zz hS1
  have HK1:=zz k1
  have HFI:=zz hfine
  have HV:=zz hval
  have HKK:=zz hk
  have wb:0≤total+wt:=by omega
  clear hS1 k1 hfine hval h hest hfit hk hw hW1
  go_enter Tryz.func187,Tryz.ntmps187
  go_wp2_with fail
  refine(HF.out _).mono ?_
  rintro e w2 ⟨rfl,rfl⟩
  go_wp2_with fail
  rw [←HW.out]
  refine HEST.out.mono ?_
  rintro e w2 ⟨rfl,nq,rfl⟩
  have HS2:=zz (HS1.out.drewN nq)
  have HK2:=zz (HK1.out.drewN nq)
  obtain⟨d7,d0,e7⟩:=HS2.out.tot
  obtain⟨W2,hW2⟩:∃W2,W2=W1.drewN nq:=⟨_,rfl⟩
  rw [←hW2] at HS2 HK2 d7 d0 e7 ⊢
  clear hW2 c7 c0 f7 HS1 HK1 HEST HW HF HS
  go_wp2_with fail
  go_loopw [44] (fun i wr=> ∃k:Nat,k≤d∧i= .int .i64 k∧Sk wr lo hi g d n (Cmp.raise R zs seed s.data.toList (est+wt) k) zs seed (total+wt) bs bt ct∧Keeps (SkF lo hi g d bs) w wr) (fun i _=> d-(intOf i).toNat)
  case atStart=> exact⟨0,by omega,rfl,HS2.out,HK2.out⟩
  case round=>
   obtain⟨k,hk,rfl,sk,kp⟩:=hrel
   by_cases hlt:k<d
   ·have HC:=zz (Ze8 sk k hlt s hs)
    have hp:=Cmp.pos_lt zs seed s.data.toList n k (by omega)
    have hrl:=sk.fine.2.1 k hlt
    have hv:=HV.out k hlt
    have hrg:=Cmp.raise_row_ge (R:=R) (t:=zs) (seed:=seed) (k:=s.data.toList) (v:=est+wt) k k (Nat.le_refl _)
    have hcell:Cmp.cell (Cmp.raise R zs seed s.data.toList (est+wt) k) k (Cmp.pos zs seed s.data.toList n k)=Cmp.val R zs seed s.data.toList k:=by
     rw [hv];unfold Cmp.cell;rw [hrg]
    have hRl:(R.getD k []).length=n:=by rw [←hrg];exact hrl
    have hput:Cmp.raise R zs seed s.data.toList (est+wt) (k+1)=Cmp.put (Cmp.raise R zs seed s.data.toList (est+wt) k) k (Cmp.pos zs seed s.data.toList n k) (max (Cmp.val R zs seed s.data.toList k) (est+wt)):=by
     rw [Cmp.raise,hRl]
    obtain⟨c1,f1⟩:=sk.cell k _ hlt hp
    rw [hcell] at c1
    have hf:=HFI.out (k+1) hlt
    rw [hput] at hf
    have HP:=zz (fun q v (hv:v=max (Cmp.val R zs seed s.data.toList k) (est+wt))=> (sk.drewN q).put k (Cmp.pos zs seed s.data.toList n k) hlt v (by rw [hv];exact hf))
    have HPUT:=zz hput
    have hsb:=sk.lo_r k hlt
    have HKP:=zz kp
    generalize Cmp.pos zs seed s.data.toList n k=p at*
    generalize Cmp.val R zs seed s.data.toList k=x at*
    clear sk kp hp hrl hv hrg hcell hRl hput hf d7 d0 e7
    go_wp2_with fail
    refine HC.out.mono ?_
    rintro e w3 ⟨rfl,nq,rfl⟩
    go_wp2_with fail
    all_goals
     go_roundw
     case rel=> exact⟨k+1,by omega,by go_num,by rw [HPUT.out,←show(if x<est+wt then est+wt else x)=max x (est+wt) from by split <;> omega];exact HP.out nq _ (by split <;> omega),Keeps.setCell (p:=⟨bs k,p,none⟩) (HKP.out.drewN nq) (.inl ⟨hsb,.inr ⟨k,hlt,rfl⟩⟩) _⟩
     case measure=> simp [intOf];omega
   ·go_wp2_with fail
    go_ret
    obtain rfl:k=d:=by omega
    refine⟨by rw [hE.out];rfl,kp,?_⟩
    rw [hE.out,if_pos rfl,if_pos rfl,←HEQ.out]
    exact sk
 ·have hfit:Sat.fits total wt=false:=by unfold Sat.fits;exact decide_eq_false hov
  have HF:=zz (fun W=> Sat.fits_any total wt (by omega) (by omega) (by omega) (by omega) W)
  rw [hfit] at HF
  have hE:Hid (Zdl w lo hi g d n R zs seed total bs bt ct s.data.toList wt (.returned (.int .i64 12)) w):=by
   have:Cmp.addE s.data.toList wt total=12:=by unfold Cmp.addE;rw [if_neg hk,if_neg hw,if_neg hov]
   unfold Zdl
   rw [this]
   exact⟨rfl,Kz0 _ _,by simpa using h⟩
  have HKK:=zz hk
  clear h hk hw hfit
  go_enter Tryz.func187,Tryz.ntmps187
  go_wp2_with fail
  refine(HF.out _).mono ?_
  rintro e w2 ⟨rfl,rfl⟩
  go_wp2_with fail
  go_ret
  exact hE.out
theorem add_any {w:World} {lo hi g d n:Nat} {R:Cmp.Rows} {zs:List Int} {seed total:Int} {bs:Nat→Nat} {bt ct:Nat} (h:Sk w lo hi g d n R zs seed total bs bt ct) (hgt:g≠bt) (s:ByteArray) (hs:s.size≤140737488351232)
  (wt:Int) (w0:0≤wt) (w1:wt<18446744073709551616):
  Calls Tryz.prog 187 #[.pointer (some ⟨g,0,none⟩),.string s,.int .u64 wt] w (Zwc w lo hi g d n R zs seed total bs bt ct s.data.toList wt):=
 (Ziv h hgt s hs wt w0 w1).mono fun e w' ⟨h1,h2,h3⟩=> ⟨h1,h2.weak (fun _ _ h=> h.1),h3⟩
open Go.RowKit
theorem Zv8:ElemOf Tryz.prog 25 23 1 8:=ElemOf.mk' (z:= .int .u64 0) Tryz.underlying25 (by kernel_rfl) rfl (by omega)
theorem Zei (n:Nat) (hn:n≤65536) (w:World):(Instr.makeSlice 25 (.int .i64 (n:Int)) (.int .i64 (n:Int))).run Tryz.prog w= .ok (.slice (some ⟨w.heap.size,0,none⟩) n n) (w.alloc (.cells (List.replicate n (.int .u64 0)).toArray 23)):=by
 have hi:(Tryz.prog.info? 23).map (fun i=> (i.zero,i.size,i.bytes))=some (some (.int .u64 0),1,8):=by kernel_rfl
 obtain⟨i,h1,h2,h3,h4⟩:=info_parts hi
 have hr:=run_make (P:=Tryz.prog) w 25 23 i (.int .u64 0) Tryz.underlying25 h1 h2 .i64 .i64 (n:Int) (n:Int) (by omega) (by omega) (by rw [h4];omega) (by omega)
 rw [hr,Int.toNat_natCast,h3,Nat.mul_one]
 have:madeCells (Value.int .u64 0).cells n=(List.replicate n (Value.int .u64 0)).toArray:=by
  apply Array.ext'
  rw [show(Value.int .u64 0).cells= #[Value.int .u64 0] from rfl]
  refine List.ext_getElem (by simp [madeCells]) (fun j h1 h2=> ?_)
  simp [madeCells,Nat.mod_one]
 rw [this]
def Zvp (w:World) (n:Nat) (xs:List Value) (e:Ending) (w':World):Prop:=
 ∃A' c',e= .returned (.slice A' n c')∧Own w' w.heap.size 23 1 A' n c' xs∧Keeps NO w w'
theorem Zgo {w:World} {B:Nat} {A:Option Addr} {n c:Nat} {zs:List Int} (hr:Rd w B A 1 n (zs.map (.int .u64))) (hn:n≤1099511627776):
  Calls Tryz.prog 84 #[.slice A n c] w (Zvp w n (zs.map (.int .u64))):=by
 cases A with
 | none=>
   obtain rfl:n=0:=by
    rcases Nat.eq_zero_or_pos n with h | h
    ·exact h
    ·obtain⟨b,off,e,_⟩:=hr.2 h;cases e
   obtain rfl:zs= []:=List.eq_nil_of_length_eq_zero (by simpa using hr.1)
   clear hr
   have heq:=fun w=> Lib.run_eql_slice_nil (P:=Tryz.prog) w 25 23 none 0 c 0 0 Tryz.underlying25
   go_enter Tryz.func84,Tryz.ntmps84
   go_wp2_with fail
   go_ret
   exact⟨none,0,rfl,Own.nil _ _ _ _,Kz0 _ _⟩
 | some ad=>
   have HR:=zz hr
   clear hr
   have heq:=fun w=> Lib.run_eql_slice_nil (P:=Tryz.prog) w 25 23 (some ad) n c 0 0 Tryz.underlying25
   go_enter Tryz.func84,Tryz.ntmps84
   go_wp2_with (at_builtin;refine Za5 _ Zv8 rfl _ _ rfl w.heap.size _ rfl (Own.new0 _ _ 23 1 _ (by simp) (by omega)) _ (m:=n) _ rfl (HR.out.kept ((Kz0 NO w).alloc _) (fun _ _ h=> h)) (by intro u hu;simp at hu;obtain⟨z,_,rfl⟩:=hu;rfl) (by simp [maxLen];omega) (by omega) (by simp) ?_;intro A5 c5 w5 o5 k5 hA5;rw [Nat.zero_add,List.nil_append] at o5;have O5:=zz o5;have K5:=zz k5;clear o5 k5 hA5)
   go_ret
   exact⟨A5,c5,rfl,O5.out,((Kz0 _ w).alloc _).step K5.out (fun k hk h=> by have:=(Za0 _ _ _).1 h;omega)⟩
def newE (depth width:Int) (tl:Nat):Int:=if depth<1∨4<depth∨width<1∨256<width then 1 else if tl=16 then 0 else 11
theorem Zvz {w:World} {A:Option Addr} {n c:Nat} (depth width seed:Int) (d0: -9223372036854775808≤depth) (d1:depth<9223372036854775808) (h:newE depth width n≠0):
  Calls Tryz.prog 184 #[.int .i64 depth,.int .i64 width,.slice A n c,.int .u64 seed] w fun e w'=> e= .returned (.tuple #[.pointer none,.int .i64 (newE depth width n)])∧w=w':=by
 by_cases hr:depth<1∨4<depth∨width<1∨256<width
 ·have hE:Hid (newE depth width n=1):=by show _=_;unfold newE;rw [if_pos hr]
  rw [hE.out]
  clear h
  by_cases h1:depth<1
  ·go_enter Tryz.func184,Tryz.ntmps184
   go_wp2_with fail
   go_ret2
   exact⟨rfl,rfl⟩
  by_cases h2:4<depth
  ·go_enter Tryz.func184,Tryz.ntmps184
   go_wp2_with fail
   go_ret2
   exact⟨rfl,rfl⟩
  by_cases h3:width<1
  ·go_enter Tryz.func184,Tryz.ntmps184
   go_wp2_with fail
   go_ret2
   exact⟨rfl,rfl⟩
  have h4:256<width:=by omega
  go_enter Tryz.func184,Tryz.ntmps184
  go_wp2_with fail
  go_ret2
  exact⟨rfl,rfl⟩
 ·have hn:n≠16:=fun hn=> h (by unfold newE;rw [if_neg hr,if_pos hn])
  have hE:Hid (newE depth width n=11):=by show _=_;unfold newE;rw [if_neg hr,if_neg hn]
  rw [hE.out]
  have h1:1≤depth:=by omega
  have h2:depth≤4:=by omega
  have h3:1≤width:=by omega
  have h4:width≤256:=by omega
  have HC:=zz (fun w=> Hash.check_not A n c hn w)
  clear h hr hn
  go_enter Tryz.func184,Tryz.ntmps184
  go_wp2_with fail
  refine(HC.out _).mono ?_
  rintro e w2 ⟨rfl,rfl⟩
  go_wp2_with fail
  go_ret2
  exact⟨rfl,rfl⟩
def Ztf (w:World) (d n:Nat) (zs:List Int) (seed:Int) (e:Ending) (w':World):Prop:=
 ∃(g:Nat) (bs:Nat→Nat) (bt ct:Nat),e= .returned (.tuple #[.pointer (some ⟨g,0,none⟩),.int .i64 0])∧Sk w' w.heap.size w'.heap.size g d n (Cmp.news d n) zs seed 0 bs bt ct∧g≠bt∧Keeps NO w w'
def NRel (w:World) (d n:Nat) (zs:List Int) (seed:Int) (g bt ct k:Nat) (wr:World):Prop:=
 ∃(cs:Array Value) (bs:Nat→Nat),Blk wr g 327 cs∧cs.size=8∧cs[0]?=some (.int .i64 d)∧(∀i,i<k→cs[1+i]?=some (.slice (some ⟨bs i,0,none⟩) n n))∧
  cs[5]?=some (.slice (some ⟨bt,0,none⟩) 16 ct)∧cs[6]?=some (.int .u64 seed)∧cs[7]?=some (.int .u64 0)∧(∀i,i<k→Blk wr (bs i) 23 (List.replicate n (.int .u64 0)).toArray∧g<bs i∧bs i<wr.heap.size)∧
  (∀i j,i<k→j<k→bs i=bs j→i=j)∧Rd wr g (some ⟨bt,0,none⟩) 1 16 (zs.map (.int .u64))∧w.heap.size≤bt∧bt<g∧g<wr.heap.size∧Keeps NO w wr∧∃xs,Blk wr bt 23 xs
theorem NRel.step {w wr:World} {d n:Nat} {zs:List Int} {seed:Int} {g bt ct k:Nat} (hk:k<4) (hwg:w.heap.size≤g) (h:NRel w d n zs seed g bt ct k wr):
  NRel w d n zs seed g bt ct (k+1) (((wr.setCell ⟨g,1+k,none⟩ (.slice (some ⟨wr.heap.size,0,none⟩) n n)).alloc (.cells (Array.replicate n (.int .u64 0)) 23)).drew):=by
 obtain⟨cs,bs,h1,h2,h3,h4,h5,h6,h7,h8,h9,h10,h11,h12,h13,h14,h15⟩:=h
 have kS:Keeps (· =g) wr (wr.setCell ⟨g,1+k,none⟩ (.slice (some ⟨wr.heap.size,0,none⟩) n n)):=Keeps.setCell (S:=(· =g)) (p:=⟨g,1+k,none⟩) (Kz0 _ _) (.inl rfl) _
 have kA:Keeps NO (wr.setCell ⟨g,1+k,none⟩ (.slice (some ⟨wr.heap.size,0,none⟩) n n)) (((wr.setCell ⟨g,1+k,none⟩ (.slice (some ⟨wr.heap.size,0,none⟩) n n)).alloc (.cells (Array.replicate n (.int .u64 0)) 23)).drew):=((Kz0 _ _).alloc _).drew
 have hs0:(wr.setCell ⟨g,1+k,none⟩ (.slice (some ⟨wr.heap.size,0,none⟩) n n)).heap.size=wr.heap.size:=by simp [World.setCell]
 have hs1:(((wr.setCell ⟨g,1+k,none⟩ (.slice (some ⟨wr.heap.size,0,none⟩) n n)).alloc (.cells (Array.replicate n (.int .u64 0)) 23)).drew).heap.size=wr.heap.size+1:=by show((wr.setCell ⟨g,1+k,none⟩ (.slice (some ⟨wr.heap.size,0,none⟩) n n)).alloc _).heap.size=_;rw [World.size_alloc,hs0]
 refine⟨_,fun j=> if j=k then wr.heap.size else bs j,((h1.set (1+k) _).alloc _).drew,by simpa using h2,?_,?_,?_,?_,?_,?_,?_,?_,h11,h12,by rw [hs1];omega,?_,h15.elim fun xs h=> ⟨xs,(h.kept kS (by omega)).kept kA (fun h=> h)⟩⟩
 ·rw [Array.getElem?_setIfInBounds,if_neg (by omega)];exact h3
 ·intro i hi
  rw [Array.getElem?_setIfInBounds]
  by_cases hik:i=k
  ·subst hik;simp;omega
  ·rw [if_neg (by omega)];simp only [if_neg hik];exact h4 i (by omega)
 ·rw [Array.getElem?_setIfInBounds,if_neg (by omega)];exact h5
 ·rw [Array.getElem?_setIfInBounds,if_neg (by omega)];exact h6
 ·rw [Array.getElem?_setIfInBounds,if_neg (by omega)];exact h7
 ·intro i hi
  rw [hs1]
  by_cases hik:i=k
  ·subst hik
   simp only [if_true]
   refine⟨?_,by omega,by omega⟩
   have:=(Blk.new_at (wr.setCell ⟨g,1+i,none⟩ (.slice (some ⟨wr.heap.size,0,none⟩) n n)) 23 (Array.replicate n (.int .u64 0)) wr.heap.size hs0.symm).drew
   simpa using this
  ·simp only [if_neg hik]
   obtain⟨g1,g2,g3⟩:=h8 i (by omega)
   exact⟨(g1.kept kS (by omega)).kept kA (fun h=> h),g2,by omega⟩
 ·intro i j hi hj he
  by_cases hik:i=k <;> by_cases hjk:j=k
  ·omega
  ·simp only [hik,if_true,if_neg hjk] at he
   have:=(h8 j (by omega)).2.2
   omega
  ·simp only [hjk,if_true,if_neg hik] at he
   have:=(h8 i (by omega)).2.2
   omega
  ·simp only [if_neg hik,if_neg hjk] at he
   exact h9 i j (by omega) (by omega) he
 ·exact(h10.kept kS (fun b hb e=> by omega)).kept kA (fun _ _ h=> h)
 ·exact(h14.step kS (fun b hb e=> by omega)).trans kA
theorem NRel.done {w wr:World} {d n:Nat} {zs:List Int} {seed:Int} {g bt ct:Nat} (hd:1≤d∧d≤4) (hn:1≤n∧n≤256) (s0:0≤seed) (s1:seed<18446744073709551616) (hz:zs.length=16) (hzb:∀z∈zs,0≤z∧z<18446744073709551616)
  (hwg:w.heap.size≤g) (h:NRel w d n zs seed g bt ct d wr):Ztf w d n zs seed (.returned (.tuple #[.pointer (some ⟨g,0,none⟩),.int .i64 0])) wr:=by
 obtain⟨cs,bs,h1,h2,h3,h4,h5,h6,h7,h8,h9,h10,h11,h12,h13,h14,h15⟩:=h
 refine⟨g,bs,bt,ct,rfl,⟨⟨cs,h1,h3,h4,h5,h6,h7⟩,fun i hi=> ?_,h10.more (by omega),fun i hi=> by have:=(h8 i hi).2.1;omega,h9,⟨hwg,h13⟩,fun i hi=> ⟨by have:=(h8 i hi).2.1;omega,(h8 i hi).2.2⟩,⟨h11,by omega⟩,Cmp.fine_news d n,hz,hzb,⟨s0,s1⟩,hd,hn,⟨by omega,by omega⟩,h15⟩,by omega,h14⟩
 have:=(h8 i hi).1
 have e:(Cmp.news d n).getD i []=List.replicate n 0:=by simp [Cmp.news,List.getD,hi]
 rw [e,List.map_replicate]
 exact this
theorem Zub {w:World} {B:Nat} {A:Option Addr} {c:Nat} (d n:Nat) (hd:1≤d∧d≤4) (hn:1≤n∧n≤256) (seed:Int) (s0:0≤seed) (s1:seed<18446744073709551616) (zs:List Int) (hzb:∀z∈zs,0≤z∧z<18446744073709551616)
  (hr:Rd w B A 1 16 (zs.map (.int .u64))):
  Calls Tryz.prog 184 #[.int .i64 d,.int .i64 n,.slice A 16 c,.int .u64 seed] w (Ztf w d n zs seed):=by
 have HC:=zz (fun w=> Hash.check_16 A c w)
 have HCL:=zz (Zgo (c:=c) hr (by omega))
 have hzl:zs.length=16:=by simpa using hr.1
 have HZL:=zz hzl
 have HZB:=zz hzb
 have hmk:=fun w=> Zei n (by omega) w
 clear hr hzl hzb
 go_enter Tryz.func184,Tryz.ntmps184
 go_wp2_with fail
 refine(HC.out _).mono ?_
 rintro e w2 ⟨rfl,rfl⟩
 go_wp2_with fail
 refine HCL.out.mono ?_
 rintro e w1 ⟨A1,c1,rfl,o1,k1⟩
 obtain⟨bt,rfl,hbt,hbt'⟩:=o1.some_ (by omega)
 have RT:=zz (o1.rd (by omega))
 have TB:=zz (o1.blk ((Za0 _ _ _).2 rfl))
 have K1:=zz k1
 clear o1 k1
 go_wp2_with fail
 have hsz:=K1.out.size
 have hN:NRel w d n zs seed w1.heap.size bt c1 0 (w1.alloc (.cells #[.int .i64 d,.slice none 0 0,.slice none 0 0,.slice none 0 0,.slice none 0 0,.slice (some ⟨bt,0,none⟩) 16 c1,.int .u64 seed,.int .u64 0] 327)):=
  ⟨_,fun _=> 0,Blk.new _ _ _,rfl,rfl,fun i hi=> by omega,rfl,rfl,rfl,fun i hi=> by omega,fun i j hi hj _=> by omega,RT.out.kept ((Kz0 NO w1).alloc _) (fun _ _ h=> h),hbt,hbt',by simp,K1.out.alloc _,TB.out.elim fun xs h=> ⟨xs,h.alloc _⟩⟩
 go_loopw [39] (fun i wr=> ∃k:Nat,k≤d∧i= .int .i64 k∧NRel w d n zs seed w1.heap.size bt c1 k wr) (fun i _=> d-(intOf i).toNat)
 case atStart=> exact⟨0,by omega,rfl,hN⟩
 case round=>
  obtain⟨k,hk,rfl,hr⟩:=hrel
  clear hN
  by_cases hlt:k<d
  ·have hstep:=NRel.step (by omega) hsz hr
   obtain⟨cs,bs,h1,h2,_⟩:=hr
   have f1:=h1.frozen (1+k)
   have c1':=h1.cell (1+k)
   rw [Array.getElem?_eq_getElem (by omega)] at c1'
   generalize cs[1+k]'(by omega)=v at*
   have hg:=h1.lt
   have HSTEP:=zz hstep
   have hkI:(k:Int)<4:=by omega
   have hk0:(0:Int)≤(k:Int):=by omega
   clear h1 h2 hstep
   go_wp2_with fail
   go_region
   go_wp2_with fail
   go_roundw
   case rel=> exact⟨k+1,by omega,by go_num,HSTEP.out⟩
   case measure=> simp [intOf];omega
  ·obtain rfl:k=d:=by omega
   go_wp2_with fail
   go_ret2
   exact hr.done hd hn s0 s1 HZL.out HZB.out hsz
end Go.Proofs.YtjamiaamngalgaaGreat
