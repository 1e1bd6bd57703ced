/-
  Parts: Configurations, plainly:; More on the numbers of s; Size classes whose count; The sizes that a valid c; Number. No conditions beyond those of the statement.
-/

set_option linter.unusedVariables false
set_option linter.unusedSimpArgs false
set_option maxRecDepth 1000000
set_option maxHeartbeats 4000000
namespace Go.Proofs.YtjamiaamngalgaaGreat.Cfp
def Zab:Int→List (Int × Int)→Int
 | _,[]=> 0
 | p,c :: l=> if c.1<1∨4096<c.1∨c.2<0∨65536<c.2 then 1 else if c.1≤p then 6 else Zab c.1 l
def Za7 (l:List (Int × Int)):Int:=if l.length=0∨8<l.length then 1 else Zab 0 l
def fit (l:List (Int × Int)) (size:Int):Nat:=l.findIdx (fun c=> decide (size≤c.1))
def Zbk (o:List Int) (i:Nat) (n:Int):List Int:=o.set i (o.getD i 0+n)
theorem Zb8 (o:List Int) (i:Nat) (n:Int):(Zbk o i n).length=o.length:=by simp [Zbk]
def Zca (o:List Int) (t:Int):Nat→List Int
 | 0=> o
 | i+1=> Zbk (Zca o t i) i t
theorem Zc9 (o:List Int) (t:Int) (i:Nat):(Zca o t i).length=o.length:=by
 induction i with
 | zero=> rfl
 | succ i ih=> rw [Zca,Zb8,ih]
def Asc:Int→List (Int × Int)→Prop
 | _,[]=> True
 | p,c :: l=> p<c.1∧Asc c.1 l
theorem Zgp:∀(l:List (Int × Int)) (p:Int),Zab p l=0→Asc p l∧∀c∈l,1≤c.1∧c.1≤4096∧0≤c.2∧c.2≤65536
 | [],p,_=> ⟨trivial,by simp⟩
 | c :: l,p,h=> by
   unfold Zab at h
   split at h
   ·simp at h
   split at h
   ·simp at h
   rename_i h1 h2
   obtain⟨h3,h4⟩:=Zgp l c.1 h
   refine⟨⟨by omega,h3⟩,?_⟩
   intro d hd
   rcases List.mem_cons.1 hd with rfl | hd
   ·omega
   ·exact h4 d hd
theorem Zqk:∀(l:List (Int × Int)) (p:Int),Asc p l→∀c∈l,p<c.1
 | [],p,_,c,hc=> by cases hc
 | d :: l,p,⟨h1,h2⟩,c,hc=> by
   rcases List.mem_cons.1 hc with rfl | hc
   ·exact h1
   ·have:=Zqk l d.1 h2 c hc;omega
theorem Zet:∀(l:List (Int × Int)) (p:Int),Asc p l→∀(i j:Nat) (hi:i<l.length) (hj:j<l.length),i<j→l[i].1<l[j].1
 | d :: l,p,⟨h1,h2⟩,0,j+1,hi,hj,_=> by simpa using Zqk l d.1 h2 _ (List.getElem_mem (by simpa using hj))
 | d :: l,p,⟨h1,h2⟩,i+1,j+1,hi,hj,h=> by simpa using Zet l d.1 h2 i j (by simpa using hi) (by simpa using hj) (by omega)
theorem Zc0 (l:List (Int × Int)) (s:Int) (i:Nat) (h:i<fit l s) (hi:i<l.length):l[i].1<s:=by
 have:=List.not_of_lt_findIdx (p:=fun c:Int × Int=> decide (s≤c.1)) h
 simp at this;omega
theorem Zeo (l:List (Int × Int)) (s:Int) (h:fit l s<l.length):s≤l[fit l s].1:=by
 have:=List.findIdx_getElem (xs:=l) (p:=fun c:Int × Int=> decide (s≤c.1)) (w:=h)
 have h2:=of_decide_eq_true this
 exact h2
theorem Zuv (l:List (Int × Int)) (s:Int):fit l s≤l.length:=List.findIdx_le_length
theorem Zqb (l:List (Int × Int)) (s:Int) (i:Nat) (hi:i<l.length) (h1:s≤l[i].1) (h2:∀j (hj:j<i),(l[j]'(by omega)).1<s):fit l s=i:=by
 rcases Nat.lt_trichotomy (fit l s) i with h | h | h
 ·have:=Zeo l s (by omega)
  have:=h2 _ h
  omega
 ·exact h
 ·have:=Zc0 l s i h hi
  omega
theorem Zuu (l:List (Int × Int)) (s:Int) (h0:0<l.length) (h:s≤(l[l.length-1]'(by omega)).1):fit l s<l.length:=by
 rcases Nat.lt_or_ge (fit l s) l.length with h1 | h1
 ·exact h1
 ·have:=Zc0 l s (l.length-1) (by omega) (by omega)
  omega
theorem Zoz (l:List (Int × Int)) (s t:Int) (h:s≤t):fit l s≤fit l t:=by
 rcases Nat.lt_or_ge (fit l t) (fit l s) with h1 | h1
 ·have h2:=Zuv l s
  have h3:=Zc0 l s (fit l t) h1 (by omega)
  have h4:=Zeo l t (by omega)
  omega
 ·exact h1
theorem Zoy (l:List (Int × Int)) (p:Int) (ha:Asc p l) (n:Int) (h:fit l (n+1)<l.length):fit l (n+1)=fit l n∨fit l (n+1)=fit l n+1:=by
 have h1:=Zoz l n (n+1) (by omega)
 rcases Nat.lt_or_ge (fit l n+1) (fit l (n+1)) with h2 | h2
 ·exfalso
  have h3:=Zeo l n (by omega)
  have h4:=Zet l p ha (fit l n) (fit l n+1) (by omega) (by omega) (by omega)
  have h5:=Zc0 l (n+1) (fit l n+1) h2 (by omega)
  omega
 ·omega
theorem Zsi (l:List (Int × Int)) (h0:0<l.length) (hb:∀c∈l,1≤c.1):fit l 1=0:=
 Zqb l 1 0 h0 (hb _ (List.getElem_mem _)) (fun j hj=> by omega)
structure Cfg where
 length:Int
 lateness:Int
 windows:Int
 shards:Int
 spread:Int
 queue:Int
 mode:Int
 slots:Int
 exact_:Int
 promote:Int
 depth:Int
 width:Int
 top:Int
 key:Int
 seed:Int
def most (c:Cfg):Int:=max (max (max (8*c.width) 32) 24) c.key
def Za4 (c:Cfg):Int:=c.shards*c.windows*(c.slots+c.exact_)
def Zac (c:Cfg) (l:List (Int × Int)):List Int:=
 Zca (Zbk (Zbk (Zbk (List.replicate l.length 0) (fit l (8*c.width)) (c.shards*c.windows*c.depth)) (fit l 32) (Za4 c)) (fit l 24) (c.shards*c.queue))
  (Za4 c+c.shards*c.queue) (fit l c.key+1)
def Zhe (d:List Int) (l:List (Int × Int)):Bool:=(d.zip l).any (fun x=> decide (x.2.2<x.1))
end Go.Proofs.YtjamiaamngalgaaGreat.Cfp
namespace Go.Proofs.YtjamiaamngalgaaGreat.Cfp
theorem Zgq (o:List Int) (i:Nat) (n:Int) (j:Nat) (hj:j<o.length):(Zbk o i n).getD j 0=o.getD j 0+if j=i then n else 0:=by
 unfold Zbk
 by_cases h:j=i
 ·subst h;simp [List.getD,hj]
 ·simp [List.getD,List.getElem?_set,h,Ne.symm h,fun e:i=j=> h e.symm]
theorem Zlk (o:List Int) (t:Int) (i:Nat) (j:Nat) (hj:j<o.length):(Zca o t i).getD j 0=o.getD j 0+if j<i then t else 0:=by
 induction i with
 | zero=> simp [Zca]
 | succ i ih=>
   rw [Zca,Zgq _ _ _ _ (by rw [Zc9];exact hj),ih]
   by_cases h1:j<i
   ·rw [if_pos h1,if_neg (by omega),if_pos (by omega)];omega
   ·by_cases h2:j=i
    ·rw [if_neg h1,if_pos h2,if_pos (by omega)];omega
    ·rw [if_neg h1,if_neg h2,if_neg (by omega)];omega
def Bnd (o:List Int) (M:Int):Prop:=∀j,j<o.length→0≤o.getD j 0∧o.getD j 0≤M
theorem Bnd.zero (n:Nat):Bnd (List.replicate n 0) 0:=fun j hj=> by simp [List.getD] at hj ⊢;simp [List.getElem?_replicate];split <;> simp
theorem Bnd.add {o:List Int} {M x N:Int} (h:Bnd o M) (i:Nat) (h0:0≤x) (h1:x≤N):Bnd (Zbk o i x) (M+N):=fun j hj=> by
 rw [Zb8] at hj
 have:=h j hj
 rw [Zgq _ _ _ _ hj]
 split <;> omega
theorem Bnd.keys {o:List Int} {M x N:Int} (h:Bnd o M) (i:Nat) (h0:0≤x) (h1:x≤N):Bnd (Zca o x i) (M+N):=fun j hj=> by
 rw [Zc9] at hj
 have:=h j hj
 rw [Zlk _ _ _ _ hj]
 split <;> omega
def upto (l:List (Int × Int)) (q:Nat):Nat:=if q≤1 then 0 else fit l ((q-1:Nat):Int)+1
theorem Zk4 (l:List (Int × Int)) (h0:0<l.length) (p:Int) (ha:Asc p l) (hb:∀c∈l,1≤c.1) (q:Nat) (hq:1≤q) (hf:fit l (q:Int)<l.length):
  upto l (q+1)=fit l (q:Int)+1∧(fit l (q:Int)+1=upto l q∨fit l (q:Int)=upto l q):=by
 refine⟨by unfold upto;rw [if_neg (by omega)];simp,?_⟩
 unfold upto
 by_cases h1:q≤1
 ·obtain rfl:q=1:=by omega
  right
  rw [if_pos (by omega)]
  exact Zsi l h0 hb
 ·rw [if_neg h1]
  have:=Zoy l p ha ((q-1:Nat):Int) (by rw [show(((q-1:Nat):Int)+1)=(q:Int) from by omega];exact hf)
  rw [show(((q-1:Nat):Int)+1)=(q:Int) from by omega] at this
  omega
end Go.Proofs.YtjamiaamngalgaaGreat.Cfp
namespace Go.Proofs.YtjamiaamngalgaaGreat.Cfp
def putN (l:List (Int × Int)) (i:Nat) (z:Int):List (Int × Int):=l.set i ((l.getD i (0,0)).1,z)
def Zb9 (l:List (Int × Int)) (zs:List Int):Nat→List (Int × Int)
 | 0=> l
 | k+1=> putN (Zb9 l zs k) k (zs.getD k 0)
theorem Zf4 (l:List (Int × Int)) (i:Nat) (z:Int):(putN l i z).length=l.length:=by simp [putN]
theorem Zbj (l:List (Int × Int)) (zs:List Int) (k:Nat):(Zb9 l zs k).length=l.length:=by
 induction k with
 | zero=> rfl
 | succ k ih=> rw [Zb9,Zf4,ih]
theorem Zf5 (l:List (Int × Int)) (i:Nat) (z:Int):(putN l i z).map Prod.fst=l.map Prod.fst:=by
 refine List.ext_getElem? fun j=> ?_
 unfold putN
 rw [List.getElem?_map,List.getElem?_map,List.getElem?_set]
 by_cases h:i=j
 ·subst h
  by_cases h2:i<l.length
  ·simp [h2,List.getD]
  ·simp [h2]
 ·simp [h]
theorem Zcx (l:List (Int × Int)) (zs:List Int) (k:Nat):(Zb9 l zs k).map Prod.fst=l.map Prod.fst:=by
 induction k with
 | zero=> rfl
 | succ k ih=> rw [Zb9,Zf5,ih]
theorem Zfe {l l':List (Int × Int)} (h:l.map Prod.fst=l'.map Prod.fst) (s:Int):fit l s=fit l' s:=by
 have h1:∀m:List (Int × Int),fit m s=(m.map Prod.fst).findIdx (fun a=> decide (s≤a)):=fun m=> by
  unfold fit;rw [List.findIdx_map];rfl
 rw [h1,h1,h]
theorem Zdd {l l':List (Int × Int)} (h:l.map Prod.fst=l'.map Prod.fst) (c:Cfg):Zac c l=Zac c l':=by
 have hl:l.length=l'.length:=by have:=congrArg List.length h;simpa using this
 unfold Zac
 rw [Zfe h,Zfe h,Zfe h,Zfe h,hl]
theorem Zaw (c:Cfg) (l:List (Int × Int)):(Zac c l).length=l.length:=by
 unfold Zac;rw [Zc9,Zb8,Zb8,Zb8];simp
theorem Zm8 (l:List (Int × Int)) (zs:List Int) (k j:Nat) (hj:j<k) (hk:k≤l.length):((Zb9 l zs k).getD j (0,0)).2=zs.getD j 0:=by
 induction k with
 | zero=> omega
 | succ k ih=>
   have hl:=Zbj l zs k
   rw [Zb9]
   unfold putN
   by_cases h:j=k
   ·subst h
    simp [List.getD,List.getElem?_set,hl]
    rw [if_pos (by omega)]
    simp
   ·have:=ih (by omega) (by omega)
    have hne:¬k=j:=fun e=> h e.symm
    simp only [List.getD,List.getElem?_set,if_neg hne] at this ⊢
    exact this
theorem Zgh (l:List (Int × Int)) (zs:List Int) (hz:zs.length=l.length):(Zb9 l zs l.length).map Prod.snd=zs:=by
 refine List.ext_getElem (by simp [Zbj,hz]) fun j h1 h2=> ?_
 have h3:j<l.length:=by rw [←hz];exact h2
 have:=Zm8 l zs l.length j h3 (Nat.le_refl _)
 have h4:j<(Zb9 l zs l.length).length:=by rw [Zbj];exact h3
 simp [List.getD,h4,h2] at this
 simpa using this
end Go.Proofs.YtjamiaamngalgaaGreat.Cfp
namespace Go.Proofs.YtjamiaamngalgaaGreat.Cfp
def give (l:List (Int × Int)) (o:List Int) (x:Int × Int):List Int:=Zbk o (fit l x.1) x.2
def Zc8 (key t:Int):Int→List (Int × Int)→List (Int × Int)
 | _,[]=> []
 | least,x :: l=> if key<least then [] else(least,t) :: Zc8 key t (x.1+1) l
def least (l:List (Int × Int)) (i:Nat):Int:=if i=0 then 1 else(l.getD (i-1) (0,0)).1+1
theorem Zli (l:List (Int × Int)) (p:Int) (ha:Asc p l) (hb:∀c∈l,1≤c.1) (i:Nat) (hi:i<l.length):fit l (least l i)=i:=by
 refine Zqb l _ i hi ?_ ?_
 ·unfold least
  split
  ·exact hb _ (List.getElem_mem _)
  ·have:=Zet l p ha (i-1) i (by omega) hi (by omega)
   simp only [List.getD,List.getElem?_eq_getElem (show i-1<l.length by omega),Option.getD_some]
   omega
 ·intro j hj
  unfold least
  rw [if_neg (by omega)]
  simp only [List.getD,List.getElem?_eq_getElem (show i-1<l.length by omega),Option.getD_some]
  rcases Nat.lt_or_ge j (i-1) with h | h
  ·have:=Zet l p ha j (i-1) (by omega) (by omega) h
   omega
  ·obtain rfl:j=i-1:=by omega
   omega
theorem Zga (l:List (Int × Int)) (p:Int) (ha:Asc p l) (hb:∀c∈l,1≤c.1) (o:List Int) (key t:Int) (hk:1≤key) (hf:fit l key<l.length):
  ∀(m i:Nat),l.length-i=m→i≤l.length→i≤fit l key+1→(Zc8 key t (least l i) (l.drop i)).foldl (give l) (Zca o t i)=Zca o t (fit l key+1)
 | 0,i,hm,hi,hj=> by
   obtain rfl:i=l.length:=by omega
   rw [List.drop_length,show l.length=fit l key+1 from by omega]
   rfl
 | m+1,i,hm,hi,hj=> by
   have hil:i<l.length:=by omega
   rw [List.drop_eq_getElem_cons hil]
   unfold Zc8
   have hfk:=Zeo l key hf
   by_cases hlt:key<least l i
   ·rw [if_pos hlt]
    have h0:i≠0:=by rintro rfl;unfold least at hlt;simp at hlt;omega
    unfold least at hlt
    rw [if_neg h0] at hlt
    simp only [List.getD,List.getElem?_eq_getElem (show i-1<l.length by omega),Option.getD_some] at hlt
    have:fit l key≤i-1:=by
     rcases Nat.lt_or_ge (i-1) (fit l key) with h | h
     ·have:=Zc0 l key (i-1) h (by omega)
      omega
     ·exact h
    rw [show i=fit l key+1 from by omega]
    rfl
   ·rw [if_neg hlt,List.foldl_cons]
    have e1:give l (Zca o t i) (least l i,t)=Zca o t (i+1):=by
     unfold give
     rw [Zli l p ha hb i hil]
     rfl
    have e2:(l[i].1+1:Int)=least l (i+1):=by
     unfold least
     rw [if_neg (by omega)]
     simp [List.getD,hil]
    rw [e1,e2]
    refine Zga l p ha hb o key t hk hf m (i+1) (by omega) (by omega) ?_
    rcases Nat.lt_or_ge (fit l key) i with h | h
    ·exfalso
     have h0:i≠0:=by omega
     unfold least at hlt
     rw [if_neg h0] at hlt
     simp only [List.getD,List.getElem?_eq_getElem (show i-1<l.length by omega),Option.getD_some] at hlt
     rcases Nat.lt_or_ge (fit l key) (i-1) with h2 | h2
     ·have:=Zet l p ha (fit l key) (i-1) (by omega) (by omega) h2
      omega
     ·have e:i-1=fit l key:=by omega
      have:l[i-1].1=l[fit l key].1:=by simp only [e]
      omega
    ·omega
def Zcu (c:Cfg) (l:List (Int × Int)):List (Int × Int):=
 (8*c.width,c.shards*c.windows*c.depth) :: (32,Za4 c) :: (24,c.shards*c.queue) :: Zc8 c.key (Za4 c+c.shards*c.queue) 1 l
theorem Zjh (c:Cfg) (l:List (Int × Int)) (p:Int) (ha:Asc p l) (hb:∀c∈l,1≤c.1) (hk:1≤c.key) (hf:fit l c.key<l.length):
  (Zcu c l).foldl (give l) (List.replicate l.length 0)=Zac c l:=by
 unfold Zcu Zac
 simp only [List.foldl_cons]
 have:=Zga l p ha hb (give l (give l (give l (List.replicate l.length 0) (8*c.width,c.shards*c.windows*c.depth)) (32,Za4 c)) (24,c.shards*c.queue)) c.key (Za4 c+c.shards*c.queue) hk hf l.length 0 rfl (by omega) (by omega)
 exact this
end Go.Proofs.YtjamiaamngalgaaGreat.Cfp
namespace Go.Proofs.YtjamiaamngalgaaGreat.Vp
def val (l:List UInt8):Nat:=l.foldr (fun c n=> n*128+c.toNat % 128) 0
def scan:List UInt8→Nat→Nat
 | [],_=> 0
 | _ :: _,0=> 0
 | c :: l,f+1=> if 128≤c.toNat then scan l f+1 else 0
def bad (l:List UInt8) (k:Nat):Prop:=(k=9∧1<(l.getD k 0).toNat)∨(0<k∧(l.getD k 0).toNat=0)
instance (l:List UInt8) (k:Nat):Decidable (bad l k):=by unfold bad;exact inferInstance
def Zam (l:List UInt8):Nat × Nat × Nat:=
 if scan l 10=10 then(0,0,3) else if scan l 10=l.length then(0,0,2) else if bad l (scan l 10) then(0,0,3) else(val (l.take (scan l 10+1)),scan l 10+1,0)
def encF:Nat→Nat→List UInt8
 | 0,n=> [n.toUInt8]
 | f+1,n=> if n<128 then [n.toUInt8] else(n % 128+128).toUInt8 :: encF f (n / 128)
def enc (n:Nat):List UInt8:=encF 9 n
theorem Zbm (n:Nat) (h:n<256):n.toUInt8.toNat=n:=by
 show n % 256=n
 omega
theorem Zco (c:UInt8) (l:List UInt8):val (c :: l)=val l*128+c.toNat % 128:=rfl
theorem Zpy (l:List UInt8):val l<128 ^ l.length:=by
 induction l with
 | nil=> simp [val]
 | cons c l ih=> rw [Zco,List.length_cons,Nat.pow_succ];omega
theorem Zew (l:List UInt8) (c:UInt8):val (l++ [c])=val l+128 ^ l.length*(c.toNat % 128):=by
 induction l with
 | nil=> simp [val]
 | cons a l ih=>
   rw [List.cons_append,Zco,ih,Zco,List.length_cons,Nat.pow_succ,Nat.add_mul]
   rw [show 128 ^ l.length*(c.toNat % 128)*128=128 ^ l.length*128*(c.toNat % 128) from by rw [Nat.mul_assoc,Nat.mul_comm _ 128,←Nat.mul_assoc]]
   omega
theorem Zhh (f n:Nat):1≤(encF f n).length:=by
 cases f with
 | zero=> simp [encF]
 | succ f=> unfold encF;split <;> simp
theorem Zsx (f n:Nat):(encF f n).length≤f+1:=by
 induction f generalizing n with
 | zero=> simp [encF]
 | succ f ih=> unfold encF;split <;> simp;exact ih _
theorem Zae (n:Nat):1≤(enc n).length∧(enc n).length≤10:=⟨Zhh 9 n,Zsx 9 n⟩
theorem Zqn (f n:Nat) (h:n<128 ^ (f+1)):val (encF f n)=n:=by
 induction f generalizing n with
 | zero=> simp only [encF,val,List.foldr];rw [Zbm n (by omega)];omega
 | succ f ih=>
   unfold encF
   split
   ·simp only [val,List.foldr];rw [Zbm n (by omega)];omega
   ·rw [Zco,ih _ (by rw [Nat.pow_succ] at h;omega),Zbm _ (by omega)];omega
theorem Zi0 (f n g:Nat) (a:List UInt8) (h:n<128 ^ (f+1)) (hg:f<g):scan (encF f n++a) g=(encF f n).length-1:=by
 induction f generalizing n g with
 | zero=>
   obtain⟨g,rfl⟩:∃k,g=k+1:=⟨g-1,by omega⟩
   simp only [encF,List.cons_append,List.nil_append,scan,List.length_cons,List.length_nil]
   rw [Zbm n (by omega),if_neg (by omega)]
 | succ f ih=>
   obtain⟨g,rfl⟩:∃k,g=k+1:=⟨g-1,by omega⟩
   unfold encF
   split
   ·simp only [List.cons_append,List.nil_append,scan,List.length_cons,List.length_nil]
    rw [Zbm n (by omega),if_neg (by omega)]
   ·simp only [List.cons_append,scan,List.length_cons]
    rw [Zbm _ (by omega),if_pos (by omega),ih _ _ (by rw [Nat.pow_succ] at h;omega) (by omega)]
    have:=Zhh f (n / 128)
    omega
theorem Zoi (f n:Nat) (h:n<128 ^ (f+1)):((encF f n).getD ((encF f n).length-1) 0).toNat=n / 128 ^ ((encF f n).length-1)∧(1<(encF f n).length→1≤n / 128 ^ ((encF f n).length-1)):=by
 induction f generalizing n with
 | zero=> simp only [encF];simp;omega
 | succ f ih=>
   unfold encF
   split
   ·simp;omega
   ·have h1:=Zhh f (n / 128)
    have h2:=ih (n / 128) (by rw [Nat.pow_succ] at h;omega)
    obtain⟨k,hk⟩:∃k,(encF f (n / 128)).length=k+1:=⟨(encF f (n / 128)).length-1,by omega⟩
    simp only [List.length_cons,hk,Nat.add_sub_cancel,List.getD_cons_succ] at h2 ⊢
    rw [Nat.pow_succ,Nat.mul_comm,←Nat.div_div_eq_div_mul]
    refine⟨h2.1,fun _=> ?_⟩
    rcases Nat.eq_zero_or_pos k with rfl | hk'
    ·simp;omega
    ·exact h2.2 (by omega)
theorem Zc4 (n:Nat) (h:n<18446744073709551616) (a:List UInt8):Zam (enc n++a)=(n,(enc n).length,0):=by
 have hl:=Zae n
 have hb:n<128 ^ (9+1):=by omega
 have hs:=Zi0 9 n 10 a hb (by omega)
 have hla:=Zoi 9 n hb
 have hv:=Zqn 9 n hb
 change scan (enc n++a) 10=(enc n).length-1 at hs
 change ((enc n).getD ((enc n).length-1) 0).toNat=n / 128 ^ ((enc n).length-1)∧(1<(enc n).length→1≤n / 128 ^ ((enc n).length-1)) at hla
 change val (enc n)=n at hv
 have hget:((enc n++a).getD ((enc n).length-1) 0)=(enc n).getD ((enc n).length-1) 0:=by
  rw [List.getD,List.getD,List.getElem?_append_left (by omega)]
 have hnb:¬bad (enc n++a) ((enc n).length-1):=by
  unfold bad
  rw [hget,hla.1]
  rintro(⟨h1,h2⟩ | ⟨h1,h2⟩)
  ·rw [h1] at h2;omega
  ·have:=hla.2 (by omega);omega
 unfold Zam
 rw [hs,if_neg (by omega),if_neg (by simp;omega),if_neg hnb,show(enc n).length-1+1=(enc n).length by omega,List.take_left,hv]
theorem Zey (l:List UInt8) (f:Nat):scan l f≤f∧scan l f≤l.length:=by
 induction l generalizing f with
 | nil=> simp [scan]
 | cons c l ih=>
   cases f with
   | zero=> simp [scan]
   | succ f=> unfold scan;have:=ih f;split <;> simp <;> omega
theorem Zdp (l:List UInt8) (f j:Nat) (h:j<scan l f):128≤(l.getD j 0).toNat:=by
 induction l generalizing f j with
 | nil=> simp [scan] at h
 | cons c l ih=>
   cases f with
   | zero=> simp [scan] at h
   | succ f=>
     unfold scan at h
     split at h
     ·cases j with
      | zero=> simpa
      | succ j=> simpa using ih f j (by omega)
     ·omega
theorem Zh3 (l:List UInt8) (f:Nat) (h:scan l f<f) (h2:scan l f<l.length):(l.getD (scan l f) 0).toNat<128:=by
 induction l generalizing f with
 | nil=> simp at h2
 | cons c l ih=>
   cases f with
   | zero=> omega
   | succ f=>
     unfold scan at h h2 ⊢
     split
     ·rename_i hc
      rw [if_pos hc] at h h2
      simpa using ih f (by omega) (by simpa using h2)
     ·simpa using by omega
theorem Zrd (l:List UInt8) (k f:Nat) (hk:k≤f) (hy:∀j,j<k→128≤(l.getD j 0).toNat) (hn:k<f→k<l.length→(l.getD k 0).toNat<128) (hl:k≤l.length):scan l f=k:=by
 rcases Nat.lt_trichotomy (scan l f) k with h | h | h
 ·have h1:=Zh3 l f (by omega) (by omega)
  have h2:=hy _ h
  omega
 ·exact h
 ·have h1:=Zdp l f k h
  have h2:=Zey l f
  have h3:=hn (by omega) (by omega)
  omega
theorem Zsw (f:Nat) (l:List UInt8) (k:Nat) (hk:k≤f) (hl:k<l.length) (hy:∀j,j<k→128≤(l.getD j 0).toNat) (hn:(l.getD k 0).toNat<128) (hz:k=0∨(l.getD k 0).toNat≠0):
  encF f (val (l.take (k+1)))=l.take (k+1):=by
 induction l generalizing f k with
 | nil=> simp at hl
 | cons c l ih=>
   cases k with
   | zero=>
     simp only [List.getD_cons_zero] at hn
     have e:val (List.take (0+1) (c :: l))=c.toNat:=by simp [val];omega
     rw [e]
     cases f with
     | zero=> simp [encF]
     | succ f=> unfold encF;rw [if_pos hn];simp
   | succ k=>
     obtain⟨f,rfl⟩:∃g,f=g+1:=⟨f-1,by omega⟩
     have hc:128≤c.toNat:=by simpa using hy 0 (by omega)
     have hc':=c.toNat_lt
     simp only [List.getD_cons_succ] at hn hz
     have ih':=ih f k (by omega) (by simpa using hl) (fun j hj=> by simpa using hy (j+1) (by omega)) hn (by omega)
     rw [List.take_succ_cons,Zco]
     have hpos:1≤val (l.take (k+1)):=by
      have hk':k<l.length:=by simpa using hl
      rw [List.take_succ_eq_append_getElem hk',Zew]
      have:l[k]=l.getD k 0:=by simp [List.getD,hk']
      rw [this]
      have h1:1≤(l.getD k 0).toNat % 128:=by omega
      have h2:1≤128 ^ (l.take k).length:=Nat.pow_pos (by omega)
      have:=Nat.mul_le_mul h2 h1
      omega
     unfold encF
     rw [if_neg (by omega),show(val (l.take (k+1))*128+c.toNat % 128) / 128=val (l.take (k+1)) by omega,ih']
     congr 1
     rw [show(val (l.take (k+1))*128+c.toNat % 128) % 128+128=c.toNat by omega]
     simp
theorem Zf6 (l:List UInt8) (h:(Zam l).2.2=0):1≤(Zam l).2.1∧(Zam l).2.1≤l.length∧enc (Zam l).1=l.take (Zam l).2.1∧(Zam l).1<18446744073709551616:=by
 unfold Zam at h ⊢
 split at h
 ·simp at h
 split at h
 ·simp at h
 split at h
 ·simp at h
 rename_i h1 h2 h3
 rw [if_neg h1,if_neg h2,if_neg h3]
 have hs:=Zey l 10
 have hn:=Zh3 l 10 (by omega) (by omega)
 have hy:=fun j=> Zdp l 10 j
 refine⟨by simp,by simp;omega,?_,?_⟩
 ·refine Zsw 9 l _ (by omega) (by omega) hy hn ?_
  unfold bad at h3
  rcases Nat.eq_zero_or_pos (scan l 10) with h0 | h0
  ·exact .inl h0
  ·exact .inr fun hz=> h3 (.inr ⟨h0,hz⟩)
 ·show val (l.take (scan l 10+1))<_
  generalize hk:scan l 10=k at*
  rw [List.take_succ_eq_append_getElem (by omega),Zew]
  have e:l[k]=l.getD k 0:=by simp [List.getD,show k<l.length by omega]
  rw [e]
  have hv:=Zpy (l.take k)
  rw [List.length_take,Nat.min_eq_left (by omega)] at hv ⊢
  unfold bad at h3
  have hk9:k≤9:=by omega
  rcases Nat.lt_or_ge k 9 with hlt | hge
  ·have h5:128 ^ k≤128 ^ 8:=Nat.pow_le_pow_right (by omega) (by omega)
   have h6:128 ^ k*((l.getD k 0).toNat % 128)≤128 ^ 8*127:=Nat.mul_le_mul h5 (by omega)
   omega
  ·have:k=9:=by omega
   subst this
   have:(l.getD 9 0).toNat≤1:=by
    rcases Nat.lt_or_ge 1 (l.getD 9 0).toNat with h | h
    ·exact absurd (.inl ⟨rfl,h⟩) h3
    ·exact h
   have:128 ^ 9*((l.getD 9 0).toNat % 128)≤128 ^ 9*1:=Nat.mul_le_mul (Nat.le_refl _) (by omega)
   omega
theorem Zkz (l:List UInt8):(Zam l).2.2=0∨(Zam l).2.2=2∨(Zam l).2.2=3:=by
 unfold Zam
 split
 ·simp
 split
 ·simp
 split <;> simp
end Go.Proofs.YtjamiaamngalgaaGreat.Vp
namespace Go.Proofs.YtjamiaamngalgaaGreat.Stp
open Vp
structure St where
 buf:List UInt8
 skip:Int
 broken:Bool
structure Ch where
 body:List UInt8
 v:Int
def init:St:=⟨[],0,false⟩
def Zba (s:St) (c:UInt8):St × List Ch:=
 if s.broken=true then(s,[])
 else if 0<s.skip then(⟨s.buf,s.skip-1,s.broken⟩,[])
 else if (Zam (s.buf++ [c])).2.2=3 then(⟨[],0,true⟩,[⟨[],1⟩])
 else if (Zam (s.buf++ [c])).2.2≠0 then(⟨s.buf++ [c],s.skip,s.broken⟩,[])
 else if 4096<(Zam (s.buf++ [c])).1 then(⟨[],((Zam (s.buf++ [c])).1:Nat),false⟩,[⟨[],2⟩])
 else if (s.buf++ [c]).length-(Zam (s.buf++ [c])).2.1<(Zam (s.buf++ [c])).1 then(⟨s.buf++ [c],s.skip,s.broken⟩,[])
 else(⟨[],0,false⟩,[⟨(s.buf++ [c]).drop (Zam (s.buf++ [c])).2.1,0⟩])
def Zbc (s:St):List UInt8→St × List Ch
 | []=> (s,[])
 | c :: l=> ((Zbc (Zba s c).1 l).1,(Zba s c).2++(Zbc (Zba s c).1 l).2)
theorem Zdj (s:St) (a b:List UInt8):Zbc s (a++b)=((Zbc (Zbc s a).1 b).1,(Zbc s a).2++(Zbc (Zbc s a).1 b).2):=by
 induction a generalizing s with
 | nil=> simp [Zbc]
 | cons c a ih=> simp [Zbc,ih]
theorem Zdb (s:St) (a:List UInt8) (c:UInt8):Zbc s (a++ [c])=((Zba (Zbc s a).1 c).1,(Zbc s a).2++(Zba (Zbc s a).1 c).2):=by
 rw [Zdj];simp [Zbc]
def Inc (b:List UInt8):Prop:=(Zam b).2.2=2∨((Zam b).2.2=0∧(Zam b).1≤4096∧b.length-(Zam b).2.1<(Zam b).1)
def Good (s:St):Prop:=0≤s.skip∧s.skip<18446744073709551616∧(s.broken=false→Inc s.buf)
theorem Zlo:Inc []:= .inl rfl
theorem good_init:Good init:=⟨by decide,by decide,fun _=> Zlo⟩
theorem Zuq (b:List UInt8) (h:Inc b):b.length≤4097:=by
 rcases h with h | ⟨h1,h2,h3⟩
 ·unfold Zam at h
  split at h
  ·simp at h
  split at h
  ·rename_i h1 h2
   have:=Zey b 10
   omega
  split at h <;> simp at h
 ·obtain⟨g1,g2,g3,g4⟩:=Zf6 b h1
  have h4:(enc (Zam b).1).length≤2:=by
   generalize (Zam b).1=n at*
   unfold enc encF
   split
   ·simp
   ·unfold encF
    rw [if_pos (by omega)];simp
  rw [g3,List.length_take] at h4
  omega
theorem Zjr (s:St) (c:UInt8) (h:Good s):Good (Zba s c).1:=by
 unfold Zba
 obtain⟨h0,h1,h2⟩:=h
 have he:=Zkz (s.buf++ [c])
 have hp:=Zf6 (s.buf++ [c])
 split
 ·exact⟨h0,h1,h2⟩
 split
 ·exact⟨by simp;omega,by simp;omega,h2⟩
 split
 ·exact⟨by simp,by simp,fun hh=> by simp at hh⟩
 split
 ·exact⟨h0,h1,fun _=> .inl (by simp;omega)⟩
 split
 ·exact⟨by simp,by have:=(hp (by omega)).2.2.2;simp;omega,fun _=> Zlo⟩
 split
 ·rename_i hlast
  exact⟨h0,h1,fun _=> .inr ⟨by simp;omega,by simp;omega,hlast⟩⟩
 ·exact good_init
theorem Zjq (s:St) (l:List UInt8) (h:Good s):Good (Zbc s l).1:=by
 induction l generalizing s with
 | nil=> exact h
 | cons c l ih=> exact ih _ (Zjr s c h)
theorem Zjd (n:Nat) (hn:n<18446744073709551616) (k:Nat) (hk:k<(enc n).length):(Zam ((enc n).take k)).2.2=2:=by
 have hl:=Zae n
 have hs:=Zi0 9 n 10 [] (by omega) (by omega)
 rw [List.append_nil] at hs
 change scan (enc n) 10=(enc n).length-1 at hs
 have hlen:((enc n).take k).length=k:=by rw [List.length_take];omega
 have h1:scan ((enc n).take k) 10=k:=by
  refine Zrd _ k 10 (by omega) (fun j hj=> ?_) (fun _ h=> by omega) (by omega)
  have:=Zdp (enc n) 10 j (by omega)
  simpa [List.getD,List.getElem?_take,hj] using this
 unfold Zam
 rw [h1,if_neg (by omega),if_pos hlen.symm]
def frame (body:List UInt8):List UInt8:=enc body.length++body
theorem Zjc (body:List UInt8) (hb:body.length≤4096) (k:Nat) (hk:k<(frame body).length):Inc ((frame body).take k):=by
 have hl:=Zae body.length
 unfold frame at hk ⊢
 rcases Nat.lt_or_ge k (enc body.length).length with h | h
 ·rw [List.take_append_of_le_length (by omega)]
  exact .inl (Zjd _ (by omega) k h)
 ·rw [List.take_append,List.take_of_length_le h]
  have:=Zc4 body.length (by omega) (body.take (k-(enc body.length).length))
  right
  rw [this]
  simp at hk ⊢
  omega
theorem Zm9 (body:List UInt8) (hb:body.length≤4096) (k:Nat) (hk:k<(frame body).length):Zbc init ((frame body).take k)=(⟨(frame body).take k,0,false⟩,[]):=by
 induction k with
 | zero=> rfl
 | succ k ih=>
   have ih':=ih (by omega)
   rw [List.take_succ_eq_append_getElem (by omega),Zdb,ih']
   have hinc:=Zjc body hb (k+1) hk
   rw [List.take_succ_eq_append_getElem (by omega)] at hinc
   generalize hc:(frame body)[k]=c at*
   have e:Zba ⟨(frame body).take k,0,false⟩ c=(⟨(frame body).take k++ [c],0,false⟩,[]):=by
    unfold Zba
    rw [if_neg (by simp),if_neg (by simp)]
    rcases hinc with h | ⟨h1,h2,h3⟩
    ·simp only [h];simp
    ·simp only [h1]
     rw [if_neg (by omega),if_neg (by omega),if_neg (by simp;omega),if_pos h3]
   rw [e];simp
theorem feed_frame (body:List UInt8) (hb:body.length≤4096):Zbc init (frame body)=(init,[⟨body,0⟩]):=by
 have hl:=Zae body.length
 have hlen:(frame body).length=(enc body.length).length+body.length:=by simp [frame]
 have e:frame body=(frame body).take ((frame body).length-1)++ [(frame body)[(frame body).length-1]'(by omega)]:=by
  rw [←List.take_succ_eq_append_getElem,Nat.sub_add_cancel (by omega),List.take_of_length_le (Nat.le_refl _)]
 have h1:=Zm9 body hb ((frame body).length-1) (by omega)
 rw [e,Zdb,h1]
 generalize hc:(frame body)[(frame body).length-1]'(by omega)=c at*
 have hp:Zam ((frame body).take ((frame body).length-1)++ [c])=(body.length,(enc body.length).length,0):=by
  rw [←e]
  exact Zc4 body.length (by omega) body
 have e2:Zba ⟨(frame body).take ((frame body).length-1),0,false⟩ c=(init,[⟨body,0⟩]):=by
  unfold Zba
  rw [if_neg (by simp),if_neg (by simp)]
  simp only [hp]
  rw [if_neg (by omega),if_neg (by omega),if_neg (by simp;omega),if_neg (by rw [←e];omega),←e]
  simp [frame,init]
 rw [e2];simp
end Go.Proofs.YtjamiaamngalgaaGreat.Stp
