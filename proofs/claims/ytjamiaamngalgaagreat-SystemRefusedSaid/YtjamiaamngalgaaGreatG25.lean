/-
  Parts: event.Encode: the region; event.Encode, frame.Body; frame.Body, frame.Encode; event.Decode: the reader; event. No conditions beyond those of the statement.
-/
import Derived.Test.YtjamiaamngalgaaGreatG00
import Derived.Test.YtjamiaamngalgaaGreatG18
import Derived.Test.YtjamiaamngalgaaGreatG01
import Derived.Test.YtjamiaamngalgaaGreatG15
import Derived.OrdersHeld
import Derived.Laws.BytesArg
set_option linter.unusedVariables false
set_option linter.unusedSimpArgs false
set_option maxRecDepth 1000000
set_option maxHeartbeats 4000000
namespace Go.Proofs.YtjamiaamngalgaaGreat
open Go.RowKit Vp Cfp
section
variable {P:Program}
theorem Ztb {o:Oper} {a:Act} {K:Act→World→Prop} {Q:Exit→Act→World→Prop} {w w':World} {v s' x':Value} (s x:Operand) (t t2:TypeId)
  (ho:o.op= .call { callee:= .builtin .append,args:= #[s,x],argTypes:= #[t,t2]}) (hs:a.eval s=s') (hx:a.eval x=x')
  (hrun:(Builtin.append_ #[t,t2] o.type #[s',x']).run P w= .ok v w') (h:K (a.put o.dst v) w'):o.wp P a w K Q:=by
 unfold Oper.wp execOp
 simp only [ho,resolve,invoke,builtin,Sem.run_bind,Sem.run_pure,Result.andThen_ok,List.map_toArray,List.map_cons,List.map_nil,hs,hx,hrun]
 exact h
end
theorem Zfp {ops:Array Oper} {o:Oper} {a:Act} {K:Act→World→Prop} {Q:Exit→Act→World→Prop} {F:Prop} (w:World) (hgd:o.guard=none) (s x:Operand)
  (ho:o.op= .call { callee:= .builtin .append,args:= #[s,x],argTypes:= #[57,9]})
  (base:Nat) {A:Option Addr} {n c:Nat} (l:List UInt8) (hs:a.eval s= .slice A n c) (hown:Own w base 5 1 A n c (l.map by8))
  (b:ByteArray) (hx:a.eval x= .string b) (hb:b.size≤35184372088832) (hn:n≤35184372088832) (hbase:base≤w.heap.size)
  (h:∀A' c' w',Own w' base 5 1 A' (n+b.size) c' ((l++b.data.toList).map by8)→Keeps (inB A) w w'→(∀k,inB A' k→inB A k∨w.heap.size≤k)→K (a.put o.dst (.slice A' (n+b.size) c')) w'):
  if Region.wanted o (yielded ops a.tmps)=true then Oper.wp Tryz.prog o a w K Q else F:=by
 have hw:Region.wanted o (yielded ops a.tmps)=true:=by simp [Region.wanted,hgd]
 rw [if_pos hw]
 have hi:(Tryz.prog.info? 5).map (fun i=> (i.zero,i.size,i.bytes))=some (some (.int .u8 0),1,1):=by kernel_rfl
 obtain⟨i,h1,h2,h3,h4⟩:=info_parts hi
 obtain⟨A',c',w',hrun,hw⟩:=Zis (P:=Tryz.prog) w 57 9 o.type 5 i (.int .u8 0) b Tryz.underlying57 Tryz.underlying9 h1 h2 h3 rfl (by omega) A n c (l.map by8) (hown.base_le (Nat.zero_le _)) (by simp only [maxLen];omega) (by rw [h4];omega) (by rw [h4];omega)
 obtain⟨k1,k2,k3⟩:=Zcl hown hbase (by simp) hw
 rw [←List.map_append] at k1
 exact Ztb s x _ _ ho hs hx hrun (h A' c' w' k1 k2 k3)
namespace evenc
noncomputable def rg13:Code:=((Tryz.f109.body.bind (findReg 13)).getD .skip)
theorem reg13 (w1:World) (L:List UInt8) (A:Option Addr) (n c gx:Nat) (k:ByteArray) (hr:Rd w1 w1.heap.size A 1 n (L.map by8)) (hn:n≤10000000) (hk:k.size≤4096) (ck:w1.cell? ⟨gx,0,none⟩=some (.string k)) (hgx:gx<w1.heap.size) (s0 s1 s2 s3 s5 s7 s8 s9 s10 s11 s12 s13 s14 s15 s16 s17 s18 s19 s20 s21 s22 s23 s24 s25 s26 s27 s28 s29 s30 s31 s32 s33 s34 s35 s36 s37 s38 s39 s40 s41 s42 s43 s44 s45 s46 s47 s48 s49 s50 s51 s52 s53 s54 s55 s56 s57 s58 s59 s60 s61 s62 s63 s64 s65 s66 s67 s68 s69:Value):
  Code.wp Tryz.prog rg13 (NormPost fun a' w'=> ∃A' n' c',(Own w' w1.heap.size 5 1 A' n' c' ((L++(enc k.size++k.data.toList)).map by8)∧Keeps NO w1 w')∧(∃u50 u51 u52 u53 u54 u55 u56 u57 u58:Value,a'=⟨#[s0,s1,s2,s3,.slice A' n' c',s5,.pointer (some ⟨gx,0,none⟩),s7,s8,s9,s10,s11,s12,s13,s14,s15,s16,s17,s18,s19,s20,s21,s22,s23,s24,s25,s26,s27,s28,s29,s30,s31,s32,s33,s34,s35,s36,s37,s38,s39,s40,s41,s42,s43,s44,s45,s46,s47,s48,s49,u50,u51,u52,u53,u54,u55,u56,u57,u58,s59,s60,s61,s62,s63,s64,s65,s66,s67,s68,s69],[]⟩)) ⟨#[s0,s1,s2,s3,.slice A n c,s5,.pointer (some ⟨gx,0,none⟩),s7,s8,s9,s10,s11,s12,s13,s14,s15,s16,s17,s18,s19,s20,s21,s22,s23,s24,s25,s26,s27,s28,s29,s30,s31,s32,s33,s34,s35,s36,s37,s38,s39,s40,s41,s42,s43,s44,s45,s46,s47,s48,s49,s50,s51,s52,s53,s54,s55,s56,s57,s58,s59,s60,s61,s62,s63,s64,s65,s66,s67,s68,s69],[]⟩ w1:=by
 have HR:=zz (show Rd w1.drew w1.heap.size A 1 n (L.map by8) from hr)
 have hln:L.length=n:=by simpa using hr.1
 have CK:=zz ck
 have kd:Keeps NO w1 w1.drew:=(Kz0 _ _).drew
 have ew:IntKind.u64.wrap (k.size:Int)=k.size:=by rw [IntKind.wrap_u64];omega
 clear hr
 conv=> arg 2;whnf
 dsimp only
 refine wp_region_held_drew (S:=fun w'=> w'.cell? ⟨gx,0,none⟩=some (.string k)) (by kernel_rfl) ck (fun hHeld=> ?_)
 clear ck
 refine tkH 0 ?_
 refine tkH 1 ?_
 refine tkH 2 ?_
 refine tkH 3 ?_
 refine tkH 4 ?_
 refine tkH 6 ?_
 refine tkH 7 ?_
 refine rd1 5 (fun K hK=> ?_)
 go_simp
 go_at_call 54
 refine(Varint.append_any L A n c w1.heap.size w1.drew HR.out (by simp) (by omega) (k.size:Int) (by omega) (by omega)).mono ?_
 rintro e w5 ⟨A5,n5,c5,hn5,rfl,o5,k5⟩
 rw [Int.toNat_natCast] at o5 hn5
 have K5:Keeps NO w1 w5:=kd.trans k5
 have O5:=zz (show Own w5 w1.heap.size 5 1 A5 n5 c5 ((L++enc k.size).map by8) from o5)
 have hn5':n5≤n+10:=by have:=(Zae k.size).2;rw [hn5,List.length_append];omega
 clear o5 k5 hn5
 try go_wp2_with fail
 refine hK.out _ _ (K5.cell_some CK.out (fun h=> h)) (fun hHeld=> ?_)
 clear hK K
 (try simp only [Zpt])
 refine rd1 8 (fun K hK=> ?_)
 refine Zfp w5 (by rfl) (.tmp 55) (.tmp 57) (by rfl) w1.heap.size (A:=A5) (n:=n5) (c:=c5) (L++enc k.size) (by simp [Act.eval,Act.put]) O5.out k (by simp [Act.eval,Act.put]) (by omega) (by omega) K5.size ?_
 intro A7 c7 w7 o7 k7 hA7
 have K7:Keeps NO w1 w7:=K5.step k7 (fun b hb h=> by have:=(O5.out.inB h).1;omega)
 refine hK.out _ _ (K7.cell_some CK.out (fun h=> h)) (fun hHeld=> ?_)
 clear hK K
 (try simp only [Zpt])
 refine tkH 9 ?_
 refine wpAnyH_done (by kernel_rfl) ?_ _
 rw [List.append_assoc] at o7
 refine⟨_,_,_,⟨o7,K7⟩,⟨_,_,_,_,_,_,_,_,_,rfl⟩⟩
noncomputable def rg14:Code:=((Tryz.f109.body.bind (findReg 14)).getD .skip)
theorem reg14 (w1:World) (L:List UInt8) (A:Option Addr) (n c gx:Nat) (k:ByteArray) (hr:Rd w1 w1.heap.size A 1 n (L.map by8)) (hn:n≤10000000) (hk:k.size≤4096) (ck:w1.cell? ⟨gx,1,none⟩=some (.string k)) (hgx:gx<w1.heap.size) (s0 s1 s2 s3 s5 s7 s8 s9 s10 s11 s12 s13 s14 s15 s16 s17 s18 s19 s20 s21 s22 s23 s24 s25 s26 s27 s28 s29 s30 s31 s32 s33 s34 s35 s36 s37 s38 s39 s40 s41 s42 s43 s44 s45 s46 s47 s48 s49 s50 s51 s52 s53 s54 s55 s56 s57 s58 s59 s60 s61 s62 s63 s64 s65 s66 s67 s68 s69:Value):
  Code.wp Tryz.prog rg14 (NormPost fun a' w'=> ∃A' n' c',(Own w' w1.heap.size 5 1 A' n' c' ((L++(enc k.size++k.data.toList)).map by8)∧Keeps NO w1 w')∧(∃u59 u60 u61 u62 u63 u64 u65 u66 u67:Value,a'=⟨#[s0,s1,s2,s3,.slice A' n' c',s5,.pointer (some ⟨gx,0,none⟩),s7,s8,s9,s10,s11,s12,s13,s14,s15,s16,s17,s18,s19,s20,s21,s22,s23,s24,s25,s26,s27,s28,s29,s30,s31,s32,s33,s34,s35,s36,s37,s38,s39,s40,s41,s42,s43,s44,s45,s46,s47,s48,s49,s50,s51,s52,s53,s54,s55,s56,s57,s58,u59,u60,u61,u62,u63,u64,u65,u66,u67,s68,s69],[]⟩)) ⟨#[s0,s1,s2,s3,.slice A n c,s5,.pointer (some ⟨gx,0,none⟩),s7,s8,s9,s10,s11,s12,s13,s14,s15,s16,s17,s18,s19,s20,s21,s22,s23,s24,s25,s26,s27,s28,s29,s30,s31,s32,s33,s34,s35,s36,s37,s38,s39,s40,s41,s42,s43,s44,s45,s46,s47,s48,s49,s50,s51,s52,s53,s54,s55,s56,s57,s58,s59,s60,s61,s62,s63,s64,s65,s66,s67,s68,s69],[]⟩ w1:=by
 have HR:=zz (show Rd w1.drew w1.heap.size A 1 n (L.map by8) from hr)
 have hln:L.length=n:=by simpa using hr.1
 have CK:=zz ck
 have kd:Keeps NO w1 w1.drew:=(Kz0 _ _).drew
 have ew:IntKind.u64.wrap (k.size:Int)=k.size:=by rw [IntKind.wrap_u64];omega
 clear hr
 conv=> arg 2;whnf
 dsimp only
 refine wp_region_held_drew (S:=fun w'=> w'.cell? ⟨gx,1,none⟩=some (.string k)) (by kernel_rfl) ck (fun hHeld=> ?_)
 clear ck
 refine tkH 0 ?_
 refine tkH 1 ?_
 refine tkH 2 ?_
 refine tkH 3 ?_
 refine tkH 4 ?_
 refine tkH 6 ?_
 refine tkH 7 ?_
 refine rd1 5 (fun K hK=> ?_)
 go_simp
 go_at_call 54
 refine(Varint.append_any L A n c w1.heap.size w1.drew HR.out (by simp) (by omega) (k.size:Int) (by omega) (by omega)).mono ?_
 rintro e w5 ⟨A5,n5,c5,hn5,rfl,o5,k5⟩
 rw [Int.toNat_natCast] at o5 hn5
 have K5:Keeps NO w1 w5:=kd.trans k5
 have O5:=zz (show Own w5 w1.heap.size 5 1 A5 n5 c5 ((L++enc k.size).map by8) from o5)
 have hn5':n5≤n+10:=by have:=(Zae k.size).2;rw [hn5,List.length_append];omega
 clear o5 k5 hn5
 try go_wp2_with fail
 refine hK.out _ _ (K5.cell_some CK.out (fun h=> h)) (fun hHeld=> ?_)
 clear hK K
 (try simp only [Zpt])
 refine rd1 8 (fun K hK=> ?_)
 refine Zfp w5 (by rfl) (.tmp 64) (.tmp 66) (by rfl) w1.heap.size (A:=A5) (n:=n5) (c:=c5) (L++enc k.size) (by simp [Act.eval,Act.put]) O5.out k (by simp [Act.eval,Act.put]) (by omega) (by omega) K5.size ?_
 intro A7 c7 w7 o7 k7 hA7
 have K7:Keeps NO w1 w7:=K5.step k7 (fun b hb h=> by have:=(O5.out.inB h).1;omega)
 refine hK.out _ _ (K7.cell_some CK.out (fun h=> h)) (fun hHeld=> ?_)
 clear hK K
 (try simp only [Zpt])
 refine tkH 9 ?_
 refine wpAnyH_done (by kernel_rfl) ?_ _
 rw [List.append_assoc] at o7
 refine⟨_,_,_,⟨o7,K7⟩,⟨_,_,_,_,_,_,_,_,_,rfl⟩⟩
end evenc
open Go.RowKit Vp Cfp
def tgv:List (ByteArray × ByteArray)→List Value
 | []=> []
 | t :: l=> .string t.1 :: .string t.2 :: tgv l
theorem Zh0:∀l,(tgv l).length=l.length*2
 | []=> rfl
 | t :: l=> by simp [tgv,Zh0 l];omega
theorem Zpz:∀(l:List (ByteArray × ByteArray)) (i:Nat) (t:ByteArray × ByteArray),l[i]?=some t→(tgv l)[i*2]?=some (.string t.1)∧(tgv l)[i*2+1]?=some (.string t.2)
 | x :: l,0,t,h=> by simp at h;subst h;exact⟨rfl,rfl⟩
 | x :: l,i+1,t,h=> by
   have:=Zpz l i t (by simpa using h)
   have e:(i+1)*2=i*2+1+1:=by omega
   rw [e]
   exact⟨by simpa [tgv] using this.1,by simpa [tgv] using this.2⟩
theorem Zc2 (s:ByteArray):s.data.toList.length=s.size:=rfl
def txb (s:ByteArray):List UInt8:=enc s.size++s.data.toList
def tgb:List (ByteArray × ByteArray)→List UInt8
 | []=> []
 | t :: l=> txb t.1++(txb t.2++tgb l)
theorem Zhy:∀(l:List (ByteArray × ByteArray)) (t:ByteArray × ByteArray),tgb (l++ [t])=tgb l++(txb t.1++txb t.2)
 | [],t=> by simp [tgb]
 | x :: l,t=> by simp [tgb,Zhy l t]
theorem Zhx {l:List (ByteArray × ByteArray)} {i:Nat} {t:ByteArray × ByteArray} (h:l[i]?=some t):tgb (l.take (i+1))=tgb (l.take i)++(txb t.1++txb t.2):=by
 have:l.take (i+1)=l.take i++ [t]:=by
  rw [List.take_add_one,h];rfl
 rw [this,Zhy]
def evb (tm wt:Int) (ts:List (ByteArray × ByteArray)):List UInt8:=enc tm.toNat++enc wt.toNat++enc ts.length++tgb ts
def Zhu (w:World) (l:List UInt8) (e:Ending) (w':World):Prop:=
 ∃(A:Option Addr) (n c:Nat),e= .returned (.tuple #[.slice A n c,.int .i64 0])∧Own w' w.heap.size 5 1 A n c (l.map by8)∧Keeps NO w w'
theorem Own.blen {w:World} {base:Nat} {A:Option Addr} {n c:Nat} {l:List UInt8} (h:Own w base 5 1 A n c (l.map by8)):l.length=n:=by
 have:=h.len;simp at this;omega
theorem Zt4 (A:Option Addr) (n c B:Nat) (ts:List (ByteArray × ByteArray)) (tm wt:Int) (w:World) (hr:Rd w B A 2 n (tgv ts)) (hB:B≤w.heap.size) (hz:∀t∈ts,t.1.size≤4096∧t.2.size≤4096) (hn:n≤8) (t0:0≤tm) (t1:tm≤1099511627776) (y0:0≤wt) (y1:wt<18446744073709551616):
  Calls Tryz.prog 109 #[.agg #[.slice A n c,.int .i64 tm,.int .u64 wt]] w (Zhu w (evb tm wt ts)):=by
 have hl:ts.length=n:=by have:=hr.1;rw [Zh0] at this;omega
 have HR:=zz hr
 have HZ:=zz hz
 have HL:=zz hl
 have kA:=zz ((Kz0 NO w).alloc (.cells #[.slice A n c,.int .i64 tm,.int .u64 wt] 67))
 have bA:=Blk.new w 67 #[.slice A n c,.int .i64 tm,.int .u64 wt]
 have c10:(w.alloc (.cells #[.slice A n c,.int .i64 tm,.int .u64 wt] 67)).cell? ⟨w.heap.size,0,none⟩=some (.slice A n c):=bA.cell 0
 have c11:(w.alloc (.cells #[.slice A n c,.int .i64 tm,.int .u64 wt] 67)).cell? ⟨w.heap.size,1,none⟩=some (.int .i64 tm):=bA.cell 1
 have c12:(w.alloc (.cells #[.slice A n c,.int .i64 tm,.int .u64 wt] 67)).cell? ⟨w.heap.size,2,none⟩=some (.int .u64 wt):=bA.cell 2
 have BA:=zz bA
 have etm:IntKind.u64.wrap tm=tm:=by rw [IntKind.wrap_u64];omega
 have en:IntKind.u64.wrap (n:Int)=n:=by rw [IntKind.wrap_u64];omega
 clear bA hr hz hl
 go_enter Tryz.func109,Tryz.ntmps109
 go_wp2_with fail
 refine(Varint.append_any [] none 0 0 0 _ (Rd.zero rfl) (by omega) (by omega) tm (by omega) (by omega)).mono ?_
 rintro e w1 ⟨A1,n1,c1,hn1,rfl,o1,k1⟩
 rw [List.nil_append] at o1 hn1
 have hb1:n1≤10:=by have:=Zae tm.toNat;omega
 have HO1:=zz (o1.rd (by omega))
 have K1:=zz (kA.out.trans k1)
 have B1:=zz (BA.out.kept k1 (fun h=> h))
 have c10:w1.cell? ⟨w.heap.size,0,none⟩=some (.slice A n c):=B1.out.cell 0
 have c12:w1.cell? ⟨w.heap.size,2,none⟩=some (.int .u64 wt):=B1.out.cell 2
 clear o1 k1 hn1 c11 BA kA
 go_wp2_with fail
 refine(Varint.append_any _ A1 n1 c1 _ _ HO1.out (by omega) (by omega) wt (by omega) (by omega)).mono ?_
 rintro e w2 ⟨A2,n2,c2,hn2,rfl,o2,k2⟩
 have hb2:n2≤20:=by have:=Zae wt.toNat;have:=HO1.out.1;simp at this;simp at hn2;omega
 have HO2:=zz (o2.rd (by omega))
 have K2:=zz (K1.out.trans k2)
 have B2:=zz (B1.out.kept k2 (fun h=> h))
 have c10:w2.cell? ⟨w.heap.size,0,none⟩=some (.slice A n c):=B2.out.cell 0
 clear o2 k2 hn2 c12 B1 K1 HO1
 go_wp2_with fail
 refine(Varint.append_any _ A2 n2 c2 _ _ HO2.out (by omega) (by omega) (n:Int) (by omega) (by omega)).mono ?_
 rintro e w3 ⟨A3,n3,c3,hn3,rfl,o3,k3⟩
 have hb3:n3≤30:=by have:=Zae n;have:=HO2.out.1;simp at this;rw [Int.toNat_natCast] at hn3;simp at hn3;omega
 have K3:=zz (K2.out.trans k3)
 rw [Int.toNat_natCast] at o3
 have O3:=zz (o3.base_le K2.out.size)
 have B3:=zz (B2.out.kept k3 (fun h=> h))
 have c10:w3.cell? ⟨w.heap.size,0,none⟩=some (.slice A n c):=B3.out.cell 0
 obtain⟨l3,hl3⟩:∃l3,l3=enc tm.toNat++enc wt.toNat++enc n:=⟨_,rfl⟩
 rw [←hl3] at O3
 have HL3:=zz hl3
 clear o3 k3 hn3 B2 K2 HO2 hl3
 go_wp2_with fail
 go_loopw [4,36] (fun bv iv wr=> ∃(j:Nat) (A:Option Addr) (k c:Nat),j≤n∧iv= .int .i64 j∧bv= .slice A k c∧k≤30+8212*j∧Hid (Own wr w.heap.size 5 1 A k c ((l3++tgb (ts.take j)).map by8))∧Hid (Keeps NO w wr)) (fun _ iv _=> n-(intOf iv).toNat)
 case atStart=> exact⟨0,A3,n3,c3,by omega,rfl,rfl,by omega,zz (by simpa [tgb] using O3.out),K3⟩
 case round=>
  obtain⟨j,A4,k4,c4,hj,rfl,rfl,hk4,O4,KP⟩:=hrel
  have hs:=KP.out.size
  clear c10 B3 O3 K3
  by_cases hlt:j<n
  ·obtain⟨⟨s,t⟩,hst⟩:∃t,ts[j]?=some t:=⟨ts[j]'(by rw [HL.out];exact hlt),by simp⟩
   obtain⟨hs1,ht1⟩:=HZ.out (s,t) (List.mem_of_getElem? hst)
   obtain⟨hs0,ht0⟩:=Zpz ts j (s,t) hst
   have HTK:=zz (Zhx hst)
   dsimp only at hs1 ht1 hs0 ht0
   obtain⟨b,off,rfl,hbB,hcell⟩:=(HR.out.kept KP.out (fun _ _ h=> h)).2 (by omega)
   have f1:=hcell _ _ hs0
   have f2:=hcell _ _ ht0
   rw [←Nat.add_assoc] at f2
   have hltI:(j:Int)<(n:Int):=by omega
   have HLT:Hid (j+1≤n):=hlt
   have z1:(s.size:Int)≤4096:=by omega
   have z2:(t.size:Int)≤4096:=by omega
   clear hs0 ht0 hcell hst
   go_upto_region 11 with fail
   have kA:=(Kz0 NO wr).alloc (.cells #[.string s,.string t] 126)
   have O5:=zz (O4.out.kept kA (fun _ _ h=> h))
   have KP5:=zz (KP.out.trans kA)
   have BT:=zz (Blk.new wr 126 #[.string s,.string t])
   clear kA O4 KP f1 f2
   generalize wr.alloc (.cells #[.string s,.string t] 126)=W at*
   generalize wr.heap.size=G at*
   have e0:W.cell? ⟨G,0,none⟩=some (.string s):=BT.out.cell 0
   have e1:W.cell? ⟨G,1,none⟩=some (.string t):=BT.out.cell 1
   have hGl:G<W.heap.size:=BT.out.lt
   go_upto_region 13 with fail
   refine Code.wp_mono ?_ (evenc.reg13 W _ A4 k4 c4 G s (O5.out.rd (by omega)) (by omega) hs1 e0 hGl _ _ _ _ _ _ _ _ _ _ _ _ _ _ _ _ _ _ _ _ _ _ _ _ _ _ _ _ _ _ _ _ _ _ _ _ _ _ _ _ _ _ _ _ _ _ _ _ _ _ _ _ _ _ _ _ _ _ _ _ _ _ _ _ _ _ _ _)
   intro e a' w6 hex
   cases e <;> (first | exact hex.elim | skip)
   obtain⟨A6,k6,c6,⟨o6,kk6⟩,⟨v50,v51,v52,v53,v54,v55,v56,v57,v58,rfl⟩⟩:=hex
   have hk6:k6≤k4+4106:=by
    have h1:=O5.out.blen
    have h2:=o6.blen
    have h3:=Zae s.size
    have h4:s.data.toList.length=s.size:=Zc2 s
    rw [←h2,←h1]
    simp only [List.length_append]
    omega
   have O6:=zz (o6.base_le (show w.heap.size≤_ from KP5.out.size))
   have K6:=zz (KP5.out.trans kk6)
   have B6:=zz (BT.out.kept kk6 (fun h=> h))
   clear o6 kk6 O5 KP5 BT e0 e1 hGl
   dsimp only
   have e1:w6.cell? ⟨G,1,none⟩=some (.string t):=B6.out.cell 1
   have hGl:G<w6.heap.size:=B6.out.lt
   go_upto_region 14 with fail
   refine Code.wp_mono ?_ (evenc.reg14 w6 _ A6 k6 c6 G t (O6.out.rd (by have:=K6.out.size;omega)) (by omega) ht1 e1 hGl _ _ _ _ _ _ _ _ _ _ _ _ _ _ _ _ _ _ _ _ _ _ _ _ _ _ _ _ _ _ _ _ _ _ _ _ _ _ _ _ _ _ _ _ _ _ _ _ _ _ _ _ _ _ _ _ _ _ _ _ _ _ _ _ _ _ _ _)
   intro e a' w7 hex
   cases e <;> (first | exact hex.elim | skip)
   obtain⟨A7,k7,c7,⟨o7,kk7⟩,⟨u59,u60,u61,u62,u63,u64,u65,u66,u67,rfl⟩⟩:=hex
   have hk7:k7≤k6+4106:=by
    have h1:=O6.out.blen
    have h2:=o7.blen
    have h3:=Zae t.size
    have h4:t.data.toList.length=t.size:=Zc2 t
    rw [←h2,←h1]
    simp only [List.length_append]
    omega
   have O7:=zz (o7.base_le (show w.heap.size≤_ from K6.out.size))
   have K7:=zz (K6.out.trans kk7)
   clear o7 kk7 O6 K6 B6 e1 hGl
   have O7':Hid (Own w7 w.heap.size 5 1 A7 k7 c7 ((l3++tgb (ts.take (j+1))).map by8)):=zz (by
    rw [HTK.out]
    have:=O7.out
    simp only [txb,List.append_assoc] at this ⊢
    exact this)
   clear O7
   dsimp only
   go_wp2_with fail
   go_roundw
   case rel=> exact⟨j+1,_,_,_,HLT.out,by go_num,rfl,by omega,O7',K7⟩
   case measure=> have:=HLT.out;simp [intOf];omega
  ·obtain rfl:j=n:=by omega
   go_wp2_with fail
   go_ret2
   have hT:ts.take j=ts:=List.take_of_length_le (by rw [HL.out];exact Nat.le_refl _)
   refine⟨A4,k4,c4,rfl,?_,KP.out⟩
   have:=O4.out
   rw [hT,HL3.out] at this
   unfold evb
   rw [HL.out]
   exact this
open Go.RowKit Vp Cfp
structure EvR where
 A:Option Addr
 n:Nat
 c:Nat
 ts:List (ByteArray × ByteArray)
 tm:Int
 wt:Int
def evv:List EvR→List Value
 | []=> []
 | x :: l=> .slice x.A x.n x.c :: .int .i64 x.tm :: .int .u64 x.wt :: evv l
theorem Zmb:∀l,(evv l).length=l.length*3
 | []=> rfl
 | t :: l=> by simp [evv,Zmb l];omega
theorem Zqc:∀(l:List EvR) (i:Nat) (x:EvR),l[i]?=some x→(evv l)[i*3]?=some (.slice x.A x.n x.c)∧(evv l)[i*3+1]?=some (.int .i64 x.tm)∧(evv l)[i*3+2]?=some (.int .u64 x.wt)
 | x :: l,0,t,h=> by simp at h;subst h;exact⟨rfl,rfl,rfl⟩
 | x :: l,i+1,t,h=> by
   have:=Zqc l i t (by simpa using h)
   have e:(i+1)*3=i*3+1+1+1:=by omega
   rw [e]
   exact⟨by simpa [evv] using this.1,by simpa [evv] using this.2.1,by simpa [evv] using this.2.2⟩
structure EvOk (w:World) (B:Nat) (x:EvR):Prop where
 rd:Rd w B x.A 2 x.n (tgv x.ts)
 tags:∀t∈x.ts,t.1.size≤4096∧t.2.size≤4096
 n:x.n≤8
 tm:0≤x.tm∧x.tm≤1099511627776
 wt:0≤x.wt∧x.wt<18446744073709551616
theorem EvOk.kept {w w':World} {B:Nat} {x:EvR} {S:Nat→Prop} (h:EvOk w B x) (k:Keeps S w w') (hS:∀b,b<B→¬S b):EvOk w' B x:=⟨h.rd.kept k hS,h.tags,h.n,h.tm,h.wt⟩
def evsb:List EvR→List UInt8
 | []=> []
 | x :: l=> evb x.tm x.wt x.ts++evsb l
theorem Zgi:∀(l:List EvR) (t:EvR),evsb (l++ [t])=evsb l++evb t.tm t.wt t.ts
 | [],t=> by simp [evsb]
 | x :: l,t=> by simp [evsb,Zgi l t]
theorem Zmc {l:List EvR} {i:Nat} {t:EvR} (h:l[i]?=some t):evsb (l.take (i+1))=evsb (l.take i)++evb t.tm t.wt t.ts:=by
 have:l.take (i+1)=l.take i++ [t]:=by
  rw [List.take_add_one,h];rfl
 rw [this,Zgi]
def Zay (l:List EvR):List UInt8:=enc l.length++evsb l
theorem Zq1:∀ts:List (ByteArray × ByteArray),(∀t∈ts,t.1.size≤4096∧t.2.size≤4096)→(tgb ts).length≤ts.length*8212
 | [],_=> by simp [tgb]
 | t :: l,h=> by
   have h1:=Zq1 l (fun x hx=> h x (List.mem_cons_of_mem _ hx))
   have h2:=h t List.mem_cons_self
   have h3:=(Zae t.1.size).2
   have h4:=(Zae t.2.size).2
   have h5:=Zc2 t.1
   have h6:=Zc2 t.2
   simp only [tgb,txb,List.length_append,List.length_cons]
   omega
theorem Zp5 (C:Option Addr) (m mc B:Nat) (l:List EvR) (w:World) (hr:Rd w B C 3 m (evv l)) (hB:B≤w.heap.size) (hev:∀x∈l,EvOk w B x) (m0:1≤m) (m1:m≤64) (hfit:(Zay l).length≤4096):
  Calls Tryz.prog 53 #[.slice C m mc] w (Zhu w (Zay l)):=by
 have hl:l.length=m:=by have:=hr.1;rw [Zmb] at this;omega
 have HR:=zz hr
 have HE:=zz hev
 have HL:=zz hl
 have HF:=zz hfit
 have e0:((m:Int)==0)=false:=by simp;omega
 have em:IntKind.u64.wrap (m:Int)=m:=by rw [IntKind.wrap_u64];omega
 clear hr hev hl hfit
 go_enter Tryz.func53,Tryz.ntmps53
 go_wp2_with fail
 refine(Varint.append_any [] none 0 0 0 _ (Rd.zero rfl) (by omega) (by omega) (m:Int) (by omega) (by omega)).mono ?_
 rintro e w1 ⟨A1,n1,c1,hn1,rfl,o1,k1⟩
 rw [List.nil_append] at o1 hn1
 rw [Int.toNat_natCast] at o1 hn1
 have hb1:n1≤10:=by have:=Zae m;omega
 have O1:=zz o1
 have K1:=zz k1
 clear o1 k1 hn1
 go_wp2_with fail
 go_loopw [4,23] (fun bv iv wr=> ∃(j:Nat) (A:Option Addr) (k c:Nat),j≤m∧iv= .int .i64 j∧bv= .slice A k c∧k≤10+70000*j∧Hid (Own wr w.heap.size 5 1 A k c ((enc m++evsb (l.take j)).map by8))∧Hid (Keeps NO w wr)) (fun _ iv _=> m-(intOf iv).toNat)
 case atStart=> exact⟨0,A1,n1,c1,by omega,rfl,rfl,by omega,zz (by simpa [evsb] using O1.out),K1⟩
 case round=>
  obtain⟨j,A4,k4,c4,hj,rfl,rfl,hk4,O4,KP⟩:=hrel
  have hs:=KP.out.size
  clear O1 K1
  by_cases hlt:j<m
  ·obtain⟨x,hx⟩:∃x,l[j]?=some x:=⟨l[j]'(by rw [HL.out];exact hlt),by simp⟩
   have hxe:=HE.out x (List.mem_of_getElem? hx)
   obtain⟨g1,g2,g3⟩:=Zqc l j x hx
   have HTK:=zz (Zmc hx)
   obtain⟨A,n,c,ts,tm,wt⟩:=x
   dsimp only at g1 g2 g3 HTK
   obtain⟨b,off,rfl,hbB,hcell⟩:=(HR.out.kept KP.out (fun _ _ h=> h)).2 (by omega)
   have f1:=hcell _ _ g1
   have f2:=hcell _ _ g2
   have f3:=hcell _ _ g3
   rw [←Nat.add_assoc] at f2 f3
   have hltI:(j:Int)<(m:Int):=by omega
   have HLT:Hid (j+1≤m):=hlt
   have kA:=(Kz0 NO wr).alloc (.cells #[.slice A n c,.int .i64 tm,.int .u64 wt] 67)
   have HX:=zz ((hxe.kept KP.out (fun _ _ h=> h)).kept kA (fun _ _ h=> h))
   have O5:=zz (O4.out.kept kA (fun _ _ h=> h))
   have KP5:=zz (KP.out.trans kA)
   have hs5:=KP5.out.size
   clear hcell g1 g2 g3 hx hxe kA O4 KP
   go_wp2_with fail
   refine(Zt4 A n c B ts tm wt _ HX.out.rd (by omega) HX.out.tags HX.out.n HX.out.tm.1 HX.out.tm.2 HX.out.wt.1 HX.out.wt.2).mono ?_
   rintro e w6 ⟨A6,n6,c6,rfl,o6,k6⟩
   have hn6:n6≤70000:=by
    have h1:=o6.blen
    have h2:=Zq1 ts HX.out.tags
    have h3:ts.length=n:=by have:=HX.out.rd.1;rw [Zh0] at this;dsimp only at this;omega
    have h4:=HX.out.n
    have h5:=(Zae tm.toNat).2
    have h6:=(Zae wt.toNat).2
    have h7:=(Zae ts.length).2
    rw [←h1]
    dsimp only at h4
    simp only [evb,List.length_append]
    omega
   have O6:=zz (o6.rd (by omega))
   have OB:=zz (O5.out.kept k6 (fun _ _ h=> h))
   have K6:=zz (KP5.out.trans k6)
   have hs6:=K6.out.size
   clear o6 k6 O5 KP5
   go_wp2_with (at_builtin;refine Za5 _ Zbu rfl (.tmp 35) (.tmp 36) rfl w.heap.size _ rfl OB.out _ (m:=n6) _ rfl O6.out (Zb4 _) (by simp only [maxLen];omega) (by omega) (by omega) ?_;intro A7 c7 w7 o7 k7 hA7;rw [←List.map_append] at o7;have O7:=zz o7;have K7:=zz (K6.out.step k7 (fun b hb h=> by have:=OB.out.inB h;omega));clear o7 k7 hA7)
   have O7':Hid (Own w7 w.heap.size 5 1 A7 (k4+n6) c7 ((enc m++evsb (l.take (j+1))).map by8)):=zz (by
    rw [HTK.out,←List.append_assoc]
    exact O7.out)
   clear O7
   go_roundw
   case rel=> exact⟨j+1,_,_,_,HLT.out,by go_num,rfl,by omega,O7',K7⟩
   case measure=> have:=HLT.out;simp [intOf];omega
  ·obtain rfl:j=m:=by omega
   have hT:l.take j=l:=List.take_of_length_le (by rw [HL.out];exact Nat.le_refl _)
   have OF:Hid (Own wr w.heap.size 5 1 A4 k4 c4 ((Zay l).map by8)):=zz (by
    have:=O4.out
    rw [hT] at this
    unfold Zay
    rw [HL.out]
    exact this)
   have hk:k4≤4096:=by rw [←OF.out.blen];exact HF.out
   have hkI:(k4:Int)≤4096:=by omega
   go_wp2_with fail
   go_ret2
   exact⟨A4,k4,c4,rfl,OF.out,KP.out⟩
theorem Zsq (C:Option Addr) (m mc B:Nat) (l:List EvR) (w:World) (hr:Rd w B C 3 m (evv l)) (hB:B≤w.heap.size) (hev:∀x∈l,EvOk w B x) (m0:1≤m) (m1:m≤64) (hfit:(Zay l).length≤4096):
  Calls Tryz.prog 16 #[.slice C m mc] w (Zhu w (enc (Zay l).length++Zay l)):=by
 have HF:=zz hfit
 go_enter Tryz.func16,Tryz.ntmps16
 go_wp2_with fail
 refine(Zp5 C m mc B l _ hr hB hev m0 m1 hfit).mono ?_
 rintro e w1 ⟨A1,n1,c1,rfl,o1,k1⟩
 have hn1:=o1.blen
 have O1:=zz (o1.rd (by omega))
 have K1:=zz k1
 have h4:n1≤4096:=by rw [←hn1];exact HF.out
 have en:IntKind.u64.wrap (n1:Int)=n1:=by rw [IntKind.wrap_u64];omega
 have HN:=zz hn1
 clear o1 k1 hr hev hn1 hfit
 go_wp2_with fail
 refine(Varint.append_any [] none 0 0 0 _ (Rd.zero rfl) (by omega) (by omega) (n1:Int) (by omega) (by omega)).mono ?_
 rintro e w2 ⟨A2,n2,c2,hn2,rfl,o2,k2⟩
 rw [List.nil_append] at o2 hn2
 rw [Int.toNat_natCast] at o2 hn2
 have hb2:n2≤10:=by have:=Zae n1;omega
 have O2:=zz (o2.base_le K1.out.size)
 have R2:=zz (O1.out.kept k2 (fun _ _ h=> h))
 have K2:=zz (K1.out.trans k2)
 have hs2:=K2.out.size
 clear o2 k2 hn2 O1 K1
 go_wp2_with (at_builtin;refine Za5 _ Zbu rfl (.tmp 17) (.tmp 18) rfl w.heap.size _ rfl O2.out _ (m:=n1) _ rfl R2.out (Zb4 _) (by simp only [maxLen];omega) (by omega) (by omega) ?_;intro A7 c7 w7 o7 k7 hA7;rw [←List.map_append] at o7;have O7:=zz o7;have K7:=zz (K2.out.step k7 (fun b hb h=> by have:=O2.out.inB h;omega));clear o7 k7 hA7)
 go_ret2
 refine⟨A7,_,c7,rfl,?_,K7.out⟩
 rw [HN.out]
 exact O7.out
open Go.RowKit Vp Cfp
theorem Zea {W:World} {B n c:Nat} {A:Option Addr} {L:List UInt8} (h:Rd W B A 1 n (L.map by8)):(convert 57 9 (.slice A n c)).run Tryz.prog W= .ok (.string ⟨L.toArray⟩) W:=by
 have hl:L.length=n:=by simpa using h.1
 subst hl
 rcases A with _ | ⟨b,off,sp⟩
 ·have h0:L.length=0:=by
   rcases Nat.eq_zero_or_pos L.length with h' | h'
   ·exact h'
   ·obtain⟨b,off,hA,_⟩:=h.2 h'
    cases hA
  obtain rfl:L= []:=List.eq_nil_of_length_eq_zero h0
  exact run_convert_bytes_nil (P:=Tryz.prog) W 57 5 Tryz.underlying57 Tryz.underlying5 _ _ 9 Tryz.underlying9
 ·refine run_convert_bytes_back (P:=Tryz.prog) W 57 9 5 ⟨b,off,sp⟩ c L Tryz.underlying57 Tryz.underlying5 Tryz.underlying9 ?_
  intro j hj
  obtain⟨b',off',hA,_,hc⟩:=h.2 (by omega)
  cases hA
  have:=hc j (by8 L[j]) (by simp [hj])
  rw [show(⟨b,off,none⟩:Addr).add j=⟨b,off+j,none⟩ from by
   simp [Addr.add]
   try (intro e;exact e ▸ rfl)]
  exact this
namespace evenc
def IsRd (w:World) (B X n u:Nat) (s:List UInt8):Prop:=
 ∃(A:Option Addr) (c:Nat) (L:List UInt8),Blk w X 293 #[.slice A n c,.int .i64 u,.int .i64 0]∧Rd w B A 1 n (L.map by8)∧n≤c∧u≤n∧n≤1000000∧B≤X∧L.drop u=s
theorem IsRd.kept {w w':World} {B X n u:Nat} {s:List UInt8} {S:Nat→Prop} (h:IsRd w B X n u s) (k:Keeps S w w') (hX:¬S X) (hS:∀b,b<B→¬S b):IsRd w' B X n u s:=by
 obtain⟨A,c,L,h1,h2,h3⟩:=h
 exact⟨A,c,L,h1.kept k hX,h2.kept k hS,h3⟩
theorem IsRd.lt {w:World} {B X n u:Nat} {s:List UInt8} (h:IsRd w B X n u s):X<w.heap.size:=by
 obtain⟨A,c,L,h1,h2⟩:=h
 exact h1.lt
theorem IsRd.le {w:World} {B X n u:Nat} {s:List UInt8} (h:IsRd w B X n u s):B≤X:=by
 obtain⟨A,c,L,h1,h2,h3,h4,h5,h6,h7⟩:=h
 exact h6
theorem IsRd.left {w:World} {B X n u:Nat} {s:List UInt8} (h:IsRd w B X n u s):u+s.length=n∧n≤1000000:=by
 obtain⟨A,c,L,h1,h2,h3,h4,h5,h6,rfl⟩:=h
 have:=h2.1
 simp at this
 simp
 omega
theorem enum_ok (w:World) (B X n u:Nat) (s:List UInt8) (x:Nat) (most:Int) (ov:Int) (h:IsRd w B X n u (enc x++s)) (hx:x<18446744073709551616) (hm:(x:Int)≤most) (hm2:most<18446744073709551616):
  Calls Tryz.prog 160 #[.pointer (some ⟨X,0,none⟩),.int .u64 most,.int .i64 ov] w fun e w'=> e= .returned (.int .u64 x)∧IsRd w' B X n (u+(enc x).length) s∧Keeps (· =X) w w':=by
 have hl:=h.left
 obtain⟨A,c,L,hb,hr,hnc,hun,hn,hBX,hd⟩:=h
 have c0:w.cell? ⟨X,0,none⟩=some (.slice A n c):=hb.cell 0
 have c1:w.cell? ⟨X,1,none⟩=some (.int .i64 u):=hb.cell 1
 have c2:w.cell? ⟨X,2,none⟩=some (.int .i64 0):=hb.cell 2
 have f1:=hb.frozen 1
 obtain⟨A',hsl,hsr,_⟩:=Zcr (P:=Tryz.prog) Zbu A n c .i64 (u:Int) (by omega) (by omega) hnc
 rw [Int.toNat_natCast] at hsl hsr
 have HV:Hid (∀W,Keeps NO w W→Calls Tryz.prog 111 #[.slice A' (n-u) (c-u)] W fun e w'=> e= .returned (.tuple #[.int .u64 x,.int .i64 (enc x).length,.int .i64 0])∧W=w'):=zz (fun W kW=> by
  have h1:=Varint.read_any (enc x++s) A' (n-u) (c-u) B W (by
   have:=hsr W B _ (hr.kept kW (fun _ _ h=> h))
   rw [Nat.mul_one,←List.map_drop,hd] at this
   exact this) (by omega)
  unfold Varint.out at h1
  rw [Zc4 x hx] at h1
  exact h1)
 have HB:=zz hb
 have HR:=zz hr
 have HD:=zz hd
 have hlb:=(Zae x).2
 have hle:u+(enc x).length≤n:=by rw [List.length_append] at hl;omega
 have wu:IntKind.i64.wrap ((u:Int)+((enc x).length:Int))=((u+(enc x).length:Nat):Int):=by rw [IntKind.wrap_i64];omega
 have hk:(enc x++s).drop (enc x).length=s:=by simp
 have HK:=zz hk
 obtain⟨ln,hln⟩:∃ln,ln=(enc x).length:=⟨_,rfl⟩
 rw [←hln] at HV hle wu hlb ⊢
 rw [←hln] at HK
 clear hb hr hd hsr hl hk hln
 go_enter Tryz.func160,Tryz.ntmps160
 go_wp2_with fail
 go_quiet ((go_at_call 111;exact Zbs (HV.out _ ((Kz0 _ _).drewN _))))
 go_wp2_with fail
 go_ret
 have kS:Keeps (· =X) w ((w.drewN nq).setCell ⟨X,1,none⟩ (.int .i64 ((u+ln:Nat):Int))):=Keeps.setCell (S:=(· =X)) (p:=⟨X,1,none⟩) ((Kz0 _ _).drewN nq) (.inl rfl) _
 refine⟨rfl,⟨A,c,L,(HB.out.drewN nq).set 1 _,HR.out.kept kS (by omega),hnc,hle,hn,hBX,?_⟩,kS⟩
 rw [←List.drop_drop,HD.out,HK.out]
end evenc
open Go.RowKit Vp Cfp
namespace evenc
theorem Zij (w:World) (B X n u:Nat) (s:List UInt8) (k:ByteArray) (h:IsRd w B X n u (txb k++s)) (hk:k.size≤4096):
  Calls Tryz.prog 162 #[.pointer (some ⟨X,0,none⟩)] w fun e w'=> e= .returned (.string k)∧IsRd w' B X n (u+(txb k).length) s∧Keeps (· =X) w w':=by
 have wk:IntKind.i64.wrap (k.size:Int)=k.size:=by rw [IntKind.wrap_i64];omega
 have htx:(txb k).length=(enc k.size).length+k.size:=by simp only [txb,List.length_append,Zc2]
 rw [txb,List.append_assoc] at h
 go_enter Tryz.func162,Tryz.ntmps162
 go_wp2_with fail
 refine(enum_ok w B X n u (k.data.toList++s) k.size 4096 4 h (by omega) (by omega) (by omega)).mono ?_
 rintro e w1 ⟨rfl,h1,k1⟩
 have hl:=h1.left
 have hlk:=Zc2 k
 rw [List.length_append,hlk] at hl
 obtain⟨u1,hu1⟩:∃u1,u1=u+(enc k.size).length:=⟨_,rfl⟩
 rw [←hu1] at h1 hl
 have hu2:u+(txb k).length=u1+k.size:=by omega
 have HU2:=zz hu2
 obtain⟨A,c,L,hb,hr,hnc,hun,hn,hBX,hd⟩:=h1
 have c0:w1.cell? ⟨X,0,none⟩=some (.slice A n c):=hb.cell 0
 have c1:w1.cell? ⟨X,1,none⟩=some (.int .i64 u1):=hb.cell 1
 have c2:w1.cell? ⟨X,2,none⟩=some (.int .i64 0):=hb.cell 2
 have f1:=hb.frozen 1
 have s1:IntKind.i64.wrap ((n:Int)-(u1:Int))=((n-u1:Nat):Int):=by rw [IntKind.wrap_i64];omega
 have hge:(k.size:Int)≤((n-u1:Nat):Int):=by omega
 obtain⟨u2,hu3⟩:∃u2,u2=u1+k.size:=⟨_,rfl⟩
 have wu:IntKind.i64.wrap ((u1:Int)+(k.size:Int))=(u2:Int):=by rw [IntKind.wrap_i64];omega
 have e1:IntKind.i64.wrap ((u2:Int)-(k.size:Int))=(u1:Int):=by rw [IntKind.wrap_i64];omega
 have HU3:=zz hu3
 have HB:=zz hb
 have HR:=zz hr
 have HD:=zz hd
 have K1:=zz k1
 have HU:=zz hu1
 have hxl:u1+k.size≤n:=by omega
 have h12:u1≤u2:=by omega
 have h2n:u2≤n:=by omega
 clear hb hr hd k1 h hu1 hu2 htx hlk hl hu3
 go_wp2_with fail
 go_quiet (fail)
 go_wp2_with fail
 obtain⟨A',hsl,hsr,_⟩:=Zq3 (P:=Tryz.prog) Zbu A n c .i64 .i64 (u1:Int) (u2:Int) (by omega) (by omega) (by omega) hnc
 have kS:Keeps (· =X) w1 ((w1.drewN nq).setCell ⟨X,1,none⟩ (.int .i64 (u2:Int))):=Keeps.setCell (S:=(· =X)) (p:=⟨X,1,none⟩) ((Kz0 _ _).drewN nq) (.inl rfl) _
 have B2:=zz ((HB.out.drewN nq).set 1 (.int .i64 (u2:Int)))
 have R2:=zz (HR.out.kept kS (by omega))
 have K2:=zz (K1.out.trans kS)
 clear kS c0 c1 c2 f1 HB HR K1
 generalize (w1.drewN nq).setCell ⟨X,1,none⟩ (.int .i64 (u2:Int))=w2 at*
 have c0:w2.cell? ⟨X,0,none⟩=some (.slice A n c):=B2.out.cell 0
 have c1:w2.cell? ⟨X,1,none⟩=some (.int .i64 (u2:Int)):=B2.out.cell 1
 rw [Int.toNat_natCast,Int.toNat_natCast] at hsl hsr
 have hcv:∀m,(convert 57 9 (.slice A' (u2-u1) (c-u1))).run Tryz.prog (w2.drewN m)= .ok (.string k) (w2.drewN m):=fun m=> by
  have r:=hsr (w2.drewN m) B _ (R2.out.drewN m)
  have e:((L.map by8).drop (u1*1)).take ((u2-u1)*1)=k.data.toList.map by8:=by
   have e2:(u2-u1)*1=k.data.toList.length:=by rw [Zc2];have:=HU3.out;omega
   rw [e2,Nat.mul_one,←List.map_drop,HD.out,←List.map_take]
   congr 1
   simp
  rw [e] at r
  exact Zea r
 clear hsr
 go_quiet (fail)
 go_wp2_with fail
 go_ret
 rw [HU2.out,←HU3.out]
 refine⟨rfl,⟨A,c,L,B2.out.drewN _,R2.out.drewN _,hnc,h2n,hn,hBX,?_⟩,K2.out.drewN _⟩
 rw [HU3.out]
 rw [←List.drop_drop,HD.out]
 exact List.drop_left' (Zc2 k)
end evenc
end Go.Proofs.YtjamiaamngalgaaGreat
