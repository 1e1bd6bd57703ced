/-
  Parts: ledger.Windows: the numb. No conditions beyond those of the statement.
-/
import Derived.Test.YtjamiaamngalgaaGreatG49
import Derived.Test.YtjamiaamngalgaaGreatG16
set_option linter.unusedVariables false
set_option linter.unusedSimpArgs false
set_option maxRecDepth 1000000
set_option maxHeartbeats 4000000
namespace Go.Proofs.YtjamiaamngalgaaGreat
open Go.RowKit Go.Maps Go.Sort Go.Shelf
abbrev anyV:Value→Option (DataW Unit × List MemPlace):=fun _=> some (.nil,[])
theorem Zic (x:Lit × DataW Unit):∀l:List (Lit × DataW Unit),(DataW.insert x l).Perm (x :: l)
 | []=> List.Perm.refl _
 | y :: l=> by
   unfold DataW.insert
   split
   ·exact List.Perm.refl _
   ·exact(List.Perm.cons y (Zic x l)).trans (List.Perm.swap x y l)
theorem Zfq:∀l:List (Lit × DataW Unit),(l.foldr DataW.insert []).Perm l
 | []=> List.Perm.refl _
 | x :: l=> (Zic x _).trans (List.Perm.cons x (Zfq l))
section
variable {w w':World} {M:Nat} {L:List (Int × Value)}
theorem Mp.owns (h:Mp Tryz.prog 3 enI w M L) (hz:L.length≤maxLen) (hb:∀x∈L, -9223372036854775808≤x.1∧x.1<9223372036854775808):
  ∃D0:DataW Unit,w.ownsMap Tryz.prog 3 anyV M L.length D0∧(intKeys D0).Perm (L.map (·.1))∧Maps.size D0=L.length:=by
 obtain⟨es,c,h1,h2,h3,h4,h5⟩:=h
 have hlen:es.size=L.length:=by have:=congrArg List.length h2;simpa using this
 have hk:∀x∈es.toList,∃z:Int,x.key= .int .i64 z∧keyOf Tryz.prog 3 x.key=some (.int .i64 z):=by
  intro x hx
  obtain⟨y,hy,e1,_⟩:=Zds h2 hx
  have hw:(Lit.int .i64 y.1).wf=true:=by
   have h1:IntKind.i64.min= -9223372036854775808:=rfl
   have h2:IntKind.i64.max=9223372036854775807:=rfl
   have:=hb y hy
   simp only [Lit.wf,Bool.and_eq_true,decide_eq_true_eq];omega
  exact⟨y.1,e1,by rw [e1];simp [keyOf,mapKey,Tryz.underlying3,hw]⟩
 refine⟨.map ((es.toList.map (Go.WideElems.rg Tryz.prog 3 anyV)).foldr DataW.insert []),⟨es,c,h1,⟨by omega,h5,fun x hx=> ?_⟩,by omega,rfl⟩,?_,?_⟩
 ·obtain⟨z,e1,e2⟩:=hk x hx
  refine⟨(.int .i64 z,.nil),?_⟩
  unfold Go.WideElems.rd
  rw [e2]
  rfl
 ·refine(List.Perm.map _ (Zfq _)).trans ?_
  rw [List.map_map]
  have:es.toList.map ((fun p:Lit × DataW Unit=> Go.intOf p.1) ∘ Go.WideElems.rg Tryz.prog 3 anyV)=L.map (·.1):=by
   refine List.ext_getElem? fun i=> ?_
   rw [List.getElem?_map,List.getElem?_map]
   cases hx:es.toList[i]? with
   | none=>
     have h6:=List.getElem?_eq_none_iff.1 hx
     rw [Array.length_toList] at h6
     rw [List.getElem?_eq_none (by omega)]
     rfl
   | some x=>
     obtain⟨y,hy,e1,_⟩:=Zmf h2 hx
     obtain⟨z,e3,e4⟩:=hk x (List.mem_of_getElem? hx)
     rw [e1] at e3
     have e3:y.1=z:=(Value.int.inj e3).2
     rw [hy]
     have hrg:Go.WideElems.rg Tryz.prog 3 anyV x=(.int .i64 z,.nil):=by
      unfold Go.WideElems.rg Go.WideElems.rd
      rw [e4]
      rfl
     have h7:(((fun p:Lit × DataW Unit=> Go.intOf p.1) ∘ Go.WideElems.rg Tryz.prog 3 anyV) x)=y.1:=by
      rw [Function.comp_apply,hrg]
      exact e3.symm
     rw [Option.map_some,h7]
     rfl
  rw [this]
 ·simp [Maps.size,length_sorted,hlen]
end
theorem Ztv (m:Nat):AnyZI.SortsIn Tryz.prog Zdw Fence.wide m:=
 ⟨fun blk off cap ss W hH hblk hsz=> callsIn_wide.2 (AnyM.slices_Sort_int Ztw blk off cap ss W hH hblk hsz),
  fun p cap W=> callsIn_wide.2 (AnyM.slices_Sort_int_none Ztw p cap W)⟩
abbrev srtZ (l:List Int):List Int:=l.mergeSort (fun x y=> decide (x≤y))
theorem Zh9 {w:World} {B g M:Nat} {D:List (Int × Int)} {ac:Int} {rj:List Int} (h:IsLed w B g M D ac rj) (hz:D.length≤1000000):
  Calls Tryz.prog 64 #[.pointer (some ⟨g,0,none⟩)] w fun e w'=> ∃A c,e= .returned (.slice A D.length c)∧Own w' w.heap.size 3 1 A D.length c ((srtZ (D.map (·.1))).map (.int .i64))∧Keeps NO w w':=by
 have hlen:(ledL D).length=D.length:=by simp [ledL]
 obtain⟨D0,hown,hperm,hsz⟩:=h.map.owns (by rw [hlen];simp only [maxLen];omega) (fun x hx=> by
  obtain⟨y,hy,rfl⟩:=List.mem_map.1 hx
  exact h.key y hy)
 have hkeys:(ledL D).map (·.1)=D.map (·.1):=by simp [ledL,Function.comp]
 rw [hkeys] at hperm
 rw [hlen] at hsz
 have c0:=h.cell0
 refine(callsIn_wide (n:=6)).1 ?_
 have hbl:=hown.lt
 have hseq:SeqGives Fence.wide 2 Tryz.prog 179 #[.pointer (some ⟨w.heap.size,0,none⟩)] encZ (fun ss=> ss.Perm (intKeys D0)) (Maps.size D0) (w.alloc (.cells #[.map (some M)] 210)):=
  AnyZI.keys_gives (ρ:=Zgb) { Zuj with} Fence.wide _ trivial rfl (by omega) w.heap.size M (ledL D).length D0 _ (by simp) (by simp) (by
   obtain⟨es,clock,hb,Ft,hs,hD⟩:=hown
   exact⟨es,clock,(Below.heap_alloc _ _ M hbl).trans hb,Ft,hs,hD⟩)
 have cK:∀mb W,CallsIn Fence.wide 5 Tryz.prog 124 #[.map mb] W fun e w'=> e= .returned (.func (.func 179) #[] #[.pointer (some ⟨W.heap.size,0,none⟩)])∧w'=W.alloc (.cells #[.map mb] 210):=fun mb W=> AnyZI.keys_in Zuj Fence.wide 5 trivial rfl mb W
 have cS:=AnyZI.sorted_in Zr5 Fence.wide 5 trivial trivial trivial trivial rfl (by omega) (Ztv _) (enters_of Tryz.func178 (by kernel_rfl) rfl) 179 #[.pointer (some ⟨w.heap.size,0,none⟩)] trivial (enters_of Tryz.func179 (by kernel_rfl) rfl) _ _ (by rw [hsz];simp only [maxLen];omega) (by rw [hsz];omega) _ hseq
 change CallsIn _ _ Tryz.prog 123 _ _ _ at cS
 have hfK:Fence.wide.fn 124:=trivial
 have hfS:Fence.wide.fn 123:=trivial
 have HP:=zz hperm
 clear hperm hown hkeys hlen h hseq hsz hbl
 refine callsIn_of_wp Tryz.func64 rfl trivial ?_ rfl
 simp only [Tryz.ntmps64,List.size_toArray,List.length_cons,List.length_nil,Nat.reduceAdd,Nat.reduceSub,Array.replicate_succ,Array.replicate_zero,List.push_toArray,List.append_toArray,List.nil_append,List.cons_append]
 gi_wp2_with (first
  | (gi_at_call 124;refine(cK _ _).mono ?_;rintro e w' ⟨rfl,rfl⟩)
  | (gi_at_call 123;refine cS.mono ?_;rintro e w' ⟨v,ss,rfl,hS,hrow,hnil,hb⟩))
 go_ret
 have hp2:=hS.trans HP.out
 have hl2:ss.length=D.length:=by have:=hp2.length_eq;simpa using this
 have hst:ss.mergeSort (fun x y=> decide (x≤y))=srtZ (D.map (·.1)):=mergeSort_of_perm_i hp2
 rw [hst,hl2] at hrow
 have hk:Keeps NO w w':=((Kz0 NO w).alloc (.cells #[.map (some M)] 210)).step (Below.keeps hb) (fun b h1 h2=> by rw [World.size_alloc] at h2;omega)
 rcases hrow.2 with ⟨rfl,h0⟩ | ⟨gb,cap,cur,rfl,r1,r2,r3,r4,r5,r6⟩
 ·rw [h0] at hrow ⊢
  refine⟨none,0,rfl,?_,hk⟩
  exact ownsRow_base_a hrow (by simp)
 ·exact⟨_,_,rfl,ownsRow_base_a hrow (by simp),hk⟩
theorem Znr (G:Nat) (w:World):(Instr.sliceAt 211 (.pointer (some ⟨G,2,none⟩)) none none none).run Tryz.prog w= .ok (.slice (some ⟨G,2,none⟩) 7 7) w:=by
 kernel_rfl
theorem Ze3 {w:World} {B g M:Nat} {D:List (Int × Int)} {ac:Int} {rj:List Int} (h:IsLed w B g M D ac rj):
  Calls Tryz.prog 85 #[.pointer (some ⟨g,0,none⟩)] w fun e w'=> ∃A c,e= .returned (.slice A 7 c)∧Own w' w.heap.size 23 1 A 7 c (rj.map (.int .u64))∧Keeps NO w w':=by
 have hlen:(rj.map (Value.int .u64)).length=7:=by rw [List.length_map,h.len]
 have hrd:Rd w w.heap.size (some ⟨g,2,none⟩) 1 7 (rj.map (.int .u64)):=by
  refine⟨by omega,fun _=> ⟨g,2,rfl,h.blk.lt,fun j u hu=> ?_⟩⟩
  rw [h.blk.cell (2+j),Nat.add_comm 2 j]
  simpa using hu
 have hsl:=Znr g w
 have HCl:=zz (Zd0 (c:=7) hrd (by omega))
 have hl:=h.blk.lt
 clear h hlen hrd
 go_enter Tryz.func85,Tryz.ntmps85
 go_wp2_with fail
 refine HCl.out.mono ?_
 rintro e w1 ⟨A,c,rfl,o1,k1⟩
 have O1:=zz o1
 have K1:=zz k1
 clear o1 k1 HCl
 go_wp2_with fail
 go_ret
 exact⟨A,c,rfl,O1.out,K1.out⟩
end Go.Proofs.YtjamiaamngalgaaGreat
