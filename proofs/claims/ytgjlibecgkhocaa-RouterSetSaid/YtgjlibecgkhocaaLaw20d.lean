/-
  RouterSet: the home, the set and the route of any key, also for configurations that are not valid; the walk. No conditions beyond those of the statement.
-/
import Derived.Test.YtgjlibecgkhocaaCfg
import Derived.Test.YtgjlibecgkhocaaLaw20a
import Derived.Test.YtgjlibecgkhocaaMem2
import Derived.Test.YtgjlibecgkhocaaRz
import Derived.Deep.CutBlock
import Derived.Laws.BitsLemmas
set_option linter.unusedVariables false
set_option linter.unusedSimpArgs false
namespace Go.Proofs.Ytgjlibecgkhocaa
open Go.RowKit Cfp

theorem i64_and15 (n : Int) : bits .and .i64 n 15 = n % 16 := by
  have h15 : (BitVec.ofInt 64 15).toNat = 2 ^ 4 - 1 := by decide
  have key : (BitVec.ofInt 64 n &&& BitVec.ofInt 64 15).toNat = (n % ((2 ^ 64 : Nat) : Int)).toNat % 2 ^ 4 := by
    rw [BitVec.toNat_and, BitVec.toNat_ofInt, h15, Nat.and_two_pow_sub_one_eq_mod]
  show IntKind.i64.wrap ((BitVec.ofInt 64 n &&& BitVec.ofInt 64 15).toNat : Nat) = n % 16
  rw [key, IntKind.wrap_i64]
  omega
theorem elemU : ElemOf Try.prog 26 24 1 8 := ElemOf.mk' (z := .int .u64 0) Try.underlying26 (by kernel_rfl) rfl (by omega)

/-- a configuration loaded out of the middle of a block -/
theorem cfg_ld_off {ops : Array Oper} {rest : List Oper} {o : Oper} {a : Act} {w : World} {Q : Exit → Act → World → Prop} {c : Cfg} {C T : Option Addr} {n k q j g off : Nat} (x : Operand) (ho : o.op = .load 28 x)
    (hc : ∀ i v, (#[.int .i64 c.length, .int .i64 c.lateness, .int .i64 c.windows, .int .i64 c.shards, .int .i64 c.spread, .int .i64 c.queue, .int .i64 c.mode, .int .i64 c.slots, .int .i64 c.exact_, .int .u64 c.promote, .int .i64 c.depth, .int .i64 c.width, .int .i64 c.top, .int .i64 c.key, .slice C n k, .slice T q j, .int .u64 c.seed] : Array Value).toList[i]? = some v → w.cell? ⟨g, off + i, none⟩ = some v) (hx : a.eval x = .pointer (some ⟨g, off, none⟩)) (hw : Region.wanted o (yielded ops a.tmps) = true)
    (h : wpList Try.prog ops Q rest (a.put o.dst (Value.agg #[.int .i64 c.length, .int .i64 c.lateness, .int .i64 c.windows, .int .i64 c.shards, .int .i64 c.spread, .int .i64 c.queue, .int .i64 c.mode, .int .i64 c.slots, .int .i64 c.exact_, .int .u64 c.promote, .int .i64 c.depth, .int .i64 c.width, .int .i64 c.top, .int .i64 c.key, .slice C n k, .slice T q j, .int .u64 c.seed])) w) : wpList Try.prog ops Q (o :: rest) a w := by
  show if Region.wanted o (yielded ops a.tmps) then _ else _
  rw [if_pos hw]
  refine .inl ?_
  have hl := run_loadCells_list (P := Try.prog) w ⟨g, off, none⟩ (#[.int .i64 c.length, .int .i64 c.lateness, .int .i64 c.windows, .int .i64 c.shards, .int .i64 c.spread, .int .i64 c.queue, .int .i64 c.mode, .int .i64 c.slots, .int .i64 c.exact_, .int .u64 c.promote, .int .i64 c.depth, .int .i64 c.width, .int .i64 c.top, .int .i64 c.key, .slice C n k, .slice T q j, .int .u64 c.seed] : Array Value).toList (fun i v hv => by rw [Addr.add_lit]; exact hc i v hv)
  have hi : (Try.prog.info? 28).map (·.size) = some 17 := by kernel_rfl
  have hagg : (isAgg 28).run Try.prog w = .ok true w := by
    unfold isAgg
    rw [Sem.run_bind, run_underlying Try.underlying28 w]
    rfl
  have hr : (loadVar 28 ⟨g, off, none⟩).run Try.prog w = .ok (Value.agg #[.int .i64 c.length, .int .i64 c.lateness, .int .i64 c.windows, .int .i64 c.shards, .int .i64 c.spread, .int .i64 c.queue, .int .i64 c.mode, .int .i64 c.slots, .int .i64 c.exact_, .int .u64 c.promote, .int .i64 c.depth, .int .i64 c.width, .int .i64 c.top, .int .i64 c.key, .slice C n k, .slice T q j, .int .u64 c.seed]) w := by
    cases hq : Try.prog.info? 28 with
    | none => rw [hq] at hi; simp at hi
    | some i =>
      have hs : i.size = 17 := by rw [hq] at hi; simpa using hi
      simp only [Array.length_toList, Array.toArray_toList, List.size_toArray, List.length_cons, List.length_nil] at hl
      simp [loadVar, Sem.run_bind, hagg, sizeOf, typeInfo, hq, hs]
      first | (rw [hl]; rfl) | simp [hl]
  unfold Oper.wp execOp
  simp only [ho, hx, Instr.loadAt, Instr.sureAddr, Sem.run_bind, Sem.run_pure, Result.andThen_ok, hr]
  exact h

namespace routerSet
theorem routing_mono {w1 w2 : World} {v : Value} {s : ByteArray} {ev hv : Int} {L : List Int} {rv : Int → Int} (h : Routing w1 v s ev hv L rv) (kk : Keeps (fun _ => False) w1 w2) : Routing w2 v s ev hv L rv :=
  ⟨fun W k => h.1 W (kk.trans k), fun W k => h.2.1 W (kk.trans k), fun W k => h.2.2.1 W (kk.trans k), fun W k => h.2.2.2.1 W (kk.trans k), fun W k => h.2.2.2.2.1 W (kk.trans k), fun W k => h.2.2.2.2.2.1 W (kk.trans k),
   fun x a b W k => h.2.2.2.2.2.2.1 x a b W (kk.trans k), fun x a b W k => h.2.2.2.2.2.2.2 x a b W (kk.trans k)⟩
def firstLoop20 : Code → Option Code
  | .loop c => some c
  | .seq a b => match firstLoop20 a with
    | some c => some c
    | none => firstLoop20 b
  | .block _ c => firstLoop20 c
  | .scope c => firstLoop20 c
  | .cond _ a b => match firstLoop20 a with
    | some c => some c
    | none => firstLoop20 b
  | _ => none
noncomputable def sloop : Code := ((Try.f3.body.bind firstLoop20).getD .skip)
def LoopPost1 (W : Act → World → Prop) : Exit → Act → World → Prop
  | .exit k, a, w => k = 1 ∧ W a w
  | _, _, _ => False
set_option maxRecDepth 1000000 in
set_option maxHeartbeats 4000000 in
theorem set_loop (c d : Cfg) (G nl b G6 : Nat) (T' : Option Addr) (q' j' : Nat) (w6 : World) (s : ByteArray) (x : Int) (x0 : -9223372036854775808 ≤ x) (x1 : x < 9223372036854775808)
    (ev1 hv1 : Int) (L1 : List Int) (rv1 : Int → Int) (ev2 hv2 : Int) (L2 : List Int) (rv2 : Int → Int) (hL1 : L1.length ≤ 8) (hL2 : L2.length ≤ 8)
    (HR1 : Hid (Routing w6 (Value.agg #[.int .i64 c.length, .int .i64 c.lateness, .int .i64 c.windows, .int .i64 c.shards, .int .i64 c.spread, .int .i64 c.queue, .int .i64 c.mode, .int .i64 c.slots, .int .i64 c.exact_, .int .u64 c.promote, .int .i64 c.depth, .int .i64 c.width, .int .i64 c.top, .int .i64 c.key, .slice (some ⟨G, 0, none⟩) nl nl, .slice (some ⟨b, 0, none⟩) 16 16, .int .u64 c.seed]) s ev1 hv1 L1 rv1)) (HR2 : Hid (Routing w6 (Value.agg #[.int .i64 d.length, .int .i64 d.lateness, .int .i64 d.windows, .int .i64 d.shards, .int .i64 d.spread, .int .i64 d.queue, .int .i64 d.mode, .int .i64 d.slots, .int .i64 d.exact_, .int .u64 d.promote, .int .i64 d.depth, .int .i64 d.width, .int .i64 d.top, .int .i64 d.key, .slice (some ⟨G, 0, none⟩) nl nl, .slice T' q' j', .int .u64 d.seed]) s ev2 hv2 L2 rv2))
    (BG : Hid (Blk w6 G6 28 ((#[.int .i64 c.length, .int .i64 c.lateness, .int .i64 c.windows, .int .i64 c.shards, .int .i64 c.spread, .int .i64 c.queue, .int .i64 c.mode, .int .i64 c.slots, .int .i64 c.exact_, .int .u64 c.promote, .int .i64 c.depth, .int .i64 c.width, .int .i64 c.top, .int .i64 c.key, .slice (some ⟨G, 0, none⟩) nl nl, .slice (some ⟨b, 0, none⟩) 16 16, .int .u64 c.seed] : Array Value).toList ++ (#[.int .i64 d.length, .int .i64 d.lateness, .int .i64 d.windows, .int .i64 d.shards, .int .i64 d.spread, .int .i64 d.queue, .int .i64 d.mode, .int .i64 d.slots, .int .i64 d.exact_, .int .u64 d.promote, .int .i64 d.depth, .int .i64 d.width, .int .i64 d.top, .int .i64 d.key, .slice (some ⟨G, 0, none⟩) nl nl, .slice T' q' j', .int .u64 d.seed] : Array Value).toList).toArray)) (s0 s2 s3 s5 s6 s7 s8 s9 s10 s11 s12 s13 s14 s15 s16 s17 s18 s19 s20 s21 s22 s23 s24 s25 s26 s27 s28 s29 s30 s31 s32 s33 s34 s35 s36 s37 s38 s39 s40 s41 s42 s46 s47 s48 s49 s50 s51 s52 s53 s54 s55 s56 s57 s58 s59 s60 s61 s62 s63 s64 s65 s66 s67 s68 s69 s70 s71 s72 s73 s74 s75 s76 s77 s78 s79 s80 s81 s82 s83 s84 s85 s86 s87 s88 s89 s90 s91 s92 s93 s94 s95 s96 s97 s98 : Value) :
    Code.wp Try.prog (Code.loop sloop) (LoopPost1 fun a' w'' => (∃ v10 v14 v45 v46 v47 v48 v49 v50 v51 v52 v53 v54 v55 v56 v57 v58 v59 v60 v61 v62 v63 v64 v65 v66 v67 v68 v69 v70 v71 v72 v73 v74 v75 v76 v77 v78 v79 v80 v81 v82 v83 v84 v85 v86 v87 v88 v89 v90 v91 v92 v93 v94 v95 v96 v97 : Value, a' = ⟨#[s0, .string s, s2, s3, .int .i64 x, s5, s6, s7, s8, s9, v10, s11, s12, s13, v14, s15, s16, s17, s18, s19, s20, s21, s22, s23, s24, s25, s26, s27, s28, s29, s30, s31, s32, s33, s34, s35, s36, s37, s38, s39, s40, s41, s42, .slice (some ⟨G6, 0, none⟩) 2 2, .int .i64 2, v45, v46, v47, v48, v49, v50, v51, v52, v53, v54, v55, v56, v57, v58, v59, v60, v61, v62, v63, v64, v65, v66, v67, v68, v69, v70, v71, v72, v73, v74, v75, v76, v77, v78, v79, v80, v81, v82, v83, v84, v85, v86, v87, v88, v89, v90, v91, v92, v93, v94, v95, v96, v97, s98], []⟩) ∧ Keeps (fun _ => False) w6 w'') ⟨#[s0, .string s, s2, s3, .int .i64 x, s5, s6, s7, s8, s9, s10, s11, s12, s13, s14, s15, s16, s17, s18, s19, s20, s21, s22, s23, s24, s25, s26, s27, s28, s29, s30, s31, s32, s33, s34, s35, s36, s37, s38, s39, s40, s41, s42, .slice (some ⟨G6, 0, none⟩) 2 2, .int .i64 2, .int .i64 0, s46, s47, s48, s49, s50, s51, s52, s53, s54, s55, s56, s57, s58, s59, s60, s61, s62, s63, s64, s65, s66, s67, s68, s69, s70, s71, s72, s73, s74, s75, s76, s77, s78, s79, s80, s81, s82, s83, s84, s85, s86, s87, s88, s89, s90, s91, s92, s93, s94, s95, s96, s97, s98], []⟩ w6 := by
  conv => arg 2; arg 1; whnf
  dsimp only
  go_loopw [45] (fun iv wr => ∃ i : Nat, i ≤ 2 ∧ iv = .int .i64 i ∧ Keeps (fun _ => False) w6 wr) (fun iv _ => 2 - (intOf iv).toNat)
  case atStart => exact ⟨0, by omega, rfl, Keeps.refl _ _⟩
  case round =>
    obtain ⟨i, hi, rfl, kr⟩ := hrel
    have KR := hide kr
    clear kr
    obtain rfl | rfl | rfl : i = 0 ∨ i = 1 ∨ i = 2 := by omega
    · have bg := BG.out.kept KR.out (fun h => h)
      have HO : Hid (∀ i v, (#[.int .i64 c.length, .int .i64 c.lateness, .int .i64 c.windows, .int .i64 c.shards, .int .i64 c.spread, .int .i64 c.queue, .int .i64 c.mode, .int .i64 c.slots, .int .i64 c.exact_, .int .u64 c.promote, .int .i64 c.depth, .int .i64 c.width, .int .i64 c.top, .int .i64 c.key, .slice (some ⟨G, 0, none⟩) nl nl, .slice (some ⟨b, 0, none⟩) 16 16, .int .u64 c.seed] : Array Value).toList[i]? = some v → wr.cell? ⟨G6, 0 + i, none⟩ = some v) := fun i v hv => by
        rw [bg.cell]
        have h17 : i < 17 := (List.getElem?_eq_some_iff.1 hv).1
        rw [List.getElem?_toArray, Nat.zero_add, List.getElem?_append_left h17]; exact hv
      have kA := (Keeps.refl (fun _ => False) wr).alloc (.cells #[.int .i64 c.length, .int .i64 c.lateness, .int .i64 c.windows, .int .i64 c.shards, .int .i64 c.spread, .int .i64 c.queue, .int .i64 c.mode, .int .i64 c.slots, .int .i64 c.exact_, .int .u64 c.promote, .int .i64 c.depth, .int .i64 c.width, .int .i64 c.top, .int .i64 c.key, .slice (some ⟨G, 0, none⟩) nl nl, .slice (some ⟨b, 0, none⟩) 16 16, .int .u64 c.seed] 28)
      have BA := hide (Blk.new wr 28 #[.int .i64 c.length, .int .i64 c.lateness, .int .i64 c.windows, .int .i64 c.shards, .int .i64 c.spread, .int .i64 c.queue, .int .i64 c.mode, .int .i64 c.slots, .int .i64 c.exact_, .int .u64 c.promote, .int .i64 c.depth, .int .i64 c.width, .int .i64 c.top, .int .i64 c.key, .slice (some ⟨G, 0, none⟩) nl nl, .slice (some ⟨b, 0, none⟩) 16 16, .int .u64 c.seed])
      have RA := hide (routing_mono HR1.out (KR.out.trans kA))
      have KA := hide (KR.out.trans kA)
      clear bg kA
      go_upto_region 15 with (refine cfg_ld_off (off := 0) (g := G6) _ rfl HO.out rfl (by rfl) ?_; simp only [Act.put, List.setIfInBounds_toArray, List.set_cons_zero, List.set_cons_succ])
      trace "REG15"
      generalize wr.alloc _ = w7 at *
      generalize wr.heap.size = X7 at *
      refine Code.wp_mono ?_ (reg15 c (some ⟨G, 0, none⟩) (some ⟨b, 0, none⟩) nl nl 16 16 X7 w7 s x x0 x1 _ _ _ _ hL1 RA.out BA.out _ _ _ _ _ _ _ _ _ _ _ _ _ _ _ _ _ _ _ _ _ _ _ _ _ _ _ _ _ _ _ _ _ _ _ _ _ _ _ _ _ _ _ _ _ _ _ _ _ _ _ _ _ _ _ _ _ _ _ _ _ _ _ _ _ _ _ _ _ _ _ _ _ _ _ _ _ _ _ _ _ _ _ _ _ _ _ _ _ _ _ _ _ _ _ _)
      intro e a' w'' hex
      cases e <;> (first | exact hex.elim | skip)
      obtain ⟨⟨v49, v50, v51, v52, v53, v54, v55, v56, v57, v58, v59, v60, v61, v62, v63, v64, v65, v66, v67, v68, v69, v70, v71, v72, v73, v74, v75, v76, v77, v78, v79, v80, v81, v82, v83, v84, v85, v86, v87, v88, v89, v90, v91, v92, v93, v94, v95, rfl⟩, k15⟩ := hex
      have K15 := hide (KA.out.trans k15)
      clear k15
      dsimp only
      go_wp2_with fail
      go_roundw
      case rel => exact ⟨1, by omega, by go_num, K15.out⟩
      case measure => simp [intOf]
    · have bg := BG.out.kept KR.out (fun h => h)
      have HO : Hid (∀ i v, (#[.int .i64 d.length, .int .i64 d.lateness, .int .i64 d.windows, .int .i64 d.shards, .int .i64 d.spread, .int .i64 d.queue, .int .i64 d.mode, .int .i64 d.slots, .int .i64 d.exact_, .int .u64 d.promote, .int .i64 d.depth, .int .i64 d.width, .int .i64 d.top, .int .i64 d.key, .slice (some ⟨G, 0, none⟩) nl nl, .slice T' q' j', .int .u64 d.seed] : Array Value).toList[i]? = some v → wr.cell? ⟨G6, 17 + i, none⟩ = some v) := fun i v hv => by
        rw [bg.cell]
        rw [List.getElem?_toArray, List.getElem?_append_right (by show 17 ≤ 17 + i; omega)]; rw [show 17 + i - (#[.int .i64 c.length, .int .i64 c.lateness, .int .i64 c.windows, .int .i64 c.shards, .int .i64 c.spread, .int .i64 c.queue, .int .i64 c.mode, .int .i64 c.slots, .int .i64 c.exact_, .int .u64 c.promote, .int .i64 c.depth, .int .i64 c.width, .int .i64 c.top, .int .i64 c.key, .slice (some ⟨G, 0, none⟩) nl nl, .slice (some ⟨b, 0, none⟩) 16 16, .int .u64 c.seed] : Array Value).toList.length = i from by show 17 + i - 17 = i; omega]; exact hv
      have kA := (Keeps.refl (fun _ => False) wr).alloc (.cells #[.int .i64 d.length, .int .i64 d.lateness, .int .i64 d.windows, .int .i64 d.shards, .int .i64 d.spread, .int .i64 d.queue, .int .i64 d.mode, .int .i64 d.slots, .int .i64 d.exact_, .int .u64 d.promote, .int .i64 d.depth, .int .i64 d.width, .int .i64 d.top, .int .i64 d.key, .slice (some ⟨G, 0, none⟩) nl nl, .slice T' q' j', .int .u64 d.seed] 28)
      have BA := hide (Blk.new wr 28 #[.int .i64 d.length, .int .i64 d.lateness, .int .i64 d.windows, .int .i64 d.shards, .int .i64 d.spread, .int .i64 d.queue, .int .i64 d.mode, .int .i64 d.slots, .int .i64 d.exact_, .int .u64 d.promote, .int .i64 d.depth, .int .i64 d.width, .int .i64 d.top, .int .i64 d.key, .slice (some ⟨G, 0, none⟩) nl nl, .slice T' q' j', .int .u64 d.seed])
      have RA := hide (routing_mono HR2.out (KR.out.trans kA))
      have KA := hide (KR.out.trans kA)
      clear bg kA
      go_upto_region 15 with (refine cfg_ld_off (off := 17) (g := G6) _ rfl HO.out rfl (by rfl) ?_; simp only [Act.put, List.setIfInBounds_toArray, List.set_cons_zero, List.set_cons_succ])
      trace "REG15"
      generalize wr.alloc _ = w7 at *
      generalize wr.heap.size = X7 at *
      refine Code.wp_mono ?_ (reg15 d (some ⟨G, 0, none⟩) T' nl nl q' j' X7 w7 s x x0 x1 _ _ _ _ hL2 RA.out BA.out _ _ _ _ _ _ _ _ _ _ _ _ _ _ _ _ _ _ _ _ _ _ _ _ _ _ _ _ _ _ _ _ _ _ _ _ _ _ _ _ _ _ _ _ _ _ _ _ _ _ _ _ _ _ _ _ _ _ _ _ _ _ _ _ _ _ _ _ _ _ _ _ _ _ _ _ _ _ _ _ _ _ _ _ _ _ _ _ _ _ _ _ _ _ _ _)
      intro e a' w'' hex
      cases e <;> (first | exact hex.elim | skip)
      obtain ⟨⟨v49, v50, v51, v52, v53, v54, v55, v56, v57, v58, v59, v60, v61, v62, v63, v64, v65, v66, v67, v68, v69, v70, v71, v72, v73, v74, v75, v76, v77, v78, v79, v80, v81, v82, v83, v84, v85, v86, v87, v88, v89, v90, v91, v92, v93, v94, v95, rfl⟩, k15⟩ := hex
      have K15 := hide (KA.out.trans k15)
      clear k15
      dsimp only
      go_wp2_with fail
      go_roundw
      case rel => exact ⟨2, by omega, by go_num, K15.out⟩
      case measure => simp [intOf]
    · go_wp2_with fail
      refine ⟨rfl, ⟨_, _, _, _, _, _, _, _, _, _, _, _, _, _, _, _, _, _, _, _, _, _, _, _, _, _, _, _, _, _, _, _, _, _, _, _, _, _, _, _, _, _, _, _, _, _, _, _, _, _, _, _, _, _, _, rfl⟩, KR.out⟩
end routerSet
end Go.Proofs.Ytgjlibecgkhocaa
