/-
  SizingCheck: the four calls of a round. No conditions beyond those of the statement. SizingCheck: the loop over the configurations. No conditions beyond those of the statement. SizingDemand: the comparison of one configuration, and the loop over them. No conditions beyond those of the statement. SizingDemand: the loop that makes the classes. No conditions beyond those of the statement. SizingDemand: the four configurations are put into a slice. No conditions beyond those of the statement.
-/
import Derived.Test.YtgjlibecgkhocaaLd
import Derived.Test.YtgjlibecgkhocaaMem2
import Derived.Test.YtgjlibecgkhocaaLe
import Derived.Deep.CutBlock
import Derived.Test.YtgjlibecgkhocaaRu
import Derived.Test.YtgjlibecgkhocaaGk
import Derived.Deep.CutRange
import Derived.Test.YtgjlibecgkhocaaGh
set_option linter.unusedVariables false
set_option linter.unusedSimpArgs false
namespace Go.Proofs.Ytgjlibecgkhocaa
open Go.RowKit Cfp
namespace szc
def findReg (q : Nat) : Code → Option Code
  | .region id ops b => if id = q then some (.region id ops b) else none
  | .loop c => findReg q c
  | .seq a b => match findReg q a with
    | some c => some c
    | none => findReg q b
  | .block _ c => findReg q c
  | .scope c => findReg q c
  | .cond _ a b => match findReg q a with
    | some c => some c
    | none => findReg q b
  | _ => none
def NormPost (W : Act → World → Prop) : Exit → Act → World → Prop
  | .normal, a, w => W a w
  | _, _, _ => False
/-- what sizing says of a configuration (as a value v) in every world that has kept w1: the program and the reference alike -/
def Four (w1 : World) (v : Value) (ce ve : Int) : Prop :=
  (∀ W, Keeps (fun _ => False) w1 W → Calls Try.prog 25 #[v] W fun e w' => e = .returned (.int .i64 ce) ∧ Keeps (fun _ => False) W w') ∧
  (∀ W, Keeps (fun _ => False) w1 W → Calls Try.prog 26 #[v] W fun e w' => e = .returned (.int .i64 ce) ∧ Keeps (fun _ => False) W w') ∧
  (∀ W, Keeps (fun _ => False) w1 W → Calls Try.prog 27 #[v] W fun e w' => e = .returned (.int .i64 ve) ∧ Keeps (fun _ => False) W w') ∧
  (∀ W, Keeps (fun _ => False) w1 W → Calls Try.prog 28 #[v] W fun e w' => e = .returned (.int .i64 ve) ∧ Keeps (fun _ => False) W w')
theorem Four.mono {w1 w2 : World} {v : Value} {ce ve : Int} (h : Four w1 v ce ve) (kk : Keeps (fun _ => False) w1 w2) : Four w2 v ce ve :=
  ⟨fun W k => h.1 W (kk.trans k), fun W k => h.2.1 W (kk.trans k), fun W k => h.2.2.1 W (kk.trans k), fun W k => h.2.2.2 W (kk.trans k)⟩
noncomputable def rg10 : Code := ((Try.f6.body.bind (findReg 10)).getD .skip)
set_option maxRecDepth 1000000 in
set_option maxHeartbeats 4000000 in
theorem reg10 (c : Cfg) (C T : Option Addr) (n k q j X : Nat) (w1 : World) (ce ve : Int)
    (hF : Four w1 (Value.agg #[.int .i64 c.length, .int .i64 c.lateness, .int .i64 c.windows, .int .i64 c.shards, .int .i64 c.spread, .int .i64 c.queue, .int .i64 c.mode, .int .i64 c.slots, .int .i64 c.exact_, .int .u64 c.promote, .int .i64 c.depth, .int .i64 c.width, .int .i64 c.top, .int .i64 c.key, .slice C n k, .slice T q j, .int .u64 c.seed]) ce ve) (hX : Blk w1 X 28 #[.int .i64 c.length, .int .i64 c.lateness, .int .i64 c.windows, .int .i64 c.shards, .int .i64 c.spread, .int .i64 c.queue, .int .i64 c.mode, .int .i64 c.slots, .int .i64 c.exact_, .int .u64 c.promote, .int .i64 c.depth, .int .i64 c.width, .int .i64 c.top, .int .i64 c.key, .slice C n k, .slice T q j, .int .u64 c.seed]) (s0 s1 s2 s3 s4 s5 s6 s7 s8 s9 s10 s11 s12 s13 s14 s15 s16 s17 s19 s20 s21 s22 s23 s24 s25 s26 s27 s28 s29 s30 s31 s32 s33 s34 s35 s36 s37 s38 s39 s40 s41 s42 s43 s44 s45 s46 s47 s48 s49 s50 s51 s52 s53 s54 s55 s56 s57 s58 s59 s60 s61 s62 s63 s64 s65 s66 s67 s68 s69 s70 s71 s72 s73 s74 s75 : Value) :
    Code.wp Try.prog rg10 (NormPost fun a' w' => (∃ u57 u58 u59 u60 u61 u62 u63 u64 u65 u66 u67 : Value, a' = ⟨#[s0, s1, s2, s3, s4, s5, s6, s7, s8, s9, s10, s11, s12, s13, s14, s15, s16, s17, .pointer (some ⟨X, 0, none⟩), s19, s20, s21, s22, s23, s24, s25, s26, s27, s28, s29, s30, s31, s32, s33, s34, s35, s36, s37, s38, s39, s40, s41, s42, s43, s44, s45, s46, s47, s48, s49, s50, s51, s52, s53, s54, s55, s56, u57, u58, u59, u60, u61, u62, u63, u64, u65, u66, u67, .bool false, s69, s70, s71, s72, s73, s74, s75], []⟩) ∧ Keeps (fun _ => False) w1 w') ⟨#[s0, s1, s2, s3, s4, s5, s6, s7, s8, s9, s10, s11, s12, s13, s14, s15, s16, s17, .pointer (some ⟨X, 0, none⟩), s19, s20, s21, s22, s23, s24, s25, s26, s27, s28, s29, s30, s31, s32, s33, s34, s35, s36, s37, s38, s39, s40, s41, s42, s43, s44, s45, s46, s47, s48, s49, s50, s51, s52, s53, s54, s55, s56, s57, s58, s59, s60, s61, s62, s63, s64, s65, s66, s67, s68, s69, s70, s71, s72, s73, s74, s75], []⟩ w1 := by
  have HF := hide hF
  have BX := hide hX
  have k0 : Keeps (fun _ => False) w1 w1 := Keeps.refl _ _
  have e1 : (ce != ce) = false := by simp
  have e2 : (ve != ve) = false := by simp
  clear hF hX
  conv => arg 2; whnf
  dsimp only
  refine wp_region_held_drew (S := fun w' => Blk w' X 28 #[.int .i64 c.length, .int .i64 c.lateness, .int .i64 c.windows, .int .i64 c.shards, .int .i64 c.spread, .int .i64 c.queue, .int .i64 c.mode, .int .i64 c.slots, .int .i64 c.exact_, .int .u64 c.promote, .int .i64 c.depth, .int .i64 c.width, .int .i64 c.top, .int .i64 c.key, .slice C n k, .slice T q j, .int .u64 c.seed]) (by kernel_rfl) (BX.out.drew) (fun hHeld => ?_)
  refine wpAnyH_take (i := 0) (v := _) rfl (by kernel_rfl) (by kernel_rfl) (by kernel_rfl) (fun _ _ _ h => h) (cfg_yields (c := c) (C := C) (T := T) (n := n) (k := k) (q := q) (j := j) (g := X) (.tmp 18) rfl (fun _ h => h) (by simp [Act.eval, Act.put]) (by kernel_rfl)) (by assumption) ?_
  (try simp only [Act.put, List.setIfInBounds_toArray, List.set_cons_zero, List.set_cons_succ])
  refine wpAnyH_take (i := 2) (v := _) rfl (by kernel_rfl) (by kernel_rfl) (by kernel_rfl) (fun _ _ _ h => h) (cfg_yields (c := c) (C := C) (T := T) (n := n) (k := k) (q := q) (j := j) (g := X) (.tmp 18) rfl (fun _ h => h) (by simp [Act.eval, Act.put]) (by kernel_rfl)) (by assumption) ?_
  (try simp only [Act.put, List.setIfInBounds_toArray, List.set_cons_zero, List.set_cons_succ])
  refine wpAnyH_ready (rs := [1]) (by kernel_rfl) (by simp) ?_
  refine AllReadyH.cons rfl (fun K hK => ?_) AllReadyH.nil
  go_simp
  go_at_call 25
  refine (HF.out.1 _ (k0.drew)).mono ?_
  rintro e W1 ⟨rfl, kk⟩
  have k1 : Keeps (fun _ => False) w1 W1 := ((k0.drew)).trans kk
  try go_wp2_with fail
  refine hK.out _ _ (BX.out.kept k1 (fun h => h)) (fun hHeld => ?_)
  clear hK K kk
  (try simp only [Act.put, List.setIfInBounds_toArray, List.set_cons_zero, List.set_cons_succ])
  refine wpAnyH_ready (rs := [3]) (by kernel_rfl) (by simp) ?_
  refine AllReadyH.cons rfl (fun K hK => ?_) AllReadyH.nil
  go_simp
  go_at_call 26
  refine (HF.out.2.1 _ k1).mono ?_
  rintro e W2 ⟨rfl, kk⟩
  have k2 : Keeps (fun _ => False) w1 W2 := (k1).trans kk
  try go_wp2_with fail
  refine hK.out _ _ (BX.out.kept k2 (fun h => h)) (fun hHeld => ?_)
  clear hK K kk
  (try simp only [Act.put, List.setIfInBounds_toArray, List.set_cons_zero, List.set_cons_succ])
  refine wpAnyH_take (i := 4) (v := ?_) rfl (by kernel_rfl) (by kernel_rfl) (by kernel_rfl) (fun _ _ _ h => h) (Or.inl ⟨by kernel_rfl, ?_⟩) (by assumption) ?_; rotate_left; focus (intro w hSw; (try dsimp only at hSw); go_simp; try (with_reducible rfl)); (try simp only [Act.put, List.setIfInBounds_toArray, List.set_cons_zero, List.set_cons_succ])
  refine wpAnyH_take (i := 5) (v := ?_) rfl (by kernel_rfl) (by kernel_rfl) (by kernel_rfl) (fun _ _ _ h => h) (Or.inl ⟨by kernel_rfl, ?_⟩) (by assumption) ?_; rotate_left; focus (intro w hSw; (try dsimp only at hSw); go_simp; try (with_reducible rfl)); (try simp only [Act.put, List.setIfInBounds_toArray, List.set_cons_zero, List.set_cons_succ])
  trace "HALF"
  refine wpAnyH_take (i := 6) (v := _) rfl (by kernel_rfl) (by kernel_rfl) (by kernel_rfl) (fun _ _ _ h => h) (cfg_yields (c := c) (C := C) (T := T) (n := n) (k := k) (q := q) (j := j) (g := X) (.tmp 18) rfl (fun _ h => h) (by simp [Act.eval, Act.put]) (by kernel_rfl)) (by assumption) ?_
  (try simp only [Act.put, List.setIfInBounds_toArray, List.set_cons_zero, List.set_cons_succ])
  refine wpAnyH_take (i := 8) (v := _) rfl (by kernel_rfl) (by kernel_rfl) (by kernel_rfl) (fun _ _ _ h => h) (cfg_yields (c := c) (C := C) (T := T) (n := n) (k := k) (q := q) (j := j) (g := X) (.tmp 18) rfl (fun _ h => h) (by simp [Act.eval, Act.put]) (by kernel_rfl)) (by assumption) ?_
  (try simp only [Act.put, List.setIfInBounds_toArray, List.set_cons_zero, List.set_cons_succ])
  refine wpAnyH_ready (rs := [7]) (by kernel_rfl) (by simp) ?_
  refine AllReadyH.cons rfl (fun K hK => ?_) AllReadyH.nil
  go_simp
  go_at_call 27
  refine (HF.out.2.2.1 _ k2).mono ?_
  rintro e W3 ⟨rfl, kk⟩
  have k3 : Keeps (fun _ => False) w1 W3 := (k2).trans kk
  try go_wp2_with fail
  refine hK.out _ _ (BX.out.kept k3 (fun h => h)) (fun hHeld => ?_)
  clear hK K kk
  (try simp only [Act.put, List.setIfInBounds_toArray, List.set_cons_zero, List.set_cons_succ])
  refine wpAnyH_ready (rs := [9]) (by kernel_rfl) (by simp) ?_
  refine AllReadyH.cons rfl (fun K hK => ?_) AllReadyH.nil
  go_simp
  go_at_call 28
  refine (HF.out.2.2.2 _ k3).mono ?_
  rintro e W4 ⟨rfl, kk⟩
  have k4 : Keeps (fun _ => False) w1 W4 := (k3).trans kk
  try go_wp2_with fail
  refine hK.out _ _ (BX.out.kept k4 (fun h => h)) (fun hHeld => ?_)
  clear hK K kk
  (try simp only [Act.put, List.setIfInBounds_toArray, List.set_cons_zero, List.set_cons_succ])
  refine wpAnyH_take (i := 10) (v := ?_) rfl (by kernel_rfl) (by kernel_rfl) (by kernel_rfl) (fun _ _ _ h => h) (Or.inl ⟨by kernel_rfl, ?_⟩) (by assumption) ?_; rotate_left; focus (intro w hSw; (try dsimp only at hSw); go_simp; try (with_reducible rfl)); (try simp only [Act.put, List.setIfInBounds_toArray, List.set_cons_zero, List.set_cons_succ])
  refine wpAnyH_take (i := 11) (v := ?_) rfl (by kernel_rfl) (by kernel_rfl) (by kernel_rfl) (fun _ _ _ h => h) (Or.inl ⟨by kernel_rfl, ?_⟩) (by assumption) ?_; rotate_left; focus (intro w hSw; (try dsimp only at hSw); go_simp; try (with_reducible rfl)); (try simp only [Act.put, List.setIfInBounds_toArray, List.set_cons_zero, List.set_cons_succ])
  refine wpAnyH_done (by kernel_rfl) ?_ _
  refine ⟨⟨_, _, _, _, _, _, _, _, _, _, _, rfl⟩, k4⟩
end szc
end Go.Proofs.Ytgjlibecgkhocaa

set_option linter.unusedVariables false
set_option linter.unusedSimpArgs false
namespace Go.Proofs.Ytgjlibecgkhocaa
open Go.RowKit Cfp
namespace szc
/-- one of the configurations that are compared -/
structure Itm where
  c : Cfg
  l : List (Int × Int)
  C : Option Addr
  n : Nat
  k : Nat
  T : Option Addr
  q : Nat
  j : Nat
def Itm.cells (x : Itm) : List Value := (#[.int .i64 x.c.length, .int .i64 x.c.lateness, .int .i64 x.c.windows, .int .i64 x.c.shards, .int .i64 x.c.spread, .int .i64 x.c.queue, .int .i64 x.c.mode, .int .i64 x.c.slots, .int .i64 x.c.exact_, .int .u64 x.c.promote, .int .i64 x.c.depth, .int .i64 x.c.width, .int .i64 x.c.top, .int .i64 x.c.key, .slice x.C x.n x.k, .slice x.T x.q x.j, .int .u64 x.c.seed] : Array Value).toList
theorem cells_get : ∀ (xs : List Itm) (i : Nat) (x : Itm), xs[i]? = some x → ∀ (t : Nat) (v : Value), x.cells[t]? = some v → (xs.flatMap Itm.cells)[i * 17 + t]? = some v
  | [], i, x, h, t, v, hv => by simp at h
  | y :: xs, 0, x, h, t, v, hv => by
    obtain rfl : y = x := by simpa using h
    have h17 : t < y.cells.length := (List.getElem?_eq_some_iff.1 hv).1
    rw [List.flatMap_cons, Nat.zero_mul, Nat.zero_add, List.getElem?_append_left h17]
    exact hv
  | y :: xs, i + 1, x, h, t, v, hv => by
    have hl : y.cells.length = 17 := rfl
    rw [List.flatMap_cons, List.getElem?_append_right (by rw [hl]; omega), hl, show (i + 1) * 17 + t - 17 = i * 17 + t from by omega]
    exact cells_get xs i x (by simpa using h) t v hv
/-- a configuration loaded out of the middle of a block -/
theorem cfg_ld_off {ops : Array Oper} {rest : List Oper} {o : Oper} {a : Act} {w : World} {Q : Exit → Act → World → Prop} {c : Cfg} {C T : Option Addr} {n k q j g off : Nat} (x : Operand) (ho : o.op = .load 28 x)
    (hc : ∀ i v, (#[.int .i64 c.length, .int .i64 c.lateness, .int .i64 c.windows, .int .i64 c.shards, .int .i64 c.spread, .int .i64 c.queue, .int .i64 c.mode, .int .i64 c.slots, .int .i64 c.exact_, .int .u64 c.promote, .int .i64 c.depth, .int .i64 c.width, .int .i64 c.top, .int .i64 c.key, .slice C n k, .slice T q j, .int .u64 c.seed] : Array Value).toList[i]? = some v → w.cell? ⟨g, off + i, none⟩ = some v) (hx : a.eval x = .pointer (some ⟨g, off, none⟩)) (hw : Region.wanted o (yielded ops a.tmps) = true)
    (h : wpList Try.prog ops Q rest (a.put o.dst (Value.agg #[.int .i64 c.length, .int .i64 c.lateness, .int .i64 c.windows, .int .i64 c.shards, .int .i64 c.spread, .int .i64 c.queue, .int .i64 c.mode, .int .i64 c.slots, .int .i64 c.exact_, .int .u64 c.promote, .int .i64 c.depth, .int .i64 c.width, .int .i64 c.top, .int .i64 c.key, .slice C n k, .slice T q j, .int .u64 c.seed])) w) : wpList Try.prog ops Q (o :: rest) a w := by
  show if Region.wanted o (yielded ops a.tmps) then _ else _
  rw [if_pos hw]
  refine .inl ?_
  have hl := run_loadCells_list (P := Try.prog) w ⟨g, off, none⟩ (#[.int .i64 c.length, .int .i64 c.lateness, .int .i64 c.windows, .int .i64 c.shards, .int .i64 c.spread, .int .i64 c.queue, .int .i64 c.mode, .int .i64 c.slots, .int .i64 c.exact_, .int .u64 c.promote, .int .i64 c.depth, .int .i64 c.width, .int .i64 c.top, .int .i64 c.key, .slice C n k, .slice T q j, .int .u64 c.seed] : Array Value).toList (fun i v hv => by rw [Addr.add_lit]; exact hc i v hv)
  have hi : (Try.prog.info? 28).map (·.size) = some 17 := by kernel_rfl
  have hagg : (isAgg 28).run Try.prog w = .ok true w := by
    unfold isAgg
    rw [Sem.run_bind, run_underlying Try.underlying28 w]
    rfl
  have hr : (loadVar 28 ⟨g, off, none⟩).run Try.prog w = .ok (Value.agg #[.int .i64 c.length, .int .i64 c.lateness, .int .i64 c.windows, .int .i64 c.shards, .int .i64 c.spread, .int .i64 c.queue, .int .i64 c.mode, .int .i64 c.slots, .int .i64 c.exact_, .int .u64 c.promote, .int .i64 c.depth, .int .i64 c.width, .int .i64 c.top, .int .i64 c.key, .slice C n k, .slice T q j, .int .u64 c.seed]) w := by
    cases hq : Try.prog.info? 28 with
    | none => rw [hq] at hi; simp at hi
    | some i =>
      have hs : i.size = 17 := by rw [hq] at hi; simpa using hi
      simp only [Array.length_toList, Array.toArray_toList, List.size_toArray, List.length_cons, List.length_nil] at hl
      simp [loadVar, Sem.run_bind, hagg, sizeOf, typeInfo, hq, hs]
      first | (rw [hl]; rfl) | simp [hl]
  unfold Oper.wp execOp
  simp only [ho, hx, Instr.loadAt, Instr.sureAddr, Sem.run_bind, Sem.run_pure, Result.andThen_ok, hr]
  exact h
def firstLoop : Code → Option Code
  | .loop c => some c
  | .seq a b => match firstLoop a with
    | some c => some c
    | none => firstLoop b
  | .block _ c => firstLoop c
  | .scope c => firstLoop c
  | .cond _ a b => match firstLoop a with
    | some c => some c
    | none => firstLoop b
  | _ => none
def LoopPost (W : Act → World → Prop) : Exit → Act → World → Prop
  | .exit k, a, w => k = 0 ∧ W a w
  | _, _, _ => False
noncomputable def sloop : Code := ((Try.f6.body.bind firstLoop).getD .skip)
set_option maxRecDepth 1000000 in
set_option maxHeartbeats 4000000 in
theorem loop (xs : List Itm) (m : Nat) (hm : xs.length = m) (hm8 : m ≤ 8) (G : Nat) (w6 : World)
    (hF : ∀ x ∈ xs, ∃ ce ve, Four w6 (Value.agg #[.int .i64 x.c.length, .int .i64 x.c.lateness, .int .i64 x.c.windows, .int .i64 x.c.shards, .int .i64 x.c.spread, .int .i64 x.c.queue, .int .i64 x.c.mode, .int .i64 x.c.slots, .int .i64 x.c.exact_, .int .u64 x.c.promote, .int .i64 x.c.depth, .int .i64 x.c.width, .int .i64 x.c.top, .int .i64 x.c.key, .slice x.C x.n x.k, .slice x.T x.q x.j, .int .u64 x.c.seed]) ce ve) (hG : Blk w6 G 28 (xs.flatMap Itm.cells).toArray) (s0 s1 s2 s3 s4 s5 s6 s7 s8 s9 s10 s11 s12 s13 s14 s15 s16 s17 s18 s19 s20 s21 s22 s23 s24 s25 s26 s27 s28 s29 s30 s31 s32 s33 s34 s35 s36 s37 s38 s39 s40 s41 s42 s43 s44 s45 s46 s47 s48 s49 s50 s54 s55 s56 s57 s58 s59 s60 s61 s62 s63 s64 s65 s66 s67 s68 s69 s70 s71 s72 s73 s74 s75 : Value) :
    Code.wp Try.prog (Code.loop sloop) (LoopPost fun a' w' => (∃ u12 u18 u53 u54 u55 u56 u57 u58 u59 u60 u61 u62 u63 u64 u65 u66 u67 u68 u69 : Value, a' = ⟨#[s0, s1, s2, s3, s4, s5, s6, s7, s8, s9, s10, s11, u12, s13, s14, s15, s16, s17, u18, s19, s20, s21, s22, s23, s24, s25, s26, s27, s28, s29, s30, s31, s32, s33, s34, s35, s36, s37, s38, s39, s40, s41, s42, s43, s44, s45, s46, s47, s48, s49, s50, .slice (some ⟨G, 0, none⟩) m m, .int .i64 (m : Int), u53, u54, u55, u56, u57, u58, u59, u60, u61, u62, u63, u64, u65, u66, u67, u68, u69, s70, s71, s72, s73, s74, s75], []⟩) ∧ Keeps (fun _ => False) w6 w') ⟨#[s0, s1, s2, s3, s4, s5, s6, s7, s8, s9, s10, s11, s12, s13, s14, s15, s16, s17, s18, s19, s20, s21, s22, s23, s24, s25, s26, s27, s28, s29, s30, s31, s32, s33, s34, s35, s36, s37, s38, s39, s40, s41, s42, s43, s44, s45, s46, s47, s48, s49, s50, .slice (some ⟨G, 0, none⟩) m m, .int .i64 (m : Int), .int .i64 0, s54, s55, s56, s57, s58, s59, s60, s61, s62, s63, s64, s65, s66, s67, s68, s69, s70, s71, s72, s73, s74, s75], []⟩ w6 := by
  have HF := hide hF
  have BG := hide hG
  have HM := hide hm
  clear hF hG hm
  conv => arg 2; arg 1; whnf
  dsimp only
  go_loopw [53] (fun iv wr => ∃ i : Nat, i ≤ m ∧ iv = .int .i64 i ∧ Hid (Keeps (fun _ => False) w6 wr)) (fun iv _ => m - (intOf iv).toNat)
  case atStart => exact ⟨0, by omega, rfl, hide (Keeps.refl _ _)⟩
  case round =>
    obtain ⟨i, hi, rfl, KR⟩ := hrel
    by_cases hlt : i < m
    · have HLT : Hid (i + 1 ≤ m) := hlt
      have hix : i < xs.length := by rw [HM.out]; exact hlt
      obtain ⟨x, hx⟩ : ∃ x, xs[i]? = some x := ⟨xs[i], List.getElem?_eq_getElem hix⟩
      obtain ⟨ce, ve, hf⟩ := HF.out x (List.mem_of_getElem? hx)
      have hc0 := cells_get xs i x hx
      obtain ⟨c, l, C, n, k, T, q, j⟩ := x
      have HO : Hid (∀ t v, (#[.int .i64 c.length, .int .i64 c.lateness, .int .i64 c.windows, .int .i64 c.shards, .int .i64 c.spread, .int .i64 c.queue, .int .i64 c.mode, .int .i64 c.slots, .int .i64 c.exact_, .int .u64 c.promote, .int .i64 c.depth, .int .i64 c.width, .int .i64 c.top, .int .i64 c.key, .slice C n k, .slice T q j, .int .u64 c.seed] : Array Value).toList[t]? = some v → wr.cell? ⟨G, i * 17 + t, none⟩ = some v) := fun t v hv => by
        rw [(BG.out.kept KR.out (fun h => h)).cell, List.getElem?_toArray]
        exact hc0 t v hv
      have kA := (Keeps.refl (fun _ => False) wr).alloc (.cells #[.int .i64 c.length, .int .i64 c.lateness, .int .i64 c.windows, .int .i64 c.shards, .int .i64 c.spread, .int .i64 c.queue, .int .i64 c.mode, .int .i64 c.slots, .int .i64 c.exact_, .int .u64 c.promote, .int .i64 c.depth, .int .i64 c.width, .int .i64 c.top, .int .i64 c.key, .slice C n k, .slice T q j, .int .u64 c.seed] 28)
      have BA := hide (Blk.new wr 28 #[.int .i64 c.length, .int .i64 c.lateness, .int .i64 c.windows, .int .i64 c.shards, .int .i64 c.spread, .int .i64 c.queue, .int .i64 c.mode, .int .i64 c.slots, .int .i64 c.exact_, .int .u64 c.promote, .int .i64 c.depth, .int .i64 c.width, .int .i64 c.top, .int .i64 c.key, .slice C n k, .slice T q j, .int .u64 c.seed])
      have RA := hide (hf.mono (KR.out.trans kA))
      have KA := hide (KR.out.trans kA)
      have hi0 : (0 : Int) ≤ (i : Int) := by omega
      have hi1 : (i : Int) < (m : Int) := by omega
      clear hf hc0 hx hix kA
      go_upto_region 10 with (first | (refine cfg_ld_off (off := i * 17) (g := G) _ rfl HO.out rfl (by rfl) ?_; simp only [Act.put, List.setIfInBounds_toArray, List.set_cons_zero, List.set_cons_succ]) | (refine cfg_st _ _ rfl (by rfl) (by rfl) (by rfl) (by rfl) ?_; simp only [Act.put, List.setIfInBounds_toArray, List.set_cons_zero, List.set_cons_succ]))
      trace "REG10"
      generalize wr.alloc _ = w7 at *
      generalize wr.heap.size = X7 at *
      refine Code.wp_mono ?_ (reg10 c C T n k q j X7 w7 ce ve RA.out BA.out _ _ _ _ _ _ _ _ _ _ _ _ _ _ _ _ _ _ _ _ _ _ _ _ _ _ _ _ _ _ _ _ _ _ _ _ _ _ _ _ _ _ _ _ _ _ _ _ _ _ _ _ _ _ _ _ _ _ _ _ _ _ _ _ _ _ _ _ _ _ _ _ _ _ _)
      intro e a' w'' hex
      cases e <;> (first | exact hex.elim | skip)
      obtain ⟨⟨u57, u58, u59, u60, u61, u62, u63, u64, u65, u66, u67, rfl⟩, k15⟩ := hex
      have K15 := hide (KA.out.trans k15)
      clear k15
      dsimp only
      go_wp2_with fail
      go_roundw
      case rel => exact ⟨i + 1, HLT.out, by go_num, K15⟩
      case measure => have := HLT.out; simp [intOf]; omega
    · obtain rfl : i = m := by omega
      go_wp2_with fail
      trace "END"
      refine ⟨rfl, ⟨_, _, _, _, _, _, _, _, _, _, _, _, _, _, _, _, _, _, _, rfl⟩, KR.out⟩
end szc
end Go.Proofs.Ytgjlibecgkhocaa

set_option linter.unusedVariables false
set_option linter.unusedSimpArgs false
namespace Go.Proofs.Ytgjlibecgkhocaa
open Go.RowKit Cfp
namespace szc
/-- a list of numbers and an error are returned -/
def DemC (w : World) (L : List Int) (ev : Int) (e : Ending) (w' : World) : Prop :=
  ∃ A m cc, e = .returned (.tuple #[.slice A m cc, .int .i64 ev]) ∧ m ≤ 1000 ∧ Rd w' w'.heap.size A 1 m (L.map (.int .i64)) ∧ Keeps (fun _ => False) w w'
/-- what is said of a configuration (as a value v) in every world that has kept w1: the program and the reference alike -/
def Dem4 (w1 : World) (v : Value) (L : List Int) (ev tv : Int) : Prop :=
  (∀ W, Keeps (fun _ => False) w1 W → Calls Try.prog 29 #[v] W (DemC W L ev)) ∧
  (∀ W, Keeps (fun _ => False) w1 W → Calls Try.prog 30 #[v] W (DemC W L ev)) ∧
  (∀ W, Keeps (fun _ => False) w1 W → Calls Try.prog 31 #[v] W fun e w' => e = .returned (.int .i64 tv) ∧ Keeps (fun _ => False) W w') ∧
  (∀ W, Keeps (fun _ => False) w1 W → Calls Try.prog 32 #[v] W fun e w' => e = .returned (.int .i64 tv) ∧ Keeps (fun _ => False) W w')
theorem Dem4.mono {w1 w2 : World} {v : Value} {L : List Int} {ev tv : Int} (h : Dem4 w1 v L ev tv) (kk : Keeps (fun _ => False) w1 w2) : Dem4 w2 v L ev tv :=
  ⟨fun W k => h.1 W (kk.trans k), fun W k => h.2.1 W (kk.trans k), fun W k => h.2.2.1 W (kk.trans k), fun W k => h.2.2.2 W (kk.trans k)⟩
noncomputable def rg16 : Code := ((Try.f7.body.bind (findReg 16)).getD .skip)
set_option maxRecDepth 1000000 in
set_option maxHeartbeats 4000000 in
theorem reg16 (c : Cfg) (C T : Option Addr) (n k q j X : Nat) (w1 : World) (L : List Int) (ev tv : Int) (A A2 : Option Addr) (m cc cc2 B B2 : Nat) (hm : m ≤ 1000)
    (hr : Rd w1 B A 1 m (L.map (.int .i64))) (hr2 : Rd w1 B2 A2 1 m (L.map (.int .i64)))
    (hF : Dem4 w1 (Value.agg #[.int .i64 c.length, .int .i64 c.lateness, .int .i64 c.windows, .int .i64 c.shards, .int .i64 c.spread, .int .i64 c.queue, .int .i64 c.mode, .int .i64 c.slots, .int .i64 c.exact_, .int .u64 c.promote, .int .i64 c.depth, .int .i64 c.width, .int .i64 c.top, .int .i64 c.key, .slice C n k, .slice T q j, .int .u64 c.seed]) L ev tv) (hX : Blk w1 X 28 #[.int .i64 c.length, .int .i64 c.lateness, .int .i64 c.windows, .int .i64 c.shards, .int .i64 c.spread, .int .i64 c.queue, .int .i64 c.mode, .int .i64 c.slots, .int .i64 c.exact_, .int .u64 c.promote, .int .i64 c.depth, .int .i64 c.width, .int .i64 c.top, .int .i64 c.key, .slice C n k, .slice T q j, .int .u64 c.seed]) (s0 s1 s2 s3 s4 s5 s6 s7 s8 s9 s10 s11 s12 s13 s19 s20 s21 s22 s23 s24 s25 s26 s27 s28 s29 s30 s31 s32 s33 s34 s35 s36 s37 s38 s39 s40 s41 s42 s43 s44 s45 s46 s47 s48 s49 s50 s51 s52 s53 s54 s55 s56 s57 s58 s59 s60 s61 s62 s63 s64 s65 s66 s67 s68 s69 s70 s71 s72 s73 s74 s75 s76 s77 s78 s79 s80 s81 s82 s83 s84 s85 s86 s87 s88 s89 s90 s91 s92 s93 s94 s95 s96 s97 s98 s99 s100 s101 : Value) :
    Code.wp Try.prog rg16 (NormPost fun a' w' => (∃ u84 u85 u86 u87 u88 u89 u90 u91 u92 u93 u94 u95 u96 u97 u98 : Value, a' = ⟨#[s0, s1, s2, s3, s4, s5, s6, s7, s8, s9, s10, s11, s12, s13, .pointer (some ⟨X, 0, none⟩), .slice A m cc, .int .i64 ev, .slice A2 m cc2, .int .i64 ev, s19, s20, s21, s22, s23, s24, s25, s26, s27, s28, s29, s30, s31, s32, s33, s34, s35, s36, s37, s38, s39, s40, s41, s42, s43, s44, s45, s46, s47, s48, s49, s50, s51, s52, s53, s54, s55, s56, s57, s58, s59, s60, s61, s62, s63, s64, s65, s66, s67, s68, s69, s70, s71, s72, s73, s74, s75, s76, s77, s78, s79, s80, s81, s82, s83, u84, u85, u86, u87, u88, u89, u90, u91, u92, u93, u94, u95, u96, u97, u98, .bool false, s100, s101], []⟩) ∧ Keeps (fun _ => False) w1 w') ⟨#[s0, s1, s2, s3, s4, s5, s6, s7, s8, s9, s10, s11, s12, s13, .pointer (some ⟨X, 0, none⟩), .slice A m cc, .int .i64 ev, .slice A2 m cc2, .int .i64 ev, s19, s20, s21, s22, s23, s24, s25, s26, s27, s28, s29, s30, s31, s32, s33, s34, s35, s36, s37, s38, s39, s40, s41, s42, s43, s44, s45, s46, s47, s48, s49, s50, s51, s52, s53, s54, s55, s56, s57, s58, s59, s60, s61, s62, s63, s64, s65, s66, s67, s68, s69, s70, s71, s72, s73, s74, s75, s76, s77, s78, s79, s80, s81, s82, s83, s84, s85, s86, s87, s88, s89, s90, s91, s92, s93, s94, s95, s96, s97, s98, s99, s100, s101], []⟩ w1 := by
  have HF := hide hF
  have BX := hide hX
  have k0 : Keeps (fun _ => False) w1 w1 := Keeps.refl _ _
  have kd : Keeps (fun _ => False) w1 w1.drew := k0.drew
  have HR1 := hide (hr.kept kd (fun _ _ h => h))
  have HR2 := hide (hr2.kept kd (fun _ _ h => h))
  have e1 : (ev != ev) = false := by simp
  have e2 : (tv != tv) = false := by simp
  clear hF hX hr hr2
  conv => arg 2; whnf
  dsimp only
  refine wp_region_held_drew (S := fun w' => Blk w' X 28 #[.int .i64 c.length, .int .i64 c.lateness, .int .i64 c.windows, .int .i64 c.shards, .int .i64 c.spread, .int .i64 c.queue, .int .i64 c.mode, .int .i64 c.slots, .int .i64 c.exact_, .int .u64 c.promote, .int .i64 c.depth, .int .i64 c.width, .int .i64 c.top, .int .i64 c.key, .slice C n k, .slice T q j, .int .u64 c.seed]) (by kernel_rfl) (BX.out.drew) (fun hHeld => ?_)
  refine wpAnyH_take (i := 0) (v := ?_) rfl (by kernel_rfl) (by kernel_rfl) (by kernel_rfl) (fun _ _ _ h => h) (Or.inl ⟨by kernel_rfl, ?_⟩) (by assumption) ?_; rotate_left; focus (intro w hSw; (try dsimp only at hSw); go_simp; try (with_reducible rfl)); (try simp only [Act.put, List.setIfInBounds_toArray, List.set_cons_zero, List.set_cons_succ])
  refine wpAnyH_take (i := 1) (v := ?_) rfl (by kernel_rfl) (by kernel_rfl) (by kernel_rfl) (fun _ _ _ h => h) (Or.inl ⟨by kernel_rfl, ?_⟩) (by assumption) ?_; rotate_left; focus (intro w hSw; (try dsimp only at hSw); go_simp; try (with_reducible rfl)); (try simp only [Act.put, List.setIfInBounds_toArray, List.set_cons_zero, List.set_cons_succ])
  refine wpAnyH_ready (rs := [2]) (by kernel_rfl) (by simp) ?_
  refine AllReadyH.cons rfl (fun K hK => ?_) AllReadyH.nil
  go_simp
  go_at_call 18
  refine (sameInts_any L A A2 m cc cc2 _ _ _ HR1.out HR2.out (by omega)).mono ?_
  rintro e W0 ⟨rfl, nq, rfl⟩
  have k00 : Keeps (fun _ => False) w1 (w1.drewN (1 + nq)) := k0.drewN _
  try go_wp2_with fail
  have b00 : Blk (w1.drewN (1 + nq)) X 28 #[.int .i64 c.length, .int .i64 c.lateness, .int .i64 c.windows, .int .i64 c.shards, .int .i64 c.spread, .int .i64 c.queue, .int .i64 c.mode, .int .i64 c.slots, .int .i64 c.exact_, .int .u64 c.promote, .int .i64 c.depth, .int .i64 c.width, .int .i64 c.top, .int .i64 c.key, .slice C n k, .slice T q j, .int .u64 c.seed] := BX.out
  refine hK.out _ _ b00 (fun hHeld => ?_)
  clear hK K HR1 HR2
  (try simp only [Act.put, List.setIfInBounds_toArray, List.set_cons_zero, List.set_cons_succ])
  trace "SAME"
  refine wpAnyH_take (i := 3) (v := ?_) rfl (by kernel_rfl) (by kernel_rfl) (by kernel_rfl) (fun _ _ _ h => h) (Or.inl ⟨by kernel_rfl, ?_⟩) (by assumption) ?_; rotate_left; focus (intro w hSw; (try dsimp only at hSw); go_simp; try (with_reducible rfl)); (try simp only [Act.put, List.setIfInBounds_toArray, List.set_cons_zero, List.set_cons_succ])
  refine wpAnyH_take (i := 4) (v := ?_) rfl (by kernel_rfl) (by kernel_rfl) (by kernel_rfl) (fun _ _ _ h => h) (Or.inl ⟨by kernel_rfl, ?_⟩) (by assumption) ?_; rotate_left; focus (intro w hSw; (try dsimp only at hSw); go_simp; try (with_reducible rfl)); (try simp only [Act.put, List.setIfInBounds_toArray, List.set_cons_zero, List.set_cons_succ])
  refine wpAnyH_take (i := 5) (v := ?_) rfl (by kernel_rfl) (by kernel_rfl) (by kernel_rfl) (fun _ _ _ h => h) (Or.inl ⟨by kernel_rfl, ?_⟩) (by assumption) ?_; rotate_left; focus (intro w hSw; (try dsimp only at hSw); go_simp; try (with_reducible rfl)); (try simp only [Act.put, List.setIfInBounds_toArray, List.set_cons_zero, List.set_cons_succ])
  refine wpAnyH_take (i := 6) (v := ?_) rfl (by kernel_rfl) (by kernel_rfl) (by kernel_rfl) (fun _ _ _ h => h) (Or.inl ⟨by kernel_rfl, ?_⟩) (by assumption) ?_; rotate_left; focus (intro w hSw; (try dsimp only at hSw); go_simp; try (with_reducible rfl)); (try simp only [Act.put, List.setIfInBounds_toArray, List.set_cons_zero, List.set_cons_succ])
  refine wpAnyH_take (i := 7) (v := ?_) rfl (by kernel_rfl) (by kernel_rfl) (by kernel_rfl) (fun _ _ _ h => h) (Or.inl ⟨by kernel_rfl, ?_⟩) (by assumption) ?_; rotate_left; focus (intro w hSw; (try dsimp only at hSw); go_simp; try (with_reducible rfl)); (try simp only [Act.put, List.setIfInBounds_toArray, List.set_cons_zero, List.set_cons_succ])
  refine wpAnyH_take (i := 8) (v := ?_) rfl (by kernel_rfl) (by kernel_rfl) (by kernel_rfl) (fun _ _ _ h => h) (Or.inl ⟨by kernel_rfl, ?_⟩) (by assumption) ?_; rotate_left; focus (intro w hSw; (try dsimp only at hSw); go_simp; try (with_reducible rfl)); (try simp only [Act.put, List.setIfInBounds_toArray, List.set_cons_zero, List.set_cons_succ])
  refine wpAnyH_take (i := 9) (v := ?_) rfl (by kernel_rfl) (by kernel_rfl) (by kernel_rfl) (fun _ _ _ h => h) (Or.inl ⟨by kernel_rfl, ?_⟩) (by assumption) ?_; rotate_left; focus (intro w hSw; (try dsimp only at hSw); go_simp; try (with_reducible rfl)); (try simp only [Act.put, List.setIfInBounds_toArray, List.set_cons_zero, List.set_cons_succ])
  refine wpAnyH_take (i := 10) (v := _) rfl (by kernel_rfl) (by kernel_rfl) (by kernel_rfl) (fun _ _ _ h => h) (cfg_yields (c := c) (C := C) (T := T) (n := n) (k := k) (q := q) (j := j) (g := X) (.tmp 14) rfl (fun _ h => h) (by simp [Act.eval, Act.put]) (by kernel_rfl)) (by assumption) ?_
  (try simp only [Act.put, List.setIfInBounds_toArray, List.set_cons_zero, List.set_cons_succ])
  refine wpAnyH_take (i := 12) (v := _) rfl (by kernel_rfl) (by kernel_rfl) (by kernel_rfl) (fun _ _ _ h => h) (cfg_yields (c := c) (C := C) (T := T) (n := n) (k := k) (q := q) (j := j) (g := X) (.tmp 14) rfl (fun _ h => h) (by simp [Act.eval, Act.put]) (by kernel_rfl)) (by assumption) ?_
  (try simp only [Act.put, List.setIfInBounds_toArray, List.set_cons_zero, List.set_cons_succ])
  refine wpAnyH_ready (rs := [11]) (by kernel_rfl) (by simp) ?_
  refine AllReadyH.cons rfl (fun K hK => ?_) AllReadyH.nil
  go_simp
  go_at_call 31
  refine (HF.out.2.2.1 _ k00).mono ?_
  rintro e W3 ⟨rfl, kk⟩
  have k3 : Keeps (fun _ => False) w1 W3 := (k00).trans kk
  try go_wp2_with fail
  refine hK.out _ _ (BX.out.kept k3 (fun h => h)) (fun hHeld => ?_)
  clear hK K kk
  (try simp only [Act.put, List.setIfInBounds_toArray, List.set_cons_zero, List.set_cons_succ])
  refine wpAnyH_ready (rs := [13]) (by kernel_rfl) (by simp) ?_
  refine AllReadyH.cons rfl (fun K hK => ?_) AllReadyH.nil
  go_simp
  go_at_call 32
  refine (HF.out.2.2.2 _ k3).mono ?_
  rintro e W4 ⟨rfl, kk⟩
  have k4 : Keeps (fun _ => False) w1 W4 := (k3).trans kk
  try go_wp2_with fail
  refine hK.out _ _ (BX.out.kept k4 (fun h => h)) (fun hHeld => ?_)
  clear hK K kk
  (try simp only [Act.put, List.setIfInBounds_toArray, List.set_cons_zero, List.set_cons_succ])
  refine wpAnyH_take (i := 14) (v := ?_) rfl (by kernel_rfl) (by kernel_rfl) (by kernel_rfl) (fun _ _ _ h => h) (Or.inl ⟨by kernel_rfl, ?_⟩) (by assumption) ?_; rotate_left; focus (intro w hSw; (try dsimp only at hSw); go_simp; try (with_reducible rfl)); (try simp only [Act.put, List.setIfInBounds_toArray, List.set_cons_zero, List.set_cons_succ])
  refine wpAnyH_take (i := 15) (v := ?_) rfl (by kernel_rfl) (by kernel_rfl) (by kernel_rfl) (fun _ _ _ h => h) (Or.inl ⟨by kernel_rfl, ?_⟩) (by assumption) ?_; rotate_left; focus (intro w hSw; (try dsimp only at hSw); go_simp; try (with_reducible rfl)); (try simp only [Act.put, List.setIfInBounds_toArray, List.set_cons_zero, List.set_cons_succ])
  refine wpAnyH_done (by kernel_rfl) ?_ _
  refine ⟨⟨_, _, _, _, _, _, _, _, _, _, _, _, _, _, _, rfl⟩, k4⟩
/-- the last loop of a body -/
def lastLoop : Code → Option Code
  | .loop c => some c
  | .seq a b => match lastLoop b with
    | some c => some c
    | none => lastLoop a
  | .block _ c => lastLoop c
  | .scope c => lastLoop c
  | .cond _ a b => match lastLoop b with
    | some c => some c
    | none => lastLoop a
  | _ => none
noncomputable def dloop2 : Code := ((Try.f7.body.bind lastLoop).getD .skip)
def LoopPostK (k : Nat) (W : Act → World → Prop) : Exit → Act → World → Prop
  | .exit i, a, w => i = k ∧ W a w
  | _, _, _ => False
set_option maxRecDepth 1000000 in
set_option maxHeartbeats 4000000 in
theorem loop2 (xs : List Itm) (m : Nat) (hm : xs.length = m) (hm8 : m ≤ 8) (G : Nat) (w6 : World)
    (hF : ∀ x ∈ xs, ∃ L ev tv, Dem4 w6 (Value.agg #[.int .i64 x.c.length, .int .i64 x.c.lateness, .int .i64 x.c.windows, .int .i64 x.c.shards, .int .i64 x.c.spread, .int .i64 x.c.queue, .int .i64 x.c.mode, .int .i64 x.c.slots, .int .i64 x.c.exact_, .int .u64 x.c.promote, .int .i64 x.c.depth, .int .i64 x.c.width, .int .i64 x.c.top, .int .i64 x.c.key, .slice x.C x.n x.k, .slice x.T x.q x.j, .int .u64 x.c.seed]) L ev tv) (hG : Blk w6 G 28 (xs.flatMap Itm.cells).toArray) (s0 s1 s2 s3 s4 s5 s6 s7 s8 s9 s10 s11 s12 s13 s14 s15 s16 s17 s18 s19 s20 s21 s22 s23 s24 s25 s26 s27 s28 s29 s30 s31 s32 s33 s34 s35 s36 s37 s38 s39 s40 s41 s42 s43 s44 s45 s46 s47 s48 s49 s50 s51 s52 s53 s54 s55 s56 s57 s58 s59 s60 s61 s62 s63 s64 s65 s66 s67 s71 s72 s73 s74 s75 s76 s77 s78 s79 s80 s81 s82 s83 s84 s85 s86 s87 s88 s89 s90 s91 s92 s93 s94 s95 s96 s97 s98 s99 s100 s101 : Value) :
    Code.wp Try.prog (Code.loop dloop2) (LoopPostK 2 fun a' w' => (∃ u8 u14 u15 u16 u17 u18 u70 u71 u72 u73 u74 u75 u76 u77 u78 u79 u80 u81 u82 u83 u84 u85 u86 u87 u88 u89 u90 u91 u92 u93 u94 u95 u96 u97 u98 u99 u100 : Value, a' = ⟨#[s0, s1, s2, s3, s4, s5, s6, s7, u8, s9, s10, s11, s12, s13, u14, u15, u16, u17, u18, s19, s20, s21, s22, s23, s24, s25, s26, s27, s28, s29, s30, s31, s32, s33, s34, s35, s36, s37, s38, s39, s40, s41, s42, s43, s44, s45, s46, s47, s48, s49, s50, s51, s52, s53, s54, s55, s56, s57, s58, s59, s60, s61, s62, s63, s64, s65, s66, s67, .slice (some ⟨G, 0, none⟩) m m, .int .i64 (m : Int), u70, u71, u72, u73, u74, u75, u76, u77, u78, u79, u80, u81, u82, u83, u84, u85, u86, u87, u88, u89, u90, u91, u92, u93, u94, u95, u96, u97, u98, u99, u100, s101], []⟩) ∧ Keeps (fun _ => False) w6 w') ⟨#[s0, s1, s2, s3, s4, s5, s6, s7, s8, s9, s10, s11, s12, s13, s14, s15, s16, s17, s18, s19, s20, s21, s22, s23, s24, s25, s26, s27, s28, s29, s30, s31, s32, s33, s34, s35, s36, s37, s38, s39, s40, s41, s42, s43, s44, s45, s46, s47, s48, s49, s50, s51, s52, s53, s54, s55, s56, s57, s58, s59, s60, s61, s62, s63, s64, s65, s66, s67, .slice (some ⟨G, 0, none⟩) m m, .int .i64 (m : Int), .int .i64 0, s71, s72, s73, s74, s75, s76, s77, s78, s79, s80, s81, s82, s83, s84, s85, s86, s87, s88, s89, s90, s91, s92, s93, s94, s95, s96, s97, s98, s99, s100, s101], []⟩ w6 := by
  have HF := hide hF
  have BG := hide hG
  have HM := hide hm
  clear hF hG hm
  conv => arg 2; arg 1; whnf
  dsimp only
  go_loopw [70] (fun iv wr => ∃ i : Nat, i ≤ m ∧ iv = .int .i64 i ∧ Hid (Keeps (fun _ => False) w6 wr)) (fun iv _ => m - (intOf iv).toNat)
  case atStart => exact ⟨0, by omega, rfl, hide (Keeps.refl _ _)⟩
  case round =>
    obtain ⟨i, hi, rfl, KR⟩ := hrel
    by_cases hlt : i < m
    · have HLT : Hid (i + 1 ≤ m) := hlt
      have hix : i < xs.length := by rw [HM.out]; exact hlt
      obtain ⟨x, hx⟩ : ∃ x, xs[i]? = some x := ⟨xs[i], List.getElem?_eq_getElem hix⟩
      obtain ⟨L, ev, tv, hf⟩ := HF.out x (List.mem_of_getElem? hx)
      have hc0 := cells_get xs i x hx
      obtain ⟨c, l, C, n, k, T, q, j⟩ := x
      have HO : Hid (∀ t v, (#[.int .i64 c.length, .int .i64 c.lateness, .int .i64 c.windows, .int .i64 c.shards, .int .i64 c.spread, .int .i64 c.queue, .int .i64 c.mode, .int .i64 c.slots, .int .i64 c.exact_, .int .u64 c.promote, .int .i64 c.depth, .int .i64 c.width, .int .i64 c.top, .int .i64 c.key, .slice C n k, .slice T q j, .int .u64 c.seed] : Array Value).toList[t]? = some v → wr.cell? ⟨G, i * 17 + t, none⟩ = some v) := fun t v hv => by
        rw [(BG.out.kept KR.out (fun h => h)).cell, List.getElem?_toArray]
        exact hc0 t v hv
      have kA := (Keeps.refl (fun _ => False) wr).alloc (.cells #[.int .i64 c.length, .int .i64 c.lateness, .int .i64 c.windows, .int .i64 c.shards, .int .i64 c.spread, .int .i64 c.queue, .int .i64 c.mode, .int .i64 c.slots, .int .i64 c.exact_, .int .u64 c.promote, .int .i64 c.depth, .int .i64 c.width, .int .i64 c.top, .int .i64 c.key, .slice C n k, .slice T q j, .int .u64 c.seed] 28)
      have BA := hide (Blk.new wr 28 #[.int .i64 c.length, .int .i64 c.lateness, .int .i64 c.windows, .int .i64 c.shards, .int .i64 c.spread, .int .i64 c.queue, .int .i64 c.mode, .int .i64 c.slots, .int .i64 c.exact_, .int .u64 c.promote, .int .i64 c.depth, .int .i64 c.width, .int .i64 c.top, .int .i64 c.key, .slice C n k, .slice T q j, .int .u64 c.seed])
      have RA := hide (hf.mono (KR.out.trans kA))
      have KA := hide (KR.out.trans kA)
      have hi0 : (0 : Int) ≤ (i : Int) := by omega
      have hi1 : (i : Int) < (m : Int) := by omega
      clear hf hc0 hx hix kA
      go_upto_region 14 with (first | (refine cfg_ld_off (off := i * 17) (g := G) _ rfl HO.out rfl (by rfl) ?_; simp only [Act.put, List.setIfInBounds_toArray, List.set_cons_zero, List.set_cons_succ]) | (refine cfg_st _ _ rfl (by rfl) (by rfl) (by rfl) (by rfl) ?_; simp only [Act.put, List.setIfInBounds_toArray, List.set_cons_zero, List.set_cons_succ]))
      trace "REG14"
      generalize wr.alloc _ = w7 at *
      generalize wr.heap.size = X7 at *
      go_wp2_with (refine cfg_ld _ rfl BA.out rfl (by rfl) ?_; simp only [Act.put, List.setIfInBounds_toArray, List.set_cons_zero, List.set_cons_succ])
      refine (RA.out.1 _ (Keeps.refl _ _)).mono ?_
      rintro e w8 ⟨A, m1, cc, rfl, hm1, hr1, k8⟩
      have BA8 := hide (BA.out.kept k8 (fun h => h))
      have RA8 := hide (RA.out.mono k8)
      have KA8 := hide (KA.out.trans k8)
      have HR8 := hide hr1
      clear hr1 k8 BA RA KA
      go_upto_region 15 with fail
      trace "REG15"
      go_wp2_with (refine cfg_ld _ rfl BA8.out rfl (by rfl) ?_; simp only [Act.put, List.setIfInBounds_toArray, List.set_cons_zero, List.set_cons_succ])
      refine (RA8.out.2.1 _ (Keeps.refl _ _)).mono ?_
      rintro e w9 ⟨A2, m2, cc2, rfl, hm2, hr2, k9⟩
      have BA9 := hide (BA8.out.kept k9 (fun h => h))
      have RA9 := hide (RA8.out.mono k9)
      have KA9 := hide (KA8.out.trans k9)
      have HR9 := hide (HR8.out.kept k9 (fun _ _ h => h))
      obtain rfl : m2 = m1 := by have h1 := HR8.out.1; have h2 := hr2.1; simp at h1 h2; omega
      have HS9 := hide hr2
      clear hr2 k9 BA8 RA8 KA8 HR8
      go_upto_region 16 with fail
      trace "REG16"
      refine Code.wp_mono ?_ (reg16 c C T n k q j X7 w9 L ev tv A A2 m2 cc cc2 _ _ hm1 HR9.out HS9.out RA9.out BA9.out _ _ _ _ _ _ _ _ _ _ _ _ _ _ _ _ _ _ _ _ _ _ _ _ _ _ _ _ _ _ _ _ _ _ _ _ _ _ _ _ _ _ _ _ _ _ _ _ _ _ _ _ _ _ _ _ _ _ _ _ _ _ _ _ _ _ _ _ _ _ _ _ _ _ _ _ _ _ _ _ _ _ _ _ _ _ _ _ _ _ _ _ _ _ _ _ _)
      intro e a' w'' hex
      cases e <;> (first | exact hex.elim | skip)
      obtain ⟨⟨u84, u85, u86, u87, u88, u89, u90, u91, u92, u93, u94, u95, u96, u97, u98, rfl⟩, k15⟩ := hex
      have K15 := hide (KA9.out.trans k15)
      clear k15
      dsimp only
      go_wp2_with fail
      go_roundw
      case rel => exact ⟨i + 1, HLT.out, by go_num, K15⟩
      case measure => have := HLT.out; simp [intOf]; omega
    · obtain rfl : i = m := by omega
      go_wp2_with fail
      trace "END"
      refine ⟨rfl, ⟨_, _, _, _, _, _, _, _, _, _, _, _, _, _, _, _, _, _, _, _, _, _, _, _, _, _, _, _, _, _, _, _, _, _, _, _, _, rfl⟩, KR.out⟩
end szc
end Go.Proofs.Ytgjlibecgkhocaa

set_option linter.unusedVariables false
set_option linter.unusedSimpArgs false
namespace Go.Proofs.Ytgjlibecgkhocaa
open Go.RowKit Cfp
namespace szc
theorem prs_snoc (l : List (Int × Int)) (x : Int × Int) : prs l ++ [.int .i64 x.1, .int .i64 x.2] = prs (l ++ [x]) := by
  show _ = List.flatMap _ (l ++ [x])
  rw [List.flatMap_append]
  rfl
noncomputable def dloop1 : Code := ((Try.f7.body.bind firstLoop).getD .skip)
/-- what the loop has made so far -/
def Made (c : Cfg) (T : Option Addr) (q j : Nat) (w0 : World) (X2 : Nat) (s : Int) (i : Nat) (lb : List (Int × Int)) (A : Option Addr) (cp : Nat) (wr : World) : Prop :=
  (0 ≤ s ∧ s ≤ 256 * i) ∧ (∀ x ∈ lb, 0 ≤ x.1 ∧ x.1 ≤ 2048 ∧ x.2 = 0) ∧ Own wr w0.heap.size 46 2 A i cp (prs lb) ∧ Blk wr X2 28 #[.int .i64 c.length, .int .i64 c.lateness, .int .i64 c.windows, .int .i64 c.shards, .int .i64 c.spread, .int .i64 c.queue, .int .i64 c.mode, .int .i64 c.slots, .int .i64 c.exact_, .int .u64 c.promote, .int .i64 c.depth, .int .i64 c.width, .int .i64 c.top, .int .i64 c.key, .slice A i cp, .slice T q j, .int .u64 c.seed] ∧ Keeps (· = X2) w0 wr
set_option maxRecDepth 1000000 in
set_option maxHeartbeats 4000000 in
theorem loop1 (c : Cfg) (T : Option Addr) (q j : Nat) (A4 : Option Addr) (n4 c4 B4 X2 : Nat) (zs : List Int) (w0 : World) (hr4 : Rd w0 B4 A4 1 n4 (zs.map (.int .u8))) (hB4 : B4 ≤ X2) (hz : ∀ z ∈ zs, 0 ≤ z ∧ z < 256)
    (hX : Blk w0 X2 28 #[.int .i64 c.length, .int .i64 c.lateness, .int .i64 c.windows, .int .i64 c.shards, .int .i64 c.spread, .int .i64 c.queue, .int .i64 c.mode, .int .i64 c.slots, .int .i64 c.exact_, .int .u64 c.promote, .int .i64 c.depth, .int .i64 c.width, .int .i64 c.top, .int .i64 c.key, .slice none 0 0, .slice T q j, .int .u64 c.seed]) (s0 s1 s2 s4 s5 s6 s7 s8 s9 s13 s14 s15 s16 s17 s18 s19 s20 s21 s22 s23 s24 s25 s26 s27 s28 s29 s30 s31 s32 s33 s34 s35 s36 s37 s38 s39 s40 s41 s42 s43 s44 s45 s46 s47 s48 s49 s50 s51 s52 s53 s54 s55 s56 s57 s58 s59 s60 s61 s62 s63 s64 s65 s66 s67 s68 s69 s70 s71 s72 s73 s74 s75 s76 s77 s78 s79 s80 s81 s82 s83 s84 s85 s86 s87 s88 s89 s90 s91 s92 s93 s94 s95 s96 s97 s98 s99 s100 s101 : Value) :
    Code.wp Try.prog (Code.loop dloop1) (LoopPost fun a' w' => ∃ (s : Int) (i : Nat) (lb : List (Int × Int)) (A : Option Addr) (cp : Nat), i ≤ 6 ∧ Made c T q j w0 X2 s i lb A cp w' ∧ (∃ u12 u24 u25 u26 u27 u28 u29 u30 u31 u32 u33 u34 u35 u36 u37 u38 u39 u40 u41 u42 u43 u44 u45 u46 u47 u48 : Value, a' = ⟨#[s0, s1, s2, .slice A4 n4 c4, s4, s5, s6, s7, s8, s9, .pointer (some ⟨X2, 0, none⟩), .int .i64 s, u12, s13, s14, s15, s16, s17, s18, s19, s20, s21, s22, s23, u24, u25, u26, u27, u28, u29, u30, u31, u32, u33, u34, u35, u36, u37, u38, u39, u40, u41, u42, u43, u44, u45, u46, u47, u48, s49, s50, s51, s52, s53, s54, s55, s56, s57, s58, s59, s60, s61, s62, s63, s64, s65, s66, s67, s68, s69, s70, s71, s72, s73, s74, s75, s76, s77, s78, s79, s80, s81, s82, s83, s84, s85, s86, s87, s88, s89, s90, s91, s92, s93, s94, s95, s96, s97, s98, s99, s100, s101], []⟩)) ⟨#[s0, s1, s2, .slice A4 n4 c4, s4, s5, s6, s7, s8, s9, .pointer (some ⟨X2, 0, none⟩), .int .i64 0, .int .i64 0, s13, s14, s15, s16, s17, s18, s19, s20, s21, s22, s23, s24, s25, s26, s27, s28, s29, s30, s31, s32, s33, s34, s35, s36, s37, s38, s39, s40, s41, s42, s43, s44, s45, s46, s47, s48, s49, s50, s51, s52, s53, s54, s55, s56, s57, s58, s59, s60, s61, s62, s63, s64, s65, s66, s67, s68, s69, s70, s71, s72, s73, s74, s75, s76, s77, s78, s79, s80, s81, s82, s83, s84, s85, s86, s87, s88, s89, s90, s91, s92, s93, s94, s95, s96, s97, s98, s99, s100, s101], []⟩ w0 := by
  have HR := hide hr4
  have HX := hide hX
  have HZ := hide hz
  have hX0 := hX.lt
  clear hr4 hX hz
  conv => arg 2; arg 1; whnf
  dsimp only
  go_loopw [11, 12] (fun sv iv wr => ∃ (s : Int) (i : Nat) (lb : List (Int × Int)) (A : Option Addr) (cp : Nat), i ≤ 6 ∧ sv = .int .i64 s ∧ iv = .int .i64 i ∧ Hid (Made c T q j w0 X2 s i lb A cp wr)) (fun _ iv _ => 6 - (intOf iv).toNat)
  case atStart => exact ⟨0, 0, [], none, 0, by omega, rfl, rfl, hide ⟨by omega, fun x hx => by simp at hx, Own.nil _ _ _ _, HX.out, Keeps.refl _ _⟩⟩
  case round =>
    obtain ⟨s, i, lb, A, cp, hi, rfl, rfl, HM⟩ := hrel
    by_cases h1 : i < n4
    · by_cases h2 : i < 6
      · have d1 : ((i : Int) < (n4 : Int)) := by omega
        have d2 : ((i : Int) < 6) := by omega
        have hi0 : (0 : Int) ≤ (i : Int) := by omega
        obtain ⟨⟨s0', s1'⟩, hlb, own, blk, kk⟩ := HM.out
        have hzl : zs.length = n4 := by have := HR.out.1; simpa using this
        obtain ⟨z, hz⟩ : ∃ z, zs[i]? = some z := ⟨zs[i]'(by omega), List.getElem?_eq_getElem _⟩
        have hzb := HZ.out z (List.mem_of_getElem? hz)
        obtain ⟨b4, o4, rfl, hb4, hc4⟩ := (HR.out.kept kk (fun b hb => by omega)).2 (by omega)
        have hcz := hc4 i (.int .u8 z) (by simp [hz])
        have wz : IntKind.i64.wrap z = z := IntWalk.i64_in _ (by omega)
        have w1 : IntKind.i64.wrap (1 + z) = 1 + z := IntWalk.i64_in _ (by omega)
        have w2 : IntKind.i64.wrap (s + (1 + z)) = s + (1 + z) := IntWalk.i64_in _ (by omega)
        have hsb : (0 ≤ s + (1 + z) ∧ s + (1 + z) ≤ 256 * ((i + 1 : Nat) : Int)) ∧ s + (1 + z) ≤ 2048 := by omega
        have q14 : wr.cell? ⟨X2, 14, none⟩ = some (.slice A i cp) := blk.cell 14
        have hX2r := blk.lt
        have OW := hide own
        have BL := hide blk
        have KK := hide kk
        have HLB := hide hlb
        have HI1 : Hid (i + 1 ≤ 6) := by exact h2
        have HSB := hide hsb
        clear own blk kk hlb hc4 hz hzl HM hsb
        go_upto_region 9 with fail
        trace "R9"
        generalize s + (1 + z) = s' at *
        have kA := (Keeps.refl (fun _ => False) wr).alloc (.cells #[.int .i64 s', .int .i64 0] 46)
        have HOA := hide (OW.out.kept kA (fun _ _ h => h))
        have HRA := hide (show Rd (wr.alloc (.cells #[.int .i64 s', .int .i64 0] 46)) (wr.alloc (.cells #[.int .i64 s', .int .i64 0] 46)).heap.size (some ⟨wr.heap.size, 0, none⟩) 2 1 [.int .i64 s', .int .i64 0] from (Blk.new wr 46 #[.int .i64 s', .int .i64 0]).rd (n := 1) (sz := 2) rfl)
        have HBA := hide (BL.out.kept kA (fun h => h))
        have HKA := hide (KK.out.step0 kA)
        have hsz := KK.out.size
        go_upto_region 7 with (at_builtin; refine wpList_app _ elemCk rfl (.tmp 43) (.tmp 46) rfl w0.heap.size (prs lb) rfl HOA.out _ (m := 1) [.int .i64 s', .int .i64 0] rfl HRA.out (by simp [Value.oneCell']) (by simp only [maxLen]; omega) (by omega) (by simp; omega) ?_; intro A7 c7 w7 o7 k7 _; rw [prs_snoc lb (s', 0)] at o7; have O7 := hide o7; have hX27 : ∀ b, inB A b → b ≠ X2 := (fun b hb e => by have := (HOA.out.inB hb).1; omega); have B7 := hide (HBA.out.kept k7 (fun h => hX27 _ h rfl)); have K7 := hide (HKA.out.step k7 (fun k hk h => by have := (HOA.out.inB h).1; omega)); have q14 := B7.out.cell 14; have f14 := B7.out.frozen 14; clear o7 k7)
        trace "R7"
        have kS : Keeps (· = X2) w7 (w7.setCell ⟨X2, 14, none⟩ (.slice A7 (i + 1) c7)) := Keeps.setCell (S := (· = X2)) (p := ⟨X2, 14, none⟩) (Keeps.refl _ _) (.inl rfl) _
        have HMD : Hid (Made c T q j w0 X2 s' (i + 1) (lb ++ [(s', 0)]) A7 c7 (w7.setCell ⟨X2, 14, none⟩ (.slice A7 (i + 1) c7))) := hide ⟨HSB.out.1, fun x hx => by
            rcases List.mem_append.1 hx with h | h
            · exact HLB.out x h
            · obtain rfl : x = (s', 0) := by simpa using h
              exact ⟨HSB.out.1.1, HSB.out.2, rfl⟩, O7.out.kept kS (fun b hb e => by have := (O7.out.inB hb).1; omega), B7.out.set 14 _, K7.out.step kS (fun b hb e => e)⟩
        clear kS HOA HRA HBA HKA kA O7 B7 K7 OW BL KK q14 f14
        generalize w7.setCell _ _ = w8 at *
        go_wp2_with fail
        trace "ROUND"
        go_roundw
        case rel => exact ⟨s', i + 1, lb ++ [(s', 0)], A7, c7, HI1.out, rfl, by go_num, HMD⟩
        case measure => have := HI1.out; simp [intOf]; omega
      · have d1 : ((i : Int) < (n4 : Int)) := by omega
        have d2 : ¬ ((i : Int) < 6) := by omega
        go_wp2_with fail
        trace "END2"
        first | exact ⟨rfl, s, i, lb, A, cp, hi, HM.out, _, _, _, _, _, _, _, _, _, _, _, _, _, _, _, _, _, _, _, _, _, _, _, _, _, _, rfl⟩ | exact ⟨rfl, s, i, hi, ⟨lb, A, cp, HM.out⟩, _, _, _, _, _, _, _, _, _, _, _, _, _, _, _, _, _, _, _, _, _, _, _, _, _, _, rfl⟩
    · have d1 : ¬ ((i : Int) < (n4 : Int)) := by omega
      go_wp2_with fail
      trace "END1"
      first | exact ⟨rfl, s, i, lb, A, cp, hi, HM.out, _, _, _, _, _, _, _, _, _, _, _, _, _, _, _, _, _, _, _, _, _, _, _, _, _, _, rfl⟩ | exact ⟨rfl, s, i, hi, ⟨lb, A, cp, HM.out⟩, _, _, _, _, _, _, _, _, _, _, _, _, _, _, _, _, _, _, _, _, _, _, _, _, _, _, rfl⟩
end szc
end Go.Proofs.Ytgjlibecgkhocaa

set_option linter.unusedVariables false
set_option linter.unusedSimpArgs false
namespace Go.Proofs.Ytgjlibecgkhocaa
open Go.RowKit Cfp
namespace szc
noncomputable def rg11 : Code := ((Try.f7.body.bind (findReg 11)).getD .skip)
/-- a configuration whose classes are read in this world -/
def Good (w : World) (d : Cfg) (n0 : Nat) (x : Itm) : Prop :=
  x.n = n0 ∧ x.c.promote = d.promote ∧ x.c.seed = d.seed ∧ Wide x.l ∧ Rd w w.heap.size x.C 2 x.n (prs x.l)
theorem Good.kept {w w' : World} {d : Cfg} {n0 : Nat} {x : Itm} (h : Good w d n0 x) (k : Keeps (fun _ => False) w w') : Good w' d n0 x :=
  ⟨h.1, h.2.1, h.2.2.1, h.2.2.2.1, (h.2.2.2.2.kept k (fun _ _ h => h)).more k.size⟩
def Four4 (w1 : World) (x1 x2 : Itm) (d1 d2 : Cfg) (n1 n2 : Nat) (G : Nat) (w' : World) : Prop :=
  ∃ x3 x4, Good w' d1 n1 x3 ∧ Good w' d2 n2 x4 ∧ Blk w' G 28 ([x1, x2, x3, x4].flatMap Itm.cells).toArray ∧ Keeps (fun _ => False) w1 w'
set_option maxRecDepth 1000000 in
set_option maxHeartbeats 4000000 in
theorem reg11 (c : Cfg) (l : List (Int × Int)) (C T : Option Addr) (n k q j X1 : Nat) (c' : Cfg) (l' : List (Int × Int)) (C' T' : Option Addr) (n' k' q' j' X2 : Nat) (w1 : World) (at_ nn : Int)
    (HS1 : Hid (∀ W, Keeps (fun _ => False) w1 W → Calls Try.prog 24 #[Value.agg #[.int .i64 c.length, .int .i64 c.lateness, .int .i64 c.windows, .int .i64 c.shards, .int .i64 c.spread, .int .i64 c.queue, .int .i64 c.mode, .int .i64 c.slots, .int .i64 c.exact_, .int .u64 c.promote, .int .i64 c.depth, .int .i64 c.width, .int .i64 c.top, .int .i64 c.key, .slice C n k, .slice T q j, .int .u64 c.seed], .int .i64 at_, .int .i64 nn] W (Spoilts W n c)))
    (HS2 : Hid (∀ W, Keeps (fun _ => False) w1 W → Calls Try.prog 24 #[Value.agg #[.int .i64 c'.length, .int .i64 c'.lateness, .int .i64 c'.windows, .int .i64 c'.shards, .int .i64 c'.spread, .int .i64 c'.queue, .int .i64 c'.mode, .int .i64 c'.slots, .int .i64 c'.exact_, .int .u64 c'.promote, .int .i64 c'.depth, .int .i64 c'.width, .int .i64 c'.top, .int .i64 c'.key, .slice C' n' k', .slice T' q' j', .int .u64 c'.seed], .int .i64 at_, .int .i64 (bits .and .i64 nn 63)] W (Spoilts W n' c')))
    (hX1 : Blk w1 X1 28 #[.int .i64 c.length, .int .i64 c.lateness, .int .i64 c.windows, .int .i64 c.shards, .int .i64 c.spread, .int .i64 c.queue, .int .i64 c.mode, .int .i64 c.slots, .int .i64 c.exact_, .int .u64 c.promote, .int .i64 c.depth, .int .i64 c.width, .int .i64 c.top, .int .i64 c.key, .slice C n k, .slice T q j, .int .u64 c.seed]) (hX2 : Blk w1 X2 28 #[.int .i64 c'.length, .int .i64 c'.lateness, .int .i64 c'.windows, .int .i64 c'.shards, .int .i64 c'.spread, .int .i64 c'.queue, .int .i64 c'.mode, .int .i64 c'.slots, .int .i64 c'.exact_, .int .u64 c'.promote, .int .i64 c'.depth, .int .i64 c'.width, .int .i64 c'.top, .int .i64 c'.key, .slice C' n' k', .slice T' q' j', .int .u64 c'.seed]) (s0 s3 s4 s5 s6 s7 s8 s11 s12 s13 s14 s15 s16 s17 s18 s19 s20 s21 s22 s23 s24 s25 s26 s27 s28 s29 s30 s31 s32 s33 s34 s35 s36 s37 s38 s39 s40 s41 s42 s43 s44 s45 s46 s47 s48 s49 s50 s51 s52 s53 s54 s55 s56 s57 s58 s59 s60 s61 s62 s63 s64 s65 s66 s67 s68 s69 s70 s71 s72 s73 s74 s75 s76 s77 s78 s79 s80 s81 s82 s83 s84 s85 s86 s87 s88 s89 s90 s91 s92 s93 s94 s95 s96 s97 s98 s99 s100 s101 : Value) :
    Code.wp Try.prog rg11 (NormPost fun a' w' => ∃ G, Four4 w1 ⟨c, l, C, n, k, T, q, j⟩ ⟨c', l', C', n', k', T', q', j'⟩ c c' n n' G w' ∧ (∃ u57 u58 u59 u60 u61 u62 u63 u64 u65 u66 u67 : Value, a' = ⟨#[s0, .int .i64 at_, .int .i64 nn, s3, s4, s5, s6, s7, s8, .pointer (some ⟨X1, 0, none⟩), .pointer (some ⟨X2, 0, none⟩), s11, s12, s13, s14, s15, s16, s17, s18, s19, s20, s21, s22, s23, s24, s25, s26, s27, s28, s29, s30, s31, s32, s33, s34, s35, s36, s37, s38, s39, s40, s41, s42, s43, s44, s45, s46, s47, s48, s49, s50, s51, s52, s53, s54, s55, s56, u57, u58, u59, u60, u61, u62, u63, u64, u65, u66, u67, .slice (some ⟨G, 0, none⟩) 4 4, .int .i64 ((4 : Nat) : Int), .int .i64 0, s71, s72, s73, s74, s75, s76, s77, s78, s79, s80, s81, s82, s83, s84, s85, s86, s87, s88, s89, s90, s91, s92, s93, s94, s95, s96, s97, s98, s99, s100, s101], []⟩)) ⟨#[s0, .int .i64 at_, .int .i64 nn, s3, s4, s5, s6, s7, s8, .pointer (some ⟨X1, 0, none⟩), .pointer (some ⟨X2, 0, none⟩), s11, s12, s13, s14, s15, s16, s17, s18, s19, s20, s21, s22, s23, s24, s25, s26, s27, s28, s29, s30, s31, s32, s33, s34, s35, s36, s37, s38, s39, s40, s41, s42, s43, s44, s45, s46, s47, s48, s49, s50, s51, s52, s53, s54, s55, s56, s57, s58, s59, s60, s61, s62, s63, s64, s65, s66, s67, s68, s69, s70, s71, s72, s73, s74, s75, s76, s77, s78, s79, s80, s81, s82, s83, s84, s85, s86, s87, s88, s89, s90, s91, s92, s93, s94, s95, s96, s97, s98, s99, s100, s101], []⟩ w1 := by
  have B1 := hide hX1
  have B2 := hide hX2
  have k0 : Keeps (fun _ => False) w1 w1 := Keeps.refl _ _
  clear hX1 hX2
  conv => arg 2; whnf
  dsimp only
  refine wp_region_held_drew (S := fun w' => Blk w' X1 28 #[.int .i64 c.length, .int .i64 c.lateness, .int .i64 c.windows, .int .i64 c.shards, .int .i64 c.spread, .int .i64 c.queue, .int .i64 c.mode, .int .i64 c.slots, .int .i64 c.exact_, .int .u64 c.promote, .int .i64 c.depth, .int .i64 c.width, .int .i64 c.top, .int .i64 c.key, .slice C n k, .slice T q j, .int .u64 c.seed] ∧ Blk w' X2 28 #[.int .i64 c'.length, .int .i64 c'.lateness, .int .i64 c'.windows, .int .i64 c'.shards, .int .i64 c'.spread, .int .i64 c'.queue, .int .i64 c'.mode, .int .i64 c'.slots, .int .i64 c'.exact_, .int .u64 c'.promote, .int .i64 c'.depth, .int .i64 c'.width, .int .i64 c'.top, .int .i64 c'.key, .slice C' n' k', .slice T' q' j', .int .u64 c'.seed]) (by kernel_rfl) ⟨B1.out.drew, B2.out.drew⟩ (fun hHeld => ?_)
  refine wpAnyH_take (i := 0) (v := _) rfl (by kernel_rfl) (by kernel_rfl) (by kernel_rfl) (fun _ _ _ h => h) (cfg_yields (c := c) (C := C) (T := T) (n := n) (k := k) (q := q) (j := j) (g := X1) (.tmp 9) rfl (fun _ h => h.1) (by simp [Act.eval, Act.put]) (by kernel_rfl)) (by assumption) ?_
  (try simp only [Act.put, List.setIfInBounds_toArray, List.set_cons_zero, List.set_cons_succ])
  refine wpAnyH_take (i := 1) (v := _) rfl (by kernel_rfl) (by kernel_rfl) (by kernel_rfl) (fun _ _ _ h => h) (cfg_yields (c := c') (C := C') (T := T') (n := n') (k := k') (q := q') (j := j') (g := X2) (.tmp 10) rfl (fun _ h => h.2) (by simp [Act.eval, Act.put]) (by kernel_rfl)) (by assumption) ?_
  (try simp only [Act.put, List.setIfInBounds_toArray, List.set_cons_zero, List.set_cons_succ])
  refine wpAnyH_take (i := 2) (v := _) rfl (by kernel_rfl) (by kernel_rfl) (by kernel_rfl) (fun _ _ _ h => h) (cfg_yields (c := c) (C := C) (T := T) (n := n) (k := k) (q := q) (j := j) (g := X1) (.tmp 9) rfl (fun _ h => h.1) (by simp [Act.eval, Act.put]) (by kernel_rfl)) (by assumption) ?_
  (try simp only [Act.put, List.setIfInBounds_toArray, List.set_cons_zero, List.set_cons_succ])
  refine wpAnyH_take (i := 3) (v := ?_) rfl (by kernel_rfl) (by kernel_rfl) (by kernel_rfl) (fun _ _ _ h => h) (Or.inl ⟨by kernel_rfl, ?_⟩) (by assumption) ?_; rotate_left; focus (intro w hSw; (try dsimp only at hSw); go_simp; try (with_reducible rfl)); (try simp only [Act.put, List.setIfInBounds_toArray, List.set_cons_zero, List.set_cons_succ])
  refine wpAnyH_take (i := 4) (v := ?_) rfl (by kernel_rfl) (by kernel_rfl) (by kernel_rfl) (fun _ _ _ h => h) (Or.inl ⟨by kernel_rfl, ?_⟩) (by assumption) ?_; rotate_left; focus (intro w hSw; (try dsimp only at hSw); go_simp; try (with_reducible rfl)); (try simp only [Act.put, List.setIfInBounds_toArray, List.set_cons_zero, List.set_cons_succ])
  refine wpAnyH_take (i := 6) (v := _) rfl (by kernel_rfl) (by kernel_rfl) (by kernel_rfl) (fun _ _ _ h => h) (cfg_yields (c := c') (C := C') (T := T') (n := n') (k := k') (q := q') (j := j') (g := X2) (.tmp 10) rfl (fun _ h => h.2) (by simp [Act.eval, Act.put]) (by kernel_rfl)) (by assumption) ?_
  (try simp only [Act.put, List.setIfInBounds_toArray, List.set_cons_zero, List.set_cons_succ])
  refine wpAnyH_take (i := 7) (v := ?_) rfl (by kernel_rfl) (by kernel_rfl) (by kernel_rfl) (fun _ _ _ h => h) (Or.inl ⟨by kernel_rfl, ?_⟩) (by assumption) ?_; rotate_left; focus (intro w hSw; (try dsimp only at hSw); go_simp; try (with_reducible rfl)); (try simp only [Act.put, List.setIfInBounds_toArray, List.set_cons_zero, List.set_cons_succ])
  refine wpAnyH_take (i := 8) (v := ?_) rfl (by kernel_rfl) (by kernel_rfl) (by kernel_rfl) (fun _ _ _ h => h) (Or.inl ⟨by kernel_rfl, ?_⟩) (by assumption) ?_; rotate_left; focus (intro w hSw; (try dsimp only at hSw); go_simp; try (with_reducible rfl)); (try simp only [Act.put, List.setIfInBounds_toArray, List.set_cons_zero, List.set_cons_succ])
  refine wpAnyH_take (i := 9) (v := ?_) rfl (by kernel_rfl) (by kernel_rfl) (by kernel_rfl) (fun _ _ _ h => h) (Or.inl ⟨by kernel_rfl, ?_⟩) (by assumption) ?_; rotate_left; focus (intro w hSw; (try dsimp only at hSw); go_simp; try (with_reducible rfl)); (try simp only [Act.put, List.setIfInBounds_toArray, List.set_cons_zero, List.set_cons_succ])
  refine wpAnyH_take (i := 13) (v := ?_) rfl (by kernel_rfl) (by kernel_rfl) (by kernel_rfl) (fun _ _ _ h => h) (Or.inl ⟨by kernel_rfl, ?_⟩) (by assumption) ?_; rotate_left; focus (intro w hSw; (try dsimp only at hSw); go_simp; try (with_reducible rfl)); (try simp only [Act.put, List.setIfInBounds_toArray, List.set_cons_zero, List.set_cons_succ])
  trace "TAKEN"
  refine wpAnyH_ready (rs := [5]) (by kernel_rfl) (by simp) ?_
  refine AllReadyH.cons rfl (fun K hK => ?_) AllReadyH.nil
  go_simp
  go_at_call 24
  refine (HS1.out _ k0.drew).mono ?_
  rintro e W1 ⟨cx, lx, Cx, kx, Tx, qx, jx, rfl, px, sx, wx, ox, hqx, kk⟩
  have k1 : Keeps (fun _ => False) w1 W1 := (k0.drew).trans kk
  have G3 : Hid (Good W1 c n ⟨cx, lx, Cx, n, kx, Tx, qx, jx⟩) := hide ⟨rfl, px, sx, wx, ox.rd (by omega)⟩
  clear px sx wx ox hqx
  try go_wp2_with fail
  refine hK.out _ _ ⟨B1.out.kept k1 (fun h => h), B2.out.kept k1 (fun h => h)⟩ (fun hHeld => ?_)
  clear hK K kk
  (try simp only [Act.put, List.setIfInBounds_toArray, List.set_cons_zero, List.set_cons_succ])
  trace "CALL1"
  refine wpAnyH_ready (rs := [10]) (by kernel_rfl) (by simp) ?_
  refine AllReadyH.cons rfl (fun K hK => ?_) AllReadyH.nil
  go_simp
  go_at_call 24
  refine (HS2.out _ k1).mono ?_
  rintro e W2 ⟨cy, ly, Cy, ky, Ty, qy, jy, rfl, py, sy, wy, oy, hqy, kk⟩
  have k2 : Keeps (fun _ => False) w1 W2 := k1.trans kk
  have G3 := hide (G3.out.kept kk)
  have G4 : Hid (Good W2 c' n' ⟨cy, ly, Cy, n', ky, Ty, qy, jy⟩) := hide ⟨rfl, py, sy, wy, oy.rd (by omega)⟩
  clear py sy wy oy hqy
  try go_wp2_with fail
  refine hK.out _ _ ⟨B1.out.kept k2 (fun h => h), B2.out.kept k2 (fun h => h)⟩ (fun hHeld => ?_)
  clear hK K kk
  (try simp only [Act.put, List.setIfInBounds_toArray, List.set_cons_zero, List.set_cons_succ])
  trace "CALL2"
  refine wpAnyH_ready (rs := [11]) (by kernel_rfl) (by simp) ?_
  refine AllReadyH.cons rfl (fun K hK => ?_) AllReadyH.nil
  go_simp
  have kA : Keeps (fun _ => False) W2 (W2.alloc (.cells #[.int .i64 c.length, .int .i64 c.lateness, .int .i64 c.windows, .int .i64 c.shards, .int .i64 c.spread, .int .i64 c.queue, .int .i64 c.mode, .int .i64 c.slots, .int .i64 c.exact_, .int .u64 c.promote, .int .i64 c.depth, .int .i64 c.width, .int .i64 c.top, .int .i64 c.key, .slice C n k, .slice T q j, .int .u64 c.seed, .int .i64 c'.length, .int .i64 c'.lateness, .int .i64 c'.windows, .int .i64 c'.shards, .int .i64 c'.spread, .int .i64 c'.queue, .int .i64 c'.mode, .int .i64 c'.slots, .int .i64 c'.exact_, .int .u64 c'.promote, .int .i64 c'.depth, .int .i64 c'.width, .int .i64 c'.top, .int .i64 c'.key, .slice C' n' k', .slice T' q' j', .int .u64 c'.seed, .int .i64 cx.length, .int .i64 cx.lateness, .int .i64 cx.windows, .int .i64 cx.shards, .int .i64 cx.spread, .int .i64 cx.queue, .int .i64 cx.mode, .int .i64 cx.slots, .int .i64 cx.exact_, .int .u64 cx.promote, .int .i64 cx.depth, .int .i64 cx.width, .int .i64 cx.top, .int .i64 cx.key, .slice Cx n kx, .slice Tx qx jx, .int .u64 cx.seed, .int .i64 cy.length, .int .i64 cy.lateness, .int .i64 cy.windows, .int .i64 cy.shards, .int .i64 cy.spread, .int .i64 cy.queue, .int .i64 cy.mode, .int .i64 cy.slots, .int .i64 cy.exact_, .int .u64 cy.promote, .int .i64 cy.depth, .int .i64 cy.width, .int .i64 cy.top, .int .i64 cy.key, .slice Cy n' ky, .slice Ty qy jy, .int .u64 cy.seed] 28)) := (Keeps.refl _ _).alloc _
  have BG : Hid (Blk (W2.alloc (.cells #[.int .i64 c.length, .int .i64 c.lateness, .int .i64 c.windows, .int .i64 c.shards, .int .i64 c.spread, .int .i64 c.queue, .int .i64 c.mode, .int .i64 c.slots, .int .i64 c.exact_, .int .u64 c.promote, .int .i64 c.depth, .int .i64 c.width, .int .i64 c.top, .int .i64 c.key, .slice C n k, .slice T q j, .int .u64 c.seed, .int .i64 c'.length, .int .i64 c'.lateness, .int .i64 c'.windows, .int .i64 c'.shards, .int .i64 c'.spread, .int .i64 c'.queue, .int .i64 c'.mode, .int .i64 c'.slots, .int .i64 c'.exact_, .int .u64 c'.promote, .int .i64 c'.depth, .int .i64 c'.width, .int .i64 c'.top, .int .i64 c'.key, .slice C' n' k', .slice T' q' j', .int .u64 c'.seed, .int .i64 cx.length, .int .i64 cx.lateness, .int .i64 cx.windows, .int .i64 cx.shards, .int .i64 cx.spread, .int .i64 cx.queue, .int .i64 cx.mode, .int .i64 cx.slots, .int .i64 cx.exact_, .int .u64 cx.promote, .int .i64 cx.depth, .int .i64 cx.width, .int .i64 cx.top, .int .i64 cx.key, .slice Cx n kx, .slice Tx qx jx, .int .u64 cx.seed, .int .i64 cy.length, .int .i64 cy.lateness, .int .i64 cy.windows, .int .i64 cy.shards, .int .i64 cy.spread, .int .i64 cy.queue, .int .i64 cy.mode, .int .i64 cy.slots, .int .i64 cy.exact_, .int .u64 cy.promote, .int .i64 cy.depth, .int .i64 cy.width, .int .i64 cy.top, .int .i64 cy.key, .slice Cy n' ky, .slice Ty qy jy, .int .u64 cy.seed] 28)) W2.heap.size 28 #[.int .i64 c.length, .int .i64 c.lateness, .int .i64 c.windows, .int .i64 c.shards, .int .i64 c.spread, .int .i64 c.queue, .int .i64 c.mode, .int .i64 c.slots, .int .i64 c.exact_, .int .u64 c.promote, .int .i64 c.depth, .int .i64 c.width, .int .i64 c.top, .int .i64 c.key, .slice C n k, .slice T q j, .int .u64 c.seed, .int .i64 c'.length, .int .i64 c'.lateness, .int .i64 c'.windows, .int .i64 c'.shards, .int .i64 c'.spread, .int .i64 c'.queue, .int .i64 c'.mode, .int .i64 c'.slots, .int .i64 c'.exact_, .int .u64 c'.promote, .int .i64 c'.depth, .int .i64 c'.width, .int .i64 c'.top, .int .i64 c'.key, .slice C' n' k', .slice T' q' j', .int .u64 c'.seed, .int .i64 cx.length, .int .i64 cx.lateness, .int .i64 cx.windows, .int .i64 cx.shards, .int .i64 cx.spread, .int .i64 cx.queue, .int .i64 cx.mode, .int .i64 cx.slots, .int .i64 cx.exact_, .int .u64 cx.promote, .int .i64 cx.depth, .int .i64 cx.width, .int .i64 cx.top, .int .i64 cx.key, .slice Cx n kx, .slice Tx qx jx, .int .u64 cx.seed, .int .i64 cy.length, .int .i64 cy.lateness, .int .i64 cy.windows, .int .i64 cy.shards, .int .i64 cy.spread, .int .i64 cy.queue, .int .i64 cy.mode, .int .i64 cy.slots, .int .i64 cy.exact_, .int .u64 cy.promote, .int .i64 cy.depth, .int .i64 cy.width, .int .i64 cy.top, .int .i64 cy.key, .slice Cy n' ky, .slice Ty qy jy, .int .u64 cy.seed]) := hide (Blk.new _ _ _)
  have k3 := k2.trans kA
  have G3 := hide (G3.out.kept kA)
  have G4 := hide (G4.out.kept kA)
  clear kA
  generalize W2.alloc _ = W3 at *
  generalize W2.heap.size = G at *
  try go_wp2_with fail
  refine hK.out _ _ ⟨B1.out.kept k3 (fun h => h), B2.out.kept k3 (fun h => h)⟩ (fun hHeld => ?_)
  clear hK K
  (try simp only [Act.put, List.setIfInBounds_toArray, List.set_cons_zero, List.set_cons_succ])
  trace "BUILT"
  refine wpAnyH_take (i := 12) (v := ?_) rfl (by kernel_rfl) (by kernel_rfl) (by kernel_rfl) (fun _ _ _ h => h) (Or.inl ⟨by kernel_rfl, ?_⟩) (by assumption) ?_; rotate_left; focus (intro w hSw; (try dsimp only at hSw); go_simp; try (with_reducible rfl)); (try simp only [Act.put, List.setIfInBounds_toArray, List.set_cons_zero, List.set_cons_succ])
  refine wpAnyH_done (by kernel_rfl) ?_ _
  refine ⟨G, ⟨_, _, G3.out, G4.out, BG.out, k3⟩, ⟨_, _, _, _, _, _, _, _, _, _, _, rfl⟩⟩
end szc
end Go.Proofs.Ytgjlibecgkhocaa
