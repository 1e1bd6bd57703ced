/-
  SizingCheck: the four calls of a round. No conditions beyond those of the statement. SizingCheck: the loop over the configurations. No conditions beyond those of the statement.
-/
import Derived.Test.YtgjlibecgkhocaaLd
import Derived.Test.YtgjlibecgkhocaaMem2
import Derived.Test.YtgjlibecgkhocaaLe
import Derived.Deep.CutBlock
set_option linter.unusedVariables false
set_option linter.unusedSimpArgs false
namespace Go.Proofs.Ytgjlibecgkhocaa
open Go.RowKit Cfp
namespace szc
def findReg (q : Nat) : Code → Option Code
  | .region id ops b => if id = q then some (.region id ops b) else none
  | .loop c => findReg q c
  | .seq a b => match findReg q a with
    | some c => some c
    | none => findReg q b
  | .block _ c => findReg q c
  | .scope c => findReg q c
  | .cond _ a b => match findReg q a with
    | some c => some c
    | none => findReg q b
  | _ => none
def NormPost (W : Act → World → Prop) : Exit → Act → World → Prop
  | .normal, a, w => W a w
  | _, _, _ => False
/-- what sizing says of a configuration (as a value v) in every world that has kept w1: the program and the reference alike -/
def Four (w1 : World) (v : Value) (ce ve : Int) : Prop :=
  (∀ W, Keeps (fun _ => False) w1 W → Calls Try.prog 25 #[v] W fun e w' => e = .returned (.int .i64 ce) ∧ Keeps (fun _ => False) W w') ∧
  (∀ W, Keeps (fun _ => False) w1 W → Calls Try.prog 26 #[v] W fun e w' => e = .returned (.int .i64 ce) ∧ Keeps (fun _ => False) W w') ∧
  (∀ W, Keeps (fun _ => False) w1 W → Calls Try.prog 27 #[v] W fun e w' => e = .returned (.int .i64 ve) ∧ Keeps (fun _ => False) W w') ∧
  (∀ W, Keeps (fun _ => False) w1 W → Calls Try.prog 28 #[v] W fun e w' => e = .returned (.int .i64 ve) ∧ Keeps (fun _ => False) W w')
theorem Four.mono {w1 w2 : World} {v : Value} {ce ve : Int} (h : Four w1 v ce ve) (kk : Keeps (fun _ => False) w1 w2) : Four w2 v ce ve :=
  ⟨fun W k => h.1 W (kk.trans k), fun W k => h.2.1 W (kk.trans k), fun W k => h.2.2.1 W (kk.trans k), fun W k => h.2.2.2 W (kk.trans k)⟩
noncomputable def rg10 : Code := ((Try.f6.body.bind (findReg 10)).getD .skip)
set_option maxRecDepth 1000000 in
set_option maxHeartbeats 4000000 in
theorem reg10 (c : Cfg) (C T : Option Addr) (n k q j X : Nat) (w1 : World) (ce ve : Int)
    (hF : Four w1 (Value.agg #[.int .i64 c.length, .int .i64 c.lateness, .int .i64 c.windows, .int .i64 c.shards, .int .i64 c.spread, .int .i64 c.queue, .int .i64 c.mode, .int .i64 c.slots, .int .i64 c.exact_, .int .u64 c.promote, .int .i64 c.depth, .int .i64 c.width, .int .i64 c.top, .int .i64 c.key, .slice C n k, .slice T q j, .int .u64 c.seed]) ce ve) (hX : Blk w1 X 28 #[.int .i64 c.length, .int .i64 c.lateness, .int .i64 c.windows, .int .i64 c.shards, .int .i64 c.spread, .int .i64 c.queue, .int .i64 c.mode, .int .i64 c.slots, .int .i64 c.exact_, .int .u64 c.promote, .int .i64 c.depth, .int .i64 c.width, .int .i64 c.top, .int .i64 c.key, .slice C n k, .slice T q j, .int .u64 c.seed]) (s0 s1 s2 s3 s4 s5 s6 s7 s8 s9 s10 s11 s12 s13 s14 s15 s16 s17 s19 s20 s21 s22 s23 s24 s25 s26 s27 s28 s29 s30 s31 s32 s33 s34 s35 s36 s37 s38 s39 s40 s41 s42 s43 s44 s45 s46 s47 s48 s49 s50 s51 s52 s53 s54 s55 s56 s57 s58 s59 s60 s61 s62 s63 s64 s65 s66 s67 s68 s69 s70 s71 s72 s73 s74 s75 : Value) :
    Code.wp Try.prog rg10 (NormPost fun a' w' => (∃ u57 u58 u59 u60 u61 u62 u63 u64 u65 u66 u67 : Value, a' = ⟨#[s0, s1, s2, s3, s4, s5, s6, s7, s8, s9, s10, s11, s12, s13, s14, s15, s16, s17, .pointer (some ⟨X, 0, none⟩), s19, s20, s21, s22, s23, s24, s25, s26, s27, s28, s29, s30, s31, s32, s33, s34, s35, s36, s37, s38, s39, s40, s41, s42, s43, s44, s45, s46, s47, s48, s49, s50, s51, s52, s53, s54, s55, s56, u57, u58, u59, u60, u61, u62, u63, u64, u65, u66, u67, .bool false, s69, s70, s71, s72, s73, s74, s75], []⟩) ∧ Keeps (fun _ => False) w1 w') ⟨#[s0, s1, s2, s3, s4, s5, s6, s7, s8, s9, s10, s11, s12, s13, s14, s15, s16, s17, .pointer (some ⟨X, 0, none⟩), s19, s20, s21, s22, s23, s24, s25, s26, s27, s28, s29, s30, s31, s32, s33, s34, s35, s36, s37, s38, s39, s40, s41, s42, s43, s44, s45, s46, s47, s48, s49, s50, s51, s52, s53, s54, s55, s56, s57, s58, s59, s60, s61, s62, s63, s64, s65, s66, s67, s68, s69, s70, s71, s72, s73, s74, s75], []⟩ w1 := by
  have HF := hide hF
  have BX := hide hX
  have k0 : Keeps (fun _ => False) w1 w1 := Keeps.refl _ _
  have e1 : (ce != ce) = false := by simp
  have e2 : (ve != ve) = false := by simp
  clear hF hX
  conv => arg 2; whnf
  dsimp only
  refine wp_region_held_drew (S := fun w' => Blk w' X 28 #[.int .i64 c.length, .int .i64 c.lateness, .int .i64 c.windows, .int .i64 c.shards, .int .i64 c.spread, .int .i64 c.queue, .int .i64 c.mode, .int .i64 c.slots, .int .i64 c.exact_, .int .u64 c.promote, .int .i64 c.depth, .int .i64 c.width, .int .i64 c.top, .int .i64 c.key, .slice C n k, .slice T q j, .int .u64 c.seed]) (by kernel_rfl) (BX.out.drew) (fun hHeld => ?_)
  refine wpAnyH_take (i := 0) (v := _) rfl (by kernel_rfl) (by kernel_rfl) (by kernel_rfl) (fun _ _ _ h => h) (cfg_yields (c := c) (C := C) (T := T) (n := n) (k := k) (q := q) (j := j) (g := X) (.tmp 18) rfl (fun _ h => h) (by simp [Act.eval, Act.put]) (by kernel_rfl)) (by assumption) ?_
  (try simp only [Act.put, List.setIfInBounds_toArray, List.set_cons_zero, List.set_cons_succ])
  refine wpAnyH_take (i := 2) (v := _) rfl (by kernel_rfl) (by kernel_rfl) (by kernel_rfl) (fun _ _ _ h => h) (cfg_yields (c := c) (C := C) (T := T) (n := n) (k := k) (q := q) (j := j) (g := X) (.tmp 18) rfl (fun _ h => h) (by simp [Act.eval, Act.put]) (by kernel_rfl)) (by assumption) ?_
  (try simp only [Act.put, List.setIfInBounds_toArray, List.set_cons_zero, List.set_cons_succ])
  refine wpAnyH_ready (rs := [1]) (by kernel_rfl) (by simp) ?_
  refine AllReadyH.cons rfl (fun K hK => ?_) AllReadyH.nil
  go_simp
  go_at_call 25
  refine (HF.out.1 _ (k0.drew)).mono ?_
  rintro e W1 ⟨rfl, kk⟩
  have k1 : Keeps (fun _ => False) w1 W1 := ((k0.drew)).trans kk
  try go_wp2_with fail
  refine hK.out _ _ (BX.out.kept k1 (fun h => h)) (fun hHeld => ?_)
  clear hK K kk
  (try simp only [Act.put, List.setIfInBounds_toArray, List.set_cons_zero, List.set_cons_succ])
  refine wpAnyH_ready (rs := [3]) (by kernel_rfl) (by simp) ?_
  refine AllReadyH.cons rfl (fun K hK => ?_) AllReadyH.nil
  go_simp
  go_at_call 26
  refine (HF.out.2.1 _ k1).mono ?_
  rintro e W2 ⟨rfl, kk⟩
  have k2 : Keeps (fun _ => False) w1 W2 := (k1).trans kk
  try go_wp2_with fail
  refine hK.out _ _ (BX.out.kept k2 (fun h => h)) (fun hHeld => ?_)
  clear hK K kk
  (try simp only [Act.put, List.setIfInBounds_toArray, List.set_cons_zero, List.set_cons_succ])
  refine wpAnyH_take (i := 4) (v := ?_) rfl (by kernel_rfl) (by kernel_rfl) (by kernel_rfl) (fun _ _ _ h => h) (Or.inl ⟨by kernel_rfl, ?_⟩) (by assumption) ?_; rotate_left; focus (intro w hSw; (try dsimp only at hSw); go_simp; try (with_reducible rfl)); (try simp only [Act.put, List.setIfInBounds_toArray, List.set_cons_zero, List.set_cons_succ])
  refine wpAnyH_take (i := 5) (v := ?_) rfl (by kernel_rfl) (by kernel_rfl) (by kernel_rfl) (fun _ _ _ h => h) (Or.inl ⟨by kernel_rfl, ?_⟩) (by assumption) ?_; rotate_left; focus (intro w hSw; (try dsimp only at hSw); go_simp; try (with_reducible rfl)); (try simp only [Act.put, List.setIfInBounds_toArray, List.set_cons_zero, List.set_cons_succ])
  trace "HALF"
  refine wpAnyH_take (i := 6) (v := _) rfl (by kernel_rfl) (by kernel_rfl) (by kernel_rfl) (fun _ _ _ h => h) (cfg_yields (c := c) (C := C) (T := T) (n := n) (k := k) (q := q) (j := j) (g := X) (.tmp 18) rfl (fun _ h => h) (by simp [Act.eval, Act.put]) (by kernel_rfl)) (by assumption) ?_
  (try simp only [Act.put, List.setIfInBounds_toArray, List.set_cons_zero, List.set_cons_succ])
  refine wpAnyH_take (i := 8) (v := _) rfl (by kernel_rfl) (by kernel_rfl) (by kernel_rfl) (fun _ _ _ h => h) (cfg_yields (c := c) (C := C) (T := T) (n := n) (k := k) (q := q) (j := j) (g := X) (.tmp 18) rfl (fun _ h => h) (by simp [Act.eval, Act.put]) (by kernel_rfl)) (by assumption) ?_
  (try simp only [Act.put, List.setIfInBounds_toArray, List.set_cons_zero, List.set_cons_succ])
  refine wpAnyH_ready (rs := [7]) (by kernel_rfl) (by simp) ?_
  refine AllReadyH.cons rfl (fun K hK => ?_) AllReadyH.nil
  go_simp
  go_at_call 27
  refine (HF.out.2.2.1 _ k2).mono ?_
  rintro e W3 ⟨rfl, kk⟩
  have k3 : Keeps (fun _ => False) w1 W3 := (k2).trans kk
  try go_wp2_with fail
  refine hK.out _ _ (BX.out.kept k3 (fun h => h)) (fun hHeld => ?_)
  clear hK K kk
  (try simp only [Act.put, List.setIfInBounds_toArray, List.set_cons_zero, List.set_cons_succ])
  refine wpAnyH_ready (rs := [9]) (by kernel_rfl) (by simp) ?_
  refine AllReadyH.cons rfl (fun K hK => ?_) AllReadyH.nil
  go_simp
  go_at_call 28
  refine (HF.out.2.2.2 _ k3).mono ?_
  rintro e W4 ⟨rfl, kk⟩
  have k4 : Keeps (fun _ => False) w1 W4 := (k3).trans kk
  try go_wp2_with fail
  refine hK.out _ _ (BX.out.kept k4 (fun h => h)) (fun hHeld => ?_)
  clear hK K kk
  (try simp only [Act.put, List.setIfInBounds_toArray, List.set_cons_zero, List.set_cons_succ])
  refine wpAnyH_take (i := 10) (v := ?_) rfl (by kernel_rfl) (by kernel_rfl) (by kernel_rfl) (fun _ _ _ h => h) (Or.inl ⟨by kernel_rfl, ?_⟩) (by assumption) ?_; rotate_left; focus (intro w hSw; (try dsimp only at hSw); go_simp; try (with_reducible rfl)); (try simp only [Act.put, List.setIfInBounds_toArray, List.set_cons_zero, List.set_cons_succ])
  refine wpAnyH_take (i := 11) (v := ?_) rfl (by kernel_rfl) (by kernel_rfl) (by kernel_rfl) (fun _ _ _ h => h) (Or.inl ⟨by kernel_rfl, ?_⟩) (by assumption) ?_; rotate_left; focus (intro w hSw; (try dsimp only at hSw); go_simp; try (with_reducible rfl)); (try simp only [Act.put, List.setIfInBounds_toArray, List.set_cons_zero, List.set_cons_succ])
  refine wpAnyH_done (by kernel_rfl) ?_ _
  refine ⟨⟨_, _, _, _, _, _, _, _, _, _, _, rfl⟩, k4⟩
end szc
end Go.Proofs.Ytgjlibecgkhocaa

set_option linter.unusedVariables false
set_option linter.unusedSimpArgs false
namespace Go.Proofs.Ytgjlibecgkhocaa
open Go.RowKit Cfp
namespace szc
/-- one of the configurations that are compared -/
structure Itm where
  c : Cfg
  l : List (Int × Int)
  C : Option Addr
  n : Nat
  k : Nat
  T : Option Addr
  q : Nat
  j : Nat
def Itm.cells (x : Itm) : List Value := (#[.int .i64 x.c.length, .int .i64 x.c.lateness, .int .i64 x.c.windows, .int .i64 x.c.shards, .int .i64 x.c.spread, .int .i64 x.c.queue, .int .i64 x.c.mode, .int .i64 x.c.slots, .int .i64 x.c.exact_, .int .u64 x.c.promote, .int .i64 x.c.depth, .int .i64 x.c.width, .int .i64 x.c.top, .int .i64 x.c.key, .slice x.C x.n x.k, .slice x.T x.q x.j, .int .u64 x.c.seed] : Array Value).toList
theorem cells_get : ∀ (xs : List Itm) (i : Nat) (x : Itm), xs[i]? = some x → ∀ (t : Nat) (v : Value), x.cells[t]? = some v → (xs.flatMap Itm.cells)[i * 17 + t]? = some v
  | [], i, x, h, t, v, hv => by simp at h
  | y :: xs, 0, x, h, t, v, hv => by
    obtain rfl : y = x := by simpa using h
    have h17 : t < y.cells.length := (List.getElem?_eq_some_iff.1 hv).1
    rw [List.flatMap_cons, Nat.zero_mul, Nat.zero_add, List.getElem?_append_left h17]
    exact hv
  | y :: xs, i + 1, x, h, t, v, hv => by
    have hl : y.cells.length = 17 := rfl
    rw [List.flatMap_cons, List.getElem?_append_right (by rw [hl]; omega), hl, show (i + 1) * 17 + t - 17 = i * 17 + t from by omega]
    exact cells_get xs i x (by simpa using h) t v hv
/-- a configuration loaded out of the middle of a block -/
theorem cfg_ld_off {ops : Array Oper} {rest : List Oper} {o : Oper} {a : Act} {w : World} {Q : Exit → Act → World → Prop} {c : Cfg} {C T : Option Addr} {n k q j g off : Nat} (x : Operand) (ho : o.op = .load 28 x)
    (hc : ∀ i v, (#[.int .i64 c.length, .int .i64 c.lateness, .int .i64 c.windows, .int .i64 c.shards, .int .i64 c.spread, .int .i64 c.queue, .int .i64 c.mode, .int .i64 c.slots, .int .i64 c.exact_, .int .u64 c.promote, .int .i64 c.depth, .int .i64 c.width, .int .i64 c.top, .int .i64 c.key, .slice C n k, .slice T q j, .int .u64 c.seed] : Array Value).toList[i]? = some v → w.cell? ⟨g, off + i, none⟩ = some v) (hx : a.eval x = .pointer (some ⟨g, off, none⟩)) (hw : Region.wanted o (yielded ops a.tmps) = true)
    (h : wpList Try.prog ops Q rest (a.put o.dst (Value.agg #[.int .i64 c.length, .int .i64 c.lateness, .int .i64 c.windows, .int .i64 c.shards, .int .i64 c.spread, .int .i64 c.queue, .int .i64 c.mode, .int .i64 c.slots, .int .i64 c.exact_, .int .u64 c.promote, .int .i64 c.depth, .int .i64 c.width, .int .i64 c.top, .int .i64 c.key, .slice C n k, .slice T q j, .int .u64 c.seed])) w) : wpList Try.prog ops Q (o :: rest) a w := by
  show if Region.wanted o (yielded ops a.tmps) then _ else _
  rw [if_pos hw]
  refine .inl ?_
  have hl := run_loadCells_list (P := Try.prog) w ⟨g, off, none⟩ (#[.int .i64 c.length, .int .i64 c.lateness, .int .i64 c.windows, .int .i64 c.shards, .int .i64 c.spread, .int .i64 c.queue, .int .i64 c.mode, .int .i64 c.slots, .int .i64 c.exact_, .int .u64 c.promote, .int .i64 c.depth, .int .i64 c.width, .int .i64 c.top, .int .i64 c.key, .slice C n k, .slice T q j, .int .u64 c.seed] : Array Value).toList (fun i v hv => by rw [Addr.add_lit]; exact hc i v hv)
  have hi : (Try.prog.info? 28).map (·.size) = some 17 := by kernel_rfl
  have hagg : (isAgg 28).run Try.prog w = .ok true w := by
    unfold isAgg
    rw [Sem.run_bind, run_underlying Try.underlying28 w]
    rfl
  have hr : (loadVar 28 ⟨g, off, none⟩).run Try.prog w = .ok (Value.agg #[.int .i64 c.length, .int .i64 c.lateness, .int .i64 c.windows, .int .i64 c.shards, .int .i64 c.spread, .int .i64 c.queue, .int .i64 c.mode, .int .i64 c.slots, .int .i64 c.exact_, .int .u64 c.promote, .int .i64 c.depth, .int .i64 c.width, .int .i64 c.top, .int .i64 c.key, .slice C n k, .slice T q j, .int .u64 c.seed]) w := by
    cases hq : Try.prog.info? 28 with
    | none => rw [hq] at hi; simp at hi
    | some i =>
      have hs : i.size = 17 := by rw [hq] at hi; simpa using hi
      simp only [Array.length_toList, Array.toArray_toList, List.size_toArray, List.length_cons, List.length_nil] at hl
      simp [loadVar, Sem.run_bind, hagg, sizeOf, typeInfo, hq, hs]
      first | (rw [hl]; rfl) | simp [hl]
  unfold Oper.wp execOp
  simp only [ho, hx, Instr.loadAt, Instr.sureAddr, Sem.run_bind, Sem.run_pure, Result.andThen_ok, hr]
  exact h
def firstLoop : Code → Option Code
  | .loop c => some c
  | .seq a b => match firstLoop a with
    | some c => some c
    | none => firstLoop b
  | .block _ c => firstLoop c
  | .scope c => firstLoop c
  | .cond _ a b => match firstLoop a with
    | some c => some c
    | none => firstLoop b
  | _ => none
def LoopPost (W : Act → World → Prop) : Exit → Act → World → Prop
  | .exit k, a, w => k = 0 ∧ W a w
  | _, _, _ => False
noncomputable def sloop : Code := ((Try.f6.body.bind firstLoop).getD .skip)
set_option maxRecDepth 1000000 in
set_option maxHeartbeats 4000000 in
theorem loop (xs : List Itm) (m : Nat) (hm : xs.length = m) (hm8 : m ≤ 8) (G : Nat) (w6 : World)
    (hF : ∀ x ∈ xs, ∃ ce ve, Four w6 (Value.agg #[.int .i64 x.c.length, .int .i64 x.c.lateness, .int .i64 x.c.windows, .int .i64 x.c.shards, .int .i64 x.c.spread, .int .i64 x.c.queue, .int .i64 x.c.mode, .int .i64 x.c.slots, .int .i64 x.c.exact_, .int .u64 x.c.promote, .int .i64 x.c.depth, .int .i64 x.c.width, .int .i64 x.c.top, .int .i64 x.c.key, .slice x.C x.n x.k, .slice x.T x.q x.j, .int .u64 x.c.seed]) ce ve) (hG : Blk w6 G 28 (xs.flatMap Itm.cells).toArray) (s0 s1 s2 s3 s4 s5 s6 s7 s8 s9 s10 s11 s12 s13 s14 s15 s16 s17 s18 s19 s20 s21 s22 s23 s24 s25 s26 s27 s28 s29 s30 s31 s32 s33 s34 s35 s36 s37 s38 s39 s40 s41 s42 s43 s44 s45 s46 s47 s48 s49 s50 s54 s55 s56 s57 s58 s59 s60 s61 s62 s63 s64 s65 s66 s67 s68 s69 s70 s71 s72 s73 s74 s75 : Value) :
    Code.wp Try.prog (Code.loop sloop) (LoopPost fun a' w' => (∃ u12 u18 u53 u54 u55 u56 u57 u58 u59 u60 u61 u62 u63 u64 u65 u66 u67 u68 u69 : Value, a' = ⟨#[s0, s1, s2, s3, s4, s5, s6, s7, s8, s9, s10, s11, u12, s13, s14, s15, s16, s17, u18, s19, s20, s21, s22, s23, s24, s25, s26, s27, s28, s29, s30, s31, s32, s33, s34, s35, s36, s37, s38, s39, s40, s41, s42, s43, s44, s45, s46, s47, s48, s49, s50, .slice (some ⟨G, 0, none⟩) m m, .int .i64 (m : Int), u53, u54, u55, u56, u57, u58, u59, u60, u61, u62, u63, u64, u65, u66, u67, u68, u69, s70, s71, s72, s73, s74, s75], []⟩) ∧ Keeps (fun _ => False) w6 w') ⟨#[s0, s1, s2, s3, s4, s5, s6, s7, s8, s9, s10, s11, s12, s13, s14, s15, s16, s17, s18, s19, s20, s21, s22, s23, s24, s25, s26, s27, s28, s29, s30, s31, s32, s33, s34, s35, s36, s37, s38, s39, s40, s41, s42, s43, s44, s45, s46, s47, s48, s49, s50, .slice (some ⟨G, 0, none⟩) m m, .int .i64 (m : Int), .int .i64 0, s54, s55, s56, s57, s58, s59, s60, s61, s62, s63, s64, s65, s66, s67, s68, s69, s70, s71, s72, s73, s74, s75], []⟩ w6 := by
  have HF := hide hF
  have BG := hide hG
  have HM := hide hm
  clear hF hG hm
  conv => arg 2; arg 1; whnf
  dsimp only
  go_loopw [53] (fun iv wr => ∃ i : Nat, i ≤ m ∧ iv = .int .i64 i ∧ Hid (Keeps (fun _ => False) w6 wr)) (fun iv _ => m - (intOf iv).toNat)
  case atStart => exact ⟨0, by omega, rfl, hide (Keeps.refl _ _)⟩
  case round =>
    obtain ⟨i, hi, rfl, KR⟩ := hrel
    by_cases hlt : i < m
    · have HLT : Hid (i + 1 ≤ m) := hlt
      have hix : i < xs.length := by rw [HM.out]; exact hlt
      obtain ⟨x, hx⟩ : ∃ x, xs[i]? = some x := ⟨xs[i], List.getElem?_eq_getElem hix⟩
      obtain ⟨ce, ve, hf⟩ := HF.out x (List.mem_of_getElem? hx)
      have hc0 := cells_get xs i x hx
      obtain ⟨c, l, C, n, k, T, q, j⟩ := x
      have HO : Hid (∀ t v, (#[.int .i64 c.length, .int .i64 c.lateness, .int .i64 c.windows, .int .i64 c.shards, .int .i64 c.spread, .int .i64 c.queue, .int .i64 c.mode, .int .i64 c.slots, .int .i64 c.exact_, .int .u64 c.promote, .int .i64 c.depth, .int .i64 c.width, .int .i64 c.top, .int .i64 c.key, .slice C n k, .slice T q j, .int .u64 c.seed] : Array Value).toList[t]? = some v → wr.cell? ⟨G, i * 17 + t, none⟩ = some v) := fun t v hv => by
        rw [(BG.out.kept KR.out (fun h => h)).cell, List.getElem?_toArray]
        exact hc0 t v hv
      have kA := (Keeps.refl (fun _ => False) wr).alloc (.cells #[.int .i64 c.length, .int .i64 c.lateness, .int .i64 c.windows, .int .i64 c.shards, .int .i64 c.spread, .int .i64 c.queue, .int .i64 c.mode, .int .i64 c.slots, .int .i64 c.exact_, .int .u64 c.promote, .int .i64 c.depth, .int .i64 c.width, .int .i64 c.top, .int .i64 c.key, .slice C n k, .slice T q j, .int .u64 c.seed] 28)
      have BA := hide (Blk.new wr 28 #[.int .i64 c.length, .int .i64 c.lateness, .int .i64 c.windows, .int .i64 c.shards, .int .i64 c.spread, .int .i64 c.queue, .int .i64 c.mode, .int .i64 c.slots, .int .i64 c.exact_, .int .u64 c.promote, .int .i64 c.depth, .int .i64 c.width, .int .i64 c.top, .int .i64 c.key, .slice C n k, .slice T q j, .int .u64 c.seed])
      have RA := hide (hf.mono (KR.out.trans kA))
      have KA := hide (KR.out.trans kA)
      have hi0 : (0 : Int) ≤ (i : Int) := by omega
      have hi1 : (i : Int) < (m : Int) := by omega
      clear hf hc0 hx hix kA
      go_upto_region 10 with (first | (refine cfg_ld_off (off := i * 17) (g := G) _ rfl HO.out rfl (by rfl) ?_; simp only [Act.put, List.setIfInBounds_toArray, List.set_cons_zero, List.set_cons_succ]) | (refine cfg_st _ _ rfl (by rfl) (by rfl) (by rfl) (by rfl) ?_; simp only [Act.put, List.setIfInBounds_toArray, List.set_cons_zero, List.set_cons_succ]))
      trace "REG10"
      generalize wr.alloc _ = w7 at *
      generalize wr.heap.size = X7 at *
      refine Code.wp_mono ?_ (reg10 c C T n k q j X7 w7 ce ve RA.out BA.out _ _ _ _ _ _ _ _ _ _ _ _ _ _ _ _ _ _ _ _ _ _ _ _ _ _ _ _ _ _ _ _ _ _ _ _ _ _ _ _ _ _ _ _ _ _ _ _ _ _ _ _ _ _ _ _ _ _ _ _ _ _ _ _ _ _ _ _ _ _ _ _ _ _ _)
      intro e a' w'' hex
      cases e <;> (first | exact hex.elim | skip)
      obtain ⟨⟨u57, u58, u59, u60, u61, u62, u63, u64, u65, u66, u67, rfl⟩, k15⟩ := hex
      have K15 := hide (KA.out.trans k15)
      clear k15
      dsimp only
      go_wp2_with fail
      go_roundw
      case rel => exact ⟨i + 1, HLT.out, by go_num, K15⟩
      case measure => have := HLT.out; simp [intOf]; omega
    · obtain rfl : i = m := by omega
      go_wp2_with fail
      trace "END"
      refine ⟨rfl, ⟨_, _, _, _, _, _, _, _, _, _, _, _, _, _, _, _, _, _, _, rfl⟩, KR.out⟩
end szc
end Go.Proofs.Ytgjlibecgkhocaa
