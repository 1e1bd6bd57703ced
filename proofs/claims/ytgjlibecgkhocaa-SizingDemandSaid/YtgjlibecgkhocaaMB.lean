/-
  The reference refuses a configuration for its numbers. No conditions beyond those of the statement. The reference refuses a configuration for its classes. No conditions beyond those of the statement. The reference refuses a configuration whose last class is too small. No conditions beyond those of the statement. The reference's check of any configuration. No conditions beyond those of the statement.
-/
import Derived.Test.YtgjlibecgkhocaaGw
import Derived.Test.YtgjlibecgkhocaaGk
import Derived.Test.YtgjlibecgkhocaaGe
set_option linter.unusedVariables false
set_option linter.unusedSimpArgs false
namespace Go.Proofs.Ytgjlibecgkhocaa
open Go.RowKit Cfp
set_option maxRecDepth 1000000 in
set_option maxHeartbeats 1000000 in
theorem rconfig_num (c : Cfg) (C T : Option Addr) (n k q j : Nat) (w : World) (hq : q = 16) (hb : numB c = false)
    (HCl : Hid (∀ W, Calls Try.prog 50 #[Value.agg #[.int .i64 c.length, .int .i64 c.lateness, .int .i64 c.windows, .int .i64 c.shards, .int .i64 c.spread, .int .i64 c.queue, .int .i64 c.mode, .int .i64 c.slots, .int .i64 c.exact_, .int .u64 c.promote, .int .i64 c.depth, .int .i64 c.width, .int .i64 c.top, .int .i64 c.key, .slice C n k, .slice T q j, .int .u64 c.seed]] W fun e w' => e = .returned (.int .i64 0) ∧ Keeps (fun _ => False) W w'))
    (HRo : Hid (∀ W, Calls Try.prog 15 #[Value.agg #[.int .i64 c.length, .int .i64 c.lateness, .int .i64 c.windows, .int .i64 c.shards, .int .i64 c.spread, .int .i64 c.queue, .int .i64 c.mode, .int .i64 c.slots, .int .i64 c.exact_, .int .u64 c.promote, .int .i64 c.depth, .int .i64 c.width, .int .i64 c.top, .int .i64 c.key, .slice C n k, .slice T q j, .int .u64 c.seed]] W fun e w' => e = .returned (.int .i64 0) ∧ Keeps (fun _ => False) W w')) :
    Calls Try.prog 26 #[Value.agg #[.int .i64 c.length, .int .i64 c.lateness, .int .i64 c.windows, .int .i64 c.shards, .int .i64 c.spread, .int .i64 c.queue, .int .i64 c.mode, .int .i64 c.slots, .int .i64 c.exact_, .int .u64 c.promote, .int .i64 c.depth, .int .i64 c.width, .int .i64 c.top, .int .i64 c.key, .slice C n k, .slice T q j, .int .u64 c.seed]] w fun e w' => e = .returned (.int .i64 11) ∧ Keeps (fun _ => False) w w' := by
  subst hq
  have HB := hide hb
  clear hb
  have B0 := hide (Blk.new w 28 #[.int .i64 c.length, .int .i64 c.lateness, .int .i64 c.windows, .int .i64 c.shards, .int .i64 c.spread, .int .i64 c.queue, .int .i64 c.mode, .int .i64 c.slots, .int .i64 c.exact_, .int .u64 c.promote, .int .i64 c.depth, .int .i64 c.width, .int .i64 c.top, .int .i64 c.key, .slice C n k, .slice T 16 j, .int .u64 c.seed])
  have K0 := hide ((Keeps.refl (fun _ => False) w).alloc (.cells #[.int .i64 c.length, .int .i64 c.lateness, .int .i64 c.windows, .int .i64 c.shards, .int .i64 c.spread, .int .i64 c.queue, .int .i64 c.mode, .int .i64 c.slots, .int .i64 c.exact_, .int .u64 c.promote, .int .i64 c.depth, .int .i64 c.width, .int .i64 c.top, .int .i64 c.key, .slice C n k, .slice T 16 j, .int .u64 c.seed] 28))
  go_enter Try.func26, Try.ntmps26
  go_upto_region 1 with fail
  generalize w.alloc _ = w0 at *
  generalize w.heap.size = X at *
  refine wp_region_list ?_
  trace "LIST"
  refine cfg_ld (.tmp 1) rfl B0.out rfl (by kernel_rfl) ?_
  simp only [Act.put, List.setIfInBounds_toArray, List.set_cons_zero, List.set_cons_succ]
  trace "LD"
  refine wl_want rfl ?_
  go_simp
  refine (HCl.out _).mono ?_
  rintro e w1 ⟨rfl, kk⟩
  have K1 := hide (K0.out.trans kk)
  have B1 := hide (B0.out.kept kk (fun h => h))
  clear kk B0 K0 HCl
  dsimp only
  trace "CALL"
  refine wl_val (v := .bool false) rfl rfl ?_
  simp only [Act.put, List.setIfInBounds_toArray, List.set_cons_zero, List.set_cons_succ]
  refine wl_val rfl rfl ?_
  simp only [Act.put, List.setIfInBounds_toArray, List.set_cons_zero, List.set_cons_succ]
  refine cfg_ld (.tmp 1) rfl B1.out rfl (by kernel_rfl) ?_
  simp only [Act.put, List.setIfInBounds_toArray, List.set_cons_zero, List.set_cons_succ]
  refine wl_want rfl ?_
  go_simp
  refine (HRo.out _).mono ?_
  rintro e w2 ⟨rfl, kk⟩
  have K2 := hide (K1.out.trans kk)
  have B2 := hide (B1.out.kept kk (fun h => h))
  clear kk B1 K1 HRo
  dsimp only
  refine wl_with (N := 115) (i := 97) (v := .bool true) ?_ (fun HQ => ?_)
  · intro tm hs hv
    clear HB B2
    go_wp2_with fail
    refine wp_cond_true (by simp only [Act.eval]; exact hv) ?_
    go_wp2_with fail
    refine bodyPost_ret (v := .int .i64 11) (by simp [results, Try.results26, go_sem, hs]) rfl ⟨rfl, K2.out⟩
  have f5 : w2.cell? ⟨X, 5, none⟩ = some (.int .i64 c.queue) := B2.out.cell 5
  have f6 : w2.cell? ⟨X, 6, none⟩ = some (.int .i64 c.mode) := B2.out.cell 6
  have f7 : w2.cell? ⟨X, 7, none⟩ = some (.int .i64 c.slots) := B2.out.cell 7
  have f8 : w2.cell? ⟨X, 8, none⟩ = some (.int .i64 c.exact_) := B2.out.cell 8
  have f10 : w2.cell? ⟨X, 10, none⟩ = some (.int .i64 c.depth) := B2.out.cell 10
  have f11 : w2.cell? ⟨X, 11, none⟩ = some (.int .i64 c.width) := B2.out.cell 11
  have f12 : w2.cell? ⟨X, 12, none⟩ = some (.int .i64 c.top) := B2.out.cell 12
  have f13 : w2.cell? ⟨X, 13, none⟩ = some (.int .i64 c.key) := B2.out.cell 13
  have f14 : w2.cell? ⟨X, 14, none⟩ = some (.slice C n k) := B2.out.cell 14
  generalize (Value.agg #[.int .i64 c.length, .int .i64 c.lateness, .int .i64 c.windows, .int .i64 c.shards, .int .i64 c.spread, .int .i64 c.queue, .int .i64 c.mode, .int .i64 c.slots, .int .i64 c.exact_, .int .u64 c.promote, .int .i64 c.depth, .int .i64 c.width, .int .i64 c.top, .int .i64 c.key, .slice C n k, .slice T 16 j, .int .u64 c.seed]) = V at *
  refine wl_val (v := .bool false) rfl rfl ?_
  simp only [Act.put, List.setIfInBounds_toArray, List.set_cons_zero, List.set_cons_succ]
  refine wl_val (v := .bool false) (by kernel_rfl) (by kernel_rfl) ?_
  simp only [Act.put, List.setIfInBounds_toArray, List.set_cons_zero, List.set_cons_succ]
  refine wl_val (v := .bool false) (by kernel_rfl) (by kernel_rfl) ?_
  simp only [Act.put, List.setIfInBounds_toArray, List.set_cons_zero, List.set_cons_succ]
  trace "S0"
  refine wl_val (v := .pointer (some ⟨X, 5, none⟩)) (by kernel_rfl) (by kernel_rfl) ?_
  simp only [Act.put, List.setIfInBounds_toArray, List.set_cons_zero, List.set_cons_succ]
  refine wl_ld rfl (by kernel_rfl) rfl f5 ?_
  simp only [Act.put, List.setIfInBounds_toArray, List.set_cons_zero, List.set_cons_succ]
  refine wl_val (v := .bool (decide (c.queue < 1))) (by kernel_rfl) (by kernel_rfl) ?_
  simp only [Act.put, List.setIfInBounds_toArray, List.set_cons_zero, List.set_cons_succ]
  rcases hb0 : (decide (c.queue < 1)) with _ | _
  rotate_left
  · exact sk_end _ _ (by kernel_rfl) HQ.out
  refine wl_val (v := .bool false) (by kernel_rfl) (by kernel_rfl) ?_
  simp only [Act.put, List.setIfInBounds_toArray, List.set_cons_zero, List.set_cons_succ]
  refine wl_val (v := .bool false) (by kernel_rfl) (by kernel_rfl) ?_
  simp only [Act.put, List.setIfInBounds_toArray, List.set_cons_zero, List.set_cons_succ]
  trace "S1"
  refine wl_val (v := .pointer (some ⟨X, 5, none⟩)) (by kernel_rfl) (by kernel_rfl) ?_
  simp only [Act.put, List.setIfInBounds_toArray, List.set_cons_zero, List.set_cons_succ]
  refine wl_ld rfl (by kernel_rfl) rfl f5 ?_
  simp only [Act.put, List.setIfInBounds_toArray, List.set_cons_zero, List.set_cons_succ]
  refine wl_val (v := .bool (decide (64 < c.queue))) (by kernel_rfl) (by kernel_rfl) ?_
  simp only [Act.put, List.setIfInBounds_toArray, List.set_cons_zero, List.set_cons_succ]
  rcases hb1 : (decide (64 < c.queue)) with _ | _
  rotate_left
  · exact sk_end _ _ (by kernel_rfl) HQ.out
  refine wl_val (v := .bool false) (by kernel_rfl) (by kernel_rfl) ?_
  simp only [Act.put, List.setIfInBounds_toArray, List.set_cons_zero, List.set_cons_succ]
  refine wl_val (v := .bool false) (by kernel_rfl) (by kernel_rfl) ?_
  simp only [Act.put, List.setIfInBounds_toArray, List.set_cons_zero, List.set_cons_succ]
  refine wl_val (v := .pointer (some ⟨X, 6, none⟩)) (by kernel_rfl) (by kernel_rfl) ?_
  simp only [Act.put, List.setIfInBounds_toArray, List.set_cons_zero, List.set_cons_succ]
  refine wl_ld rfl (by kernel_rfl) rfl f6 ?_
  simp only [Act.put, List.setIfInBounds_toArray, List.set_cons_zero, List.set_cons_succ]
  refine wl_val (v := .bool (c.mode != 1)) (by kernel_rfl) (by kernel_rfl) ?_
  simp only [Act.put, List.setIfInBounds_toArray, List.set_cons_zero, List.set_cons_succ]
  rcases hm1 : (c.mode != 1) with _ | _
  · refine wl_val (v := .bool false) (by kernel_rfl) (by kernel_rfl) ?_
    simp only [Act.put, List.setIfInBounds_toArray, List.set_cons_zero, List.set_cons_succ]
    refine wl_skip (by kernel_rfl) ?_
    simp only [Act.put, List.setIfInBounds_toArray, List.set_cons_zero, List.set_cons_succ]
    refine wl_skip (by kernel_rfl) ?_
    simp only [Act.put, List.setIfInBounds_toArray, List.set_cons_zero, List.set_cons_succ]
    refine wl_skip (by kernel_rfl) ?_
    simp only [Act.put, List.setIfInBounds_toArray, List.set_cons_zero, List.set_cons_succ]
    refine wl_val (v := .bool false) (by kernel_rfl) (by kernel_rfl) ?_
    simp only [Act.put, List.setIfInBounds_toArray, List.set_cons_zero, List.set_cons_succ]
    refine wl_val (v := .bool false) (by kernel_rfl) (by kernel_rfl) ?_
    simp only [Act.put, List.setIfInBounds_toArray, List.set_cons_zero, List.set_cons_succ]
    refine wl_val (v := .bool false) (by kernel_rfl) (by kernel_rfl) ?_
    simp only [Act.put, List.setIfInBounds_toArray, List.set_cons_zero, List.set_cons_succ]
    trace "M1"
    trace "S3"
    refine wl_val (v := .pointer (some ⟨X, 7, none⟩)) (by kernel_rfl) (by kernel_rfl) ?_
    simp only [Act.put, List.setIfInBounds_toArray, List.set_cons_zero, List.set_cons_succ]
    refine wl_ld rfl (by kernel_rfl) rfl f7 ?_
    simp only [Act.put, List.setIfInBounds_toArray, List.set_cons_zero, List.set_cons_succ]
    refine wl_val (v := .bool (decide (c.slots < 1))) (by kernel_rfl) (by kernel_rfl) ?_
    simp only [Act.put, List.setIfInBounds_toArray, List.set_cons_zero, List.set_cons_succ]
    rcases hb3 : (decide (c.slots < 1)) with _ | _
    rotate_left
    · exact sk_end _ _ (by kernel_rfl) HQ.out
    refine wl_val (v := .bool false) (by kernel_rfl) (by kernel_rfl) ?_
    simp only [Act.put, List.setIfInBounds_toArray, List.set_cons_zero, List.set_cons_succ]
    refine wl_val (v := .bool false) (by kernel_rfl) (by kernel_rfl) ?_
    simp only [Act.put, List.setIfInBounds_toArray, List.set_cons_zero, List.set_cons_succ]
    trace "S4"
    refine wl_val (v := .pointer (some ⟨X, 7, none⟩)) (by kernel_rfl) (by kernel_rfl) ?_
    simp only [Act.put, List.setIfInBounds_toArray, List.set_cons_zero, List.set_cons_succ]
    refine wl_ld rfl (by kernel_rfl) rfl f7 ?_
    simp only [Act.put, List.setIfInBounds_toArray, List.set_cons_zero, List.set_cons_succ]
    refine wl_val (v := .bool (decide (64 < c.slots))) (by kernel_rfl) (by kernel_rfl) ?_
    simp only [Act.put, List.setIfInBounds_toArray, List.set_cons_zero, List.set_cons_succ]
    rcases hb4 : (decide (64 < c.slots)) with _ | _
    rotate_left
    · exact sk_end _ _ (by kernel_rfl) HQ.out
    refine wl_val (v := .bool false) (by kernel_rfl) (by kernel_rfl) ?_
    simp only [Act.put, List.setIfInBounds_toArray, List.set_cons_zero, List.set_cons_succ]
    refine wl_val (v := .bool false) (by kernel_rfl) (by kernel_rfl) ?_
    simp only [Act.put, List.setIfInBounds_toArray, List.set_cons_zero, List.set_cons_succ]
    trace "S5"
    refine wl_val (v := .pointer (some ⟨X, 8, none⟩)) (by kernel_rfl) (by kernel_rfl) ?_
    simp only [Act.put, List.setIfInBounds_toArray, List.set_cons_zero, List.set_cons_succ]
    refine wl_ld rfl (by kernel_rfl) rfl f8 ?_
    simp only [Act.put, List.setIfInBounds_toArray, List.set_cons_zero, List.set_cons_succ]
    refine wl_val (v := .bool (decide (c.exact_ < 0))) (by kernel_rfl) (by kernel_rfl) ?_
    simp only [Act.put, List.setIfInBounds_toArray, List.set_cons_zero, List.set_cons_succ]
    rcases hb5 : (decide (c.exact_ < 0)) with _ | _
    rotate_left
    · exact sk_end _ _ (by kernel_rfl) HQ.out
    refine wl_val (v := .bool false) (by kernel_rfl) (by kernel_rfl) ?_
    simp only [Act.put, List.setIfInBounds_toArray, List.set_cons_zero, List.set_cons_succ]
    refine wl_val (v := .bool false) (by kernel_rfl) (by kernel_rfl) ?_
    simp only [Act.put, List.setIfInBounds_toArray, List.set_cons_zero, List.set_cons_succ]
    trace "S6"
    refine wl_val (v := .pointer (some ⟨X, 8, none⟩)) (by kernel_rfl) (by kernel_rfl) ?_
    simp only [Act.put, List.setIfInBounds_toArray, List.set_cons_zero, List.set_cons_succ]
    refine wl_ld rfl (by kernel_rfl) rfl f8 ?_
    simp only [Act.put, List.setIfInBounds_toArray, List.set_cons_zero, List.set_cons_succ]
    refine wl_val (v := .bool (decide (32 < c.exact_))) (by kernel_rfl) (by kernel_rfl) ?_
    simp only [Act.put, List.setIfInBounds_toArray, List.set_cons_zero, List.set_cons_succ]
    rcases hb6 : (decide (32 < c.exact_)) with _ | _
    rotate_left
    · exact sk_end _ _ (by kernel_rfl) HQ.out
    refine wl_val (v := .bool false) (by kernel_rfl) (by kernel_rfl) ?_
    simp only [Act.put, List.setIfInBounds_toArray, List.set_cons_zero, List.set_cons_succ]
    refine wl_val (v := .bool false) (by kernel_rfl) (by kernel_rfl) ?_
    simp only [Act.put, List.setIfInBounds_toArray, List.set_cons_zero, List.set_cons_succ]
    trace "S7"
    refine wl_val (v := .pointer (some ⟨X, 10, none⟩)) (by kernel_rfl) (by kernel_rfl) ?_
    simp only [Act.put, List.setIfInBounds_toArray, List.set_cons_zero, List.set_cons_succ]
    refine wl_ld rfl (by kernel_rfl) rfl f10 ?_
    simp only [Act.put, List.setIfInBounds_toArray, List.set_cons_zero, List.set_cons_succ]
    refine wl_val (v := .bool (decide (c.depth < 1))) (by kernel_rfl) (by kernel_rfl) ?_
    simp only [Act.put, List.setIfInBounds_toArray, List.set_cons_zero, List.set_cons_succ]
    rcases hb7 : (decide (c.depth < 1)) with _ | _
    rotate_left
    · exact sk_end _ _ (by kernel_rfl) HQ.out
    refine wl_val (v := .bool false) (by kernel_rfl) (by kernel_rfl) ?_
    simp only [Act.put, List.setIfInBounds_toArray, List.set_cons_zero, List.set_cons_succ]
    refine wl_val (v := .bool false) (by kernel_rfl) (by kernel_rfl) ?_
    simp only [Act.put, List.setIfInBounds_toArray, List.set_cons_zero, List.set_cons_succ]
    trace "S8"
    refine wl_val (v := .pointer (some ⟨X, 10, none⟩)) (by kernel_rfl) (by kernel_rfl) ?_
    simp only [Act.put, List.setIfInBounds_toArray, List.set_cons_zero, List.set_cons_succ]
    refine wl_ld rfl (by kernel_rfl) rfl f10 ?_
    simp only [Act.put, List.setIfInBounds_toArray, List.set_cons_zero, List.set_cons_succ]
    refine wl_val (v := .bool (decide (4 < c.depth))) (by kernel_rfl) (by kernel_rfl) ?_
    simp only [Act.put, List.setIfInBounds_toArray, List.set_cons_zero, List.set_cons_succ]
    rcases hb8 : (decide (4 < c.depth)) with _ | _
    rotate_left
    · exact sk_end _ _ (by kernel_rfl) HQ.out
    refine wl_val (v := .bool false) (by kernel_rfl) (by kernel_rfl) ?_
    simp only [Act.put, List.setIfInBounds_toArray, List.set_cons_zero, List.set_cons_succ]
    refine wl_val (v := .bool false) (by kernel_rfl) (by kernel_rfl) ?_
    simp only [Act.put, List.setIfInBounds_toArray, List.set_cons_zero, List.set_cons_succ]
    trace "S9"
    refine wl_val (v := .pointer (some ⟨X, 11, none⟩)) (by kernel_rfl) (by kernel_rfl) ?_
    simp only [Act.put, List.setIfInBounds_toArray, List.set_cons_zero, List.set_cons_succ]
    refine wl_ld rfl (by kernel_rfl) rfl f11 ?_
    simp only [Act.put, List.setIfInBounds_toArray, List.set_cons_zero, List.set_cons_succ]
    refine wl_val (v := .bool (decide (c.width < 1))) (by kernel_rfl) (by kernel_rfl) ?_
    simp only [Act.put, List.setIfInBounds_toArray, List.set_cons_zero, List.set_cons_succ]
    rcases hb9 : (decide (c.width < 1)) with _ | _
    rotate_left
    · exact sk_end _ _ (by kernel_rfl) HQ.out
    refine wl_val (v := .bool false) (by kernel_rfl) (by kernel_rfl) ?_
    simp only [Act.put, List.setIfInBounds_toArray, List.set_cons_zero, List.set_cons_succ]
    refine wl_val (v := .bool false) (by kernel_rfl) (by kernel_rfl) ?_
    simp only [Act.put, List.setIfInBounds_toArray, List.set_cons_zero, List.set_cons_succ]
    trace "S10"
    refine wl_val (v := .pointer (some ⟨X, 11, none⟩)) (by kernel_rfl) (by kernel_rfl) ?_
    simp only [Act.put, List.setIfInBounds_toArray, List.set_cons_zero, List.set_cons_succ]
    refine wl_ld rfl (by kernel_rfl) rfl f11 ?_
    simp only [Act.put, List.setIfInBounds_toArray, List.set_cons_zero, List.set_cons_succ]
    refine wl_val (v := .bool (decide (256 < c.width))) (by kernel_rfl) (by kernel_rfl) ?_
    simp only [Act.put, List.setIfInBounds_toArray, List.set_cons_zero, List.set_cons_succ]
    rcases hb10 : (decide (256 < c.width)) with _ | _
    rotate_left
    · exact sk_end _ _ (by kernel_rfl) HQ.out
    refine wl_val (v := .bool false) (by kernel_rfl) (by kernel_rfl) ?_
    simp only [Act.put, List.setIfInBounds_toArray, List.set_cons_zero, List.set_cons_succ]
    refine wl_val (v := .bool false) (by kernel_rfl) (by kernel_rfl) ?_
    simp only [Act.put, List.setIfInBounds_toArray, List.set_cons_zero, List.set_cons_succ]
    trace "S11"
    refine wl_val (v := .pointer (some ⟨X, 12, none⟩)) (by kernel_rfl) (by kernel_rfl) ?_
    simp only [Act.put, List.setIfInBounds_toArray, List.set_cons_zero, List.set_cons_succ]
    refine wl_ld rfl (by kernel_rfl) rfl f12 ?_
    simp only [Act.put, List.setIfInBounds_toArray, List.set_cons_zero, List.set_cons_succ]
    refine wl_val (v := .bool (decide (c.top < 1))) (by kernel_rfl) (by kernel_rfl) ?_
    simp only [Act.put, List.setIfInBounds_toArray, List.set_cons_zero, List.set_cons_succ]
    rcases hb11 : (decide (c.top < 1)) with _ | _
    rotate_left
    · exact sk_end _ _ (by kernel_rfl) HQ.out
    refine wl_val (v := .bool false) (by kernel_rfl) (by kernel_rfl) ?_
    simp only [Act.put, List.setIfInBounds_toArray, List.set_cons_zero, List.set_cons_succ]
    refine wl_val (v := .bool false) (by kernel_rfl) (by kernel_rfl) ?_
    simp only [Act.put, List.setIfInBounds_toArray, List.set_cons_zero, List.set_cons_succ]
    trace "S12"
    refine wl_val (v := .pointer (some ⟨X, 12, none⟩)) (by kernel_rfl) (by kernel_rfl) ?_
    simp only [Act.put, List.setIfInBounds_toArray, List.set_cons_zero, List.set_cons_succ]
    refine wl_ld rfl (by kernel_rfl) rfl f12 ?_
    simp only [Act.put, List.setIfInBounds_toArray, List.set_cons_zero, List.set_cons_succ]
    refine wl_val (v := .bool (decide (64 < c.top))) (by kernel_rfl) (by kernel_rfl) ?_
    simp only [Act.put, List.setIfInBounds_toArray, List.set_cons_zero, List.set_cons_succ]
    rcases hb12 : (decide (64 < c.top)) with _ | _
    rotate_left
    · exact sk_end _ _ (by kernel_rfl) HQ.out
    refine wl_val (v := .bool false) (by kernel_rfl) (by kernel_rfl) ?_
    simp only [Act.put, List.setIfInBounds_toArray, List.set_cons_zero, List.set_cons_succ]
    refine wl_val (v := .bool false) (by kernel_rfl) (by kernel_rfl) ?_
    simp only [Act.put, List.setIfInBounds_toArray, List.set_cons_zero, List.set_cons_succ]
    trace "S13"
    refine wl_val (v := .pointer (some ⟨X, 13, none⟩)) (by kernel_rfl) (by kernel_rfl) ?_
    simp only [Act.put, List.setIfInBounds_toArray, List.set_cons_zero, List.set_cons_succ]
    refine wl_ld rfl (by kernel_rfl) rfl f13 ?_
    simp only [Act.put, List.setIfInBounds_toArray, List.set_cons_zero, List.set_cons_succ]
    refine wl_val (v := .bool (decide (c.key < 1))) (by kernel_rfl) (by kernel_rfl) ?_
    simp only [Act.put, List.setIfInBounds_toArray, List.set_cons_zero, List.set_cons_succ]
    rcases hb13 : (decide (c.key < 1)) with _ | _
    rotate_left
    · exact sk_end _ _ (by kernel_rfl) HQ.out
    refine wl_val (v := .bool false) (by kernel_rfl) (by kernel_rfl) ?_
    simp only [Act.put, List.setIfInBounds_toArray, List.set_cons_zero, List.set_cons_succ]
    refine wl_val (v := .bool false) (by kernel_rfl) (by kernel_rfl) ?_
    simp only [Act.put, List.setIfInBounds_toArray, List.set_cons_zero, List.set_cons_succ]
    trace "S14"
    refine wl_val (v := .pointer (some ⟨X, 13, none⟩)) (by kernel_rfl) (by kernel_rfl) ?_
    simp only [Act.put, List.setIfInBounds_toArray, List.set_cons_zero, List.set_cons_succ]
    refine wl_ld rfl (by kernel_rfl) rfl f13 ?_
    simp only [Act.put, List.setIfInBounds_toArray, List.set_cons_zero, List.set_cons_succ]
    refine wl_val (v := .bool (decide (255 < c.key))) (by kernel_rfl) (by kernel_rfl) ?_
    simp only [Act.put, List.setIfInBounds_toArray, List.set_cons_zero, List.set_cons_succ]
    rcases hb14 : (decide (255 < c.key)) with _ | _
    rotate_left
    · exact sk_end _ _ (by kernel_rfl) HQ.out
    refine wl_val (v := .bool false) (by kernel_rfl) (by kernel_rfl) ?_
    simp only [Act.put, List.setIfInBounds_toArray, List.set_cons_zero, List.set_cons_succ]
    refine wl_val (v := .bool false) (by kernel_rfl) (by kernel_rfl) ?_
    simp only [Act.put, List.setIfInBounds_toArray, List.set_cons_zero, List.set_cons_succ]
    exfalso
    have h := HB.out
    unfold numB at h
    simp at h hb0 hb1 hb3 hb4 hb5 hb6 hb7 hb8 hb9 hb10 hb11 hb12 hb13 hb14 hm1
    omega
  · refine wl_val (v := .bool true) (by kernel_rfl) (by kernel_rfl) ?_
    simp only [Act.put, List.setIfInBounds_toArray, List.set_cons_zero, List.set_cons_succ]
    refine wl_val (v := .pointer (some ⟨X, 6, none⟩)) (by kernel_rfl) (by kernel_rfl) ?_
    simp only [Act.put, List.setIfInBounds_toArray, List.set_cons_zero, List.set_cons_succ]
    refine wl_ld rfl (by kernel_rfl) rfl f6 ?_
    simp only [Act.put, List.setIfInBounds_toArray, List.set_cons_zero, List.set_cons_succ]
    refine wl_val (v := .bool (c.mode != 2)) (by kernel_rfl) (by kernel_rfl) ?_
    simp only [Act.put, List.setIfInBounds_toArray, List.set_cons_zero, List.set_cons_succ]
    rcases hm2 : (c.mode != 2) with _ | _
    rotate_left
    · exact sk_end _ _ (by kernel_rfl) HQ.out
    refine wl_val (v := .bool false) (by kernel_rfl) (by kernel_rfl) ?_
    simp only [Act.put, List.setIfInBounds_toArray, List.set_cons_zero, List.set_cons_succ]
    refine wl_val (v := .bool false) (by kernel_rfl) (by kernel_rfl) ?_
    simp only [Act.put, List.setIfInBounds_toArray, List.set_cons_zero, List.set_cons_succ]
    refine wl_val (v := .bool false) (by kernel_rfl) (by kernel_rfl) ?_
    simp only [Act.put, List.setIfInBounds_toArray, List.set_cons_zero, List.set_cons_succ]
    trace "M2"
    trace "S3"
    refine wl_val (v := .pointer (some ⟨X, 7, none⟩)) (by kernel_rfl) (by kernel_rfl) ?_
    simp only [Act.put, List.setIfInBounds_toArray, List.set_cons_zero, List.set_cons_succ]
    refine wl_ld rfl (by kernel_rfl) rfl f7 ?_
    simp only [Act.put, List.setIfInBounds_toArray, List.set_cons_zero, List.set_cons_succ]
    refine wl_val (v := .bool (decide (c.slots < 1))) (by kernel_rfl) (by kernel_rfl) ?_
    simp only [Act.put, List.setIfInBounds_toArray, List.set_cons_zero, List.set_cons_succ]
    rcases hb3 : (decide (c.slots < 1)) with _ | _
    rotate_left
    · exact sk_end _ _ (by kernel_rfl) HQ.out
    refine wl_val (v := .bool false) (by kernel_rfl) (by kernel_rfl) ?_
    simp only [Act.put, List.setIfInBounds_toArray, List.set_cons_zero, List.set_cons_succ]
    refine wl_val (v := .bool false) (by kernel_rfl) (by kernel_rfl) ?_
    simp only [Act.put, List.setIfInBounds_toArray, List.set_cons_zero, List.set_cons_succ]
    trace "S4"
    refine wl_val (v := .pointer (some ⟨X, 7, none⟩)) (by kernel_rfl) (by kernel_rfl) ?_
    simp only [Act.put, List.setIfInBounds_toArray, List.set_cons_zero, List.set_cons_succ]
    refine wl_ld rfl (by kernel_rfl) rfl f7 ?_
    simp only [Act.put, List.setIfInBounds_toArray, List.set_cons_zero, List.set_cons_succ]
    refine wl_val (v := .bool (decide (64 < c.slots))) (by kernel_rfl) (by kernel_rfl) ?_
    simp only [Act.put, List.setIfInBounds_toArray, List.set_cons_zero, List.set_cons_succ]
    rcases hb4 : (decide (64 < c.slots)) with _ | _
    rotate_left
    · exact sk_end _ _ (by kernel_rfl) HQ.out
    refine wl_val (v := .bool false) (by kernel_rfl) (by kernel_rfl) ?_
    simp only [Act.put, List.setIfInBounds_toArray, List.set_cons_zero, List.set_cons_succ]
    refine wl_val (v := .bool false) (by kernel_rfl) (by kernel_rfl) ?_
    simp only [Act.put, List.setIfInBounds_toArray, List.set_cons_zero, List.set_cons_succ]
    trace "S5"
    refine wl_val (v := .pointer (some ⟨X, 8, none⟩)) (by kernel_rfl) (by kernel_rfl) ?_
    simp only [Act.put, List.setIfInBounds_toArray, List.set_cons_zero, List.set_cons_succ]
    refine wl_ld rfl (by kernel_rfl) rfl f8 ?_
    simp only [Act.put, List.setIfInBounds_toArray, List.set_cons_zero, List.set_cons_succ]
    refine wl_val (v := .bool (decide (c.exact_ < 0))) (by kernel_rfl) (by kernel_rfl) ?_
    simp only [Act.put, List.setIfInBounds_toArray, List.set_cons_zero, List.set_cons_succ]
    rcases hb5 : (decide (c.exact_ < 0)) with _ | _
    rotate_left
    · exact sk_end _ _ (by kernel_rfl) HQ.out
    refine wl_val (v := .bool false) (by kernel_rfl) (by kernel_rfl) ?_
    simp only [Act.put, List.setIfInBounds_toArray, List.set_cons_zero, List.set_cons_succ]
    refine wl_val (v := .bool false) (by kernel_rfl) (by kernel_rfl) ?_
    simp only [Act.put, List.setIfInBounds_toArray, List.set_cons_zero, List.set_cons_succ]
    trace "S6"
    refine wl_val (v := .pointer (some ⟨X, 8, none⟩)) (by kernel_rfl) (by kernel_rfl) ?_
    simp only [Act.put, List.setIfInBounds_toArray, List.set_cons_zero, List.set_cons_succ]
    refine wl_ld rfl (by kernel_rfl) rfl f8 ?_
    simp only [Act.put, List.setIfInBounds_toArray, List.set_cons_zero, List.set_cons_succ]
    refine wl_val (v := .bool (decide (32 < c.exact_))) (by kernel_rfl) (by kernel_rfl) ?_
    simp only [Act.put, List.setIfInBounds_toArray, List.set_cons_zero, List.set_cons_succ]
    rcases hb6 : (decide (32 < c.exact_)) with _ | _
    rotate_left
    · exact sk_end _ _ (by kernel_rfl) HQ.out
    refine wl_val (v := .bool false) (by kernel_rfl) (by kernel_rfl) ?_
    simp only [Act.put, List.setIfInBounds_toArray, List.set_cons_zero, List.set_cons_succ]
    refine wl_val (v := .bool false) (by kernel_rfl) (by kernel_rfl) ?_
    simp only [Act.put, List.setIfInBounds_toArray, List.set_cons_zero, List.set_cons_succ]
    trace "S7"
    refine wl_val (v := .pointer (some ⟨X, 10, none⟩)) (by kernel_rfl) (by kernel_rfl) ?_
    simp only [Act.put, List.setIfInBounds_toArray, List.set_cons_zero, List.set_cons_succ]
    refine wl_ld rfl (by kernel_rfl) rfl f10 ?_
    simp only [Act.put, List.setIfInBounds_toArray, List.set_cons_zero, List.set_cons_succ]
    refine wl_val (v := .bool (decide (c.depth < 1))) (by kernel_rfl) (by kernel_rfl) ?_
    simp only [Act.put, List.setIfInBounds_toArray, List.set_cons_zero, List.set_cons_succ]
    rcases hb7 : (decide (c.depth < 1)) with _ | _
    rotate_left
    · exact sk_end _ _ (by kernel_rfl) HQ.out
    refine wl_val (v := .bool false) (by kernel_rfl) (by kernel_rfl) ?_
    simp only [Act.put, List.setIfInBounds_toArray, List.set_cons_zero, List.set_cons_succ]
    refine wl_val (v := .bool false) (by kernel_rfl) (by kernel_rfl) ?_
    simp only [Act.put, List.setIfInBounds_toArray, List.set_cons_zero, List.set_cons_succ]
    trace "S8"
    refine wl_val (v := .pointer (some ⟨X, 10, none⟩)) (by kernel_rfl) (by kernel_rfl) ?_
    simp only [Act.put, List.setIfInBounds_toArray, List.set_cons_zero, List.set_cons_succ]
    refine wl_ld rfl (by kernel_rfl) rfl f10 ?_
    simp only [Act.put, List.setIfInBounds_toArray, List.set_cons_zero, List.set_cons_succ]
    refine wl_val (v := .bool (decide (4 < c.depth))) (by kernel_rfl) (by kernel_rfl) ?_
    simp only [Act.put, List.setIfInBounds_toArray, List.set_cons_zero, List.set_cons_succ]
    rcases hb8 : (decide (4 < c.depth)) with _ | _
    rotate_left
    · exact sk_end _ _ (by kernel_rfl) HQ.out
    refine wl_val (v := .bool false) (by kernel_rfl) (by kernel_rfl) ?_
    simp only [Act.put, List.setIfInBounds_toArray, List.set_cons_zero, List.set_cons_succ]
    refine wl_val (v := .bool false) (by kernel_rfl) (by kernel_rfl) ?_
    simp only [Act.put, List.setIfInBounds_toArray, List.set_cons_zero, List.set_cons_succ]
    trace "S9"
    refine wl_val (v := .pointer (some ⟨X, 11, none⟩)) (by kernel_rfl) (by kernel_rfl) ?_
    simp only [Act.put, List.setIfInBounds_toArray, List.set_cons_zero, List.set_cons_succ]
    refine wl_ld rfl (by kernel_rfl) rfl f11 ?_
    simp only [Act.put, List.setIfInBounds_toArray, List.set_cons_zero, List.set_cons_succ]
    refine wl_val (v := .bool (decide (c.width < 1))) (by kernel_rfl) (by kernel_rfl) ?_
    simp only [Act.put, List.setIfInBounds_toArray, List.set_cons_zero, List.set_cons_succ]
    rcases hb9 : (decide (c.width < 1)) with _ | _
    rotate_left
    · exact sk_end _ _ (by kernel_rfl) HQ.out
    refine wl_val (v := .bool false) (by kernel_rfl) (by kernel_rfl) ?_
    simp only [Act.put, List.setIfInBounds_toArray, List.set_cons_zero, List.set_cons_succ]
    refine wl_val (v := .bool false) (by kernel_rfl) (by kernel_rfl) ?_
    simp only [Act.put, List.setIfInBounds_toArray, List.set_cons_zero, List.set_cons_succ]
    trace "S10"
    refine wl_val (v := .pointer (some ⟨X, 11, none⟩)) (by kernel_rfl) (by kernel_rfl) ?_
    simp only [Act.put, List.setIfInBounds_toArray, List.set_cons_zero, List.set_cons_succ]
    refine wl_ld rfl (by kernel_rfl) rfl f11 ?_
    simp only [Act.put, List.setIfInBounds_toArray, List.set_cons_zero, List.set_cons_succ]
    refine wl_val (v := .bool (decide (256 < c.width))) (by kernel_rfl) (by kernel_rfl) ?_
    simp only [Act.put, List.setIfInBounds_toArray, List.set_cons_zero, List.set_cons_succ]
    rcases hb10 : (decide (256 < c.width)) with _ | _
    rotate_left
    · exact sk_end _ _ (by kernel_rfl) HQ.out
    refine wl_val (v := .bool false) (by kernel_rfl) (by kernel_rfl) ?_
    simp only [Act.put, List.setIfInBounds_toArray, List.set_cons_zero, List.set_cons_succ]
    refine wl_val (v := .bool false) (by kernel_rfl) (by kernel_rfl) ?_
    simp only [Act.put, List.setIfInBounds_toArray, List.set_cons_zero, List.set_cons_succ]
    trace "S11"
    refine wl_val (v := .pointer (some ⟨X, 12, none⟩)) (by kernel_rfl) (by kernel_rfl) ?_
    simp only [Act.put, List.setIfInBounds_toArray, List.set_cons_zero, List.set_cons_succ]
    refine wl_ld rfl (by kernel_rfl) rfl f12 ?_
    simp only [Act.put, List.setIfInBounds_toArray, List.set_cons_zero, List.set_cons_succ]
    refine wl_val (v := .bool (decide (c.top < 1))) (by kernel_rfl) (by kernel_rfl) ?_
    simp only [Act.put, List.setIfInBounds_toArray, List.set_cons_zero, List.set_cons_succ]
    rcases hb11 : (decide (c.top < 1)) with _ | _
    rotate_left
    · exact sk_end _ _ (by kernel_rfl) HQ.out
    refine wl_val (v := .bool false) (by kernel_rfl) (by kernel_rfl) ?_
    simp only [Act.put, List.setIfInBounds_toArray, List.set_cons_zero, List.set_cons_succ]
    refine wl_val (v := .bool false) (by kernel_rfl) (by kernel_rfl) ?_
    simp only [Act.put, List.setIfInBounds_toArray, List.set_cons_zero, List.set_cons_succ]
    trace "S12"
    refine wl_val (v := .pointer (some ⟨X, 12, none⟩)) (by kernel_rfl) (by kernel_rfl) ?_
    simp only [Act.put, List.setIfInBounds_toArray, List.set_cons_zero, List.set_cons_succ]
    refine wl_ld rfl (by kernel_rfl) rfl f12 ?_
    simp only [Act.put, List.setIfInBounds_toArray, List.set_cons_zero, List.set_cons_succ]
    refine wl_val (v := .bool (decide (64 < c.top))) (by kernel_rfl) (by kernel_rfl) ?_
    simp only [Act.put, List.setIfInBounds_toArray, List.set_cons_zero, List.set_cons_succ]
    rcases hb12 : (decide (64 < c.top)) with _ | _
    rotate_left
    · exact sk_end _ _ (by kernel_rfl) HQ.out
    refine wl_val (v := .bool false) (by kernel_rfl) (by kernel_rfl) ?_
    simp only [Act.put, List.setIfInBounds_toArray, List.set_cons_zero, List.set_cons_succ]
    refine wl_val (v := .bool false) (by kernel_rfl) (by kernel_rfl) ?_
    simp only [Act.put, List.setIfInBounds_toArray, List.set_cons_zero, List.set_cons_succ]
    trace "S13"
    refine wl_val (v := .pointer (some ⟨X, 13, none⟩)) (by kernel_rfl) (by kernel_rfl) ?_
    simp only [Act.put, List.setIfInBounds_toArray, List.set_cons_zero, List.set_cons_succ]
    refine wl_ld rfl (by kernel_rfl) rfl f13 ?_
    simp only [Act.put, List.setIfInBounds_toArray, List.set_cons_zero, List.set_cons_succ]
    refine wl_val (v := .bool (decide (c.key < 1))) (by kernel_rfl) (by kernel_rfl) ?_
    simp only [Act.put, List.setIfInBounds_toArray, List.set_cons_zero, List.set_cons_succ]
    rcases hb13 : (decide (c.key < 1)) with _ | _
    rotate_left
    · exact sk_end _ _ (by kernel_rfl) HQ.out
    refine wl_val (v := .bool false) (by kernel_rfl) (by kernel_rfl) ?_
    simp only [Act.put, List.setIfInBounds_toArray, List.set_cons_zero, List.set_cons_succ]
    refine wl_val (v := .bool false) (by kernel_rfl) (by kernel_rfl) ?_
    simp only [Act.put, List.setIfInBounds_toArray, List.set_cons_zero, List.set_cons_succ]
    trace "S14"
    refine wl_val (v := .pointer (some ⟨X, 13, none⟩)) (by kernel_rfl) (by kernel_rfl) ?_
    simp only [Act.put, List.setIfInBounds_toArray, List.set_cons_zero, List.set_cons_succ]
    refine wl_ld rfl (by kernel_rfl) rfl f13 ?_
    simp only [Act.put, List.setIfInBounds_toArray, List.set_cons_zero, List.set_cons_succ]
    refine wl_val (v := .bool (decide (255 < c.key))) (by kernel_rfl) (by kernel_rfl) ?_
    simp only [Act.put, List.setIfInBounds_toArray, List.set_cons_zero, List.set_cons_succ]
    rcases hb14 : (decide (255 < c.key)) with _ | _
    rotate_left
    · exact sk_end _ _ (by kernel_rfl) HQ.out
    refine wl_val (v := .bool false) (by kernel_rfl) (by kernel_rfl) ?_
    simp only [Act.put, List.setIfInBounds_toArray, List.set_cons_zero, List.set_cons_succ]
    refine wl_val (v := .bool false) (by kernel_rfl) (by kernel_rfl) ?_
    simp only [Act.put, List.setIfInBounds_toArray, List.set_cons_zero, List.set_cons_succ]
    exfalso
    have h := HB.out
    unfold numB at h
    simp at h hb0 hb1 hb3 hb4 hb5 hb6 hb7 hb8 hb9 hb10 hb11 hb12 hb13 hb14 hm1 hm2
    omega
end Go.Proofs.Ytgjlibecgkhocaa

set_option linter.unusedVariables false
set_option linter.unusedSimpArgs false
namespace Go.Proofs.Ytgjlibecgkhocaa
open Go.RowKit Cfp
set_option maxRecDepth 1000000 in
set_option maxHeartbeats 1000000 in
theorem rconfig_cls (c : Cfg) (C T : Option Addr) (n k q j : Nat) (w : World) (hq : q = 16) (hb : numB c = true)
    (HCl : Hid (∀ W, Calls Try.prog 50 #[Value.agg #[.int .i64 c.length, .int .i64 c.lateness, .int .i64 c.windows, .int .i64 c.shards, .int .i64 c.spread, .int .i64 c.queue, .int .i64 c.mode, .int .i64 c.slots, .int .i64 c.exact_, .int .u64 c.promote, .int .i64 c.depth, .int .i64 c.width, .int .i64 c.top, .int .i64 c.key, .slice C n k, .slice T q j, .int .u64 c.seed]] W fun e w' => e = .returned (.int .i64 0) ∧ Keeps (fun _ => False) W w'))
    (HRo : Hid (∀ W, Calls Try.prog 15 #[Value.agg #[.int .i64 c.length, .int .i64 c.lateness, .int .i64 c.windows, .int .i64 c.shards, .int .i64 c.spread, .int .i64 c.queue, .int .i64 c.mode, .int .i64 c.slots, .int .i64 c.exact_, .int .u64 c.promote, .int .i64 c.depth, .int .i64 c.width, .int .i64 c.top, .int .i64 c.key, .slice C n k, .slice T q j, .int .u64 c.seed]] W fun e w' => e = .returned (.int .i64 0) ∧ Keeps (fun _ => False) W w')) (ce : Int)
    (HCs : Hid (∀ W, Keeps (fun _ => False) w W → Calls Try.prog 51 #[.slice C n k] W fun e w' => e = .returned (.int .i64 ce) ∧ Keeps (fun _ => False) W w')) (hce : ce ≠ 0) :
    Calls Try.prog 26 #[Value.agg #[.int .i64 c.length, .int .i64 c.lateness, .int .i64 c.windows, .int .i64 c.shards, .int .i64 c.spread, .int .i64 c.queue, .int .i64 c.mode, .int .i64 c.slots, .int .i64 c.exact_, .int .u64 c.promote, .int .i64 c.depth, .int .i64 c.width, .int .i64 c.top, .int .i64 c.key, .slice C n k, .slice T q j, .int .u64 c.seed]] w fun e w' => e = .returned (.int .i64 11) ∧ Keeps (fun _ => False) w w' := by
  subst hq
  have HB := hide hb
  clear hb
  have B0 := hide (Blk.new w 28 #[.int .i64 c.length, .int .i64 c.lateness, .int .i64 c.windows, .int .i64 c.shards, .int .i64 c.spread, .int .i64 c.queue, .int .i64 c.mode, .int .i64 c.slots, .int .i64 c.exact_, .int .u64 c.promote, .int .i64 c.depth, .int .i64 c.width, .int .i64 c.top, .int .i64 c.key, .slice C n k, .slice T 16 j, .int .u64 c.seed])
  have K0 := hide ((Keeps.refl (fun _ => False) w).alloc (.cells #[.int .i64 c.length, .int .i64 c.lateness, .int .i64 c.windows, .int .i64 c.shards, .int .i64 c.spread, .int .i64 c.queue, .int .i64 c.mode, .int .i64 c.slots, .int .i64 c.exact_, .int .u64 c.promote, .int .i64 c.depth, .int .i64 c.width, .int .i64 c.top, .int .i64 c.key, .slice C n k, .slice T 16 j, .int .u64 c.seed] 28))
  go_enter Try.func26, Try.ntmps26
  go_upto_region 1 with fail
  generalize w.alloc _ = w0 at *
  generalize w.heap.size = X at *
  refine wp_region_list ?_
  trace "LIST"
  refine cfg_ld (.tmp 1) rfl B0.out rfl (by kernel_rfl) ?_
  simp only [Act.put, List.setIfInBounds_toArray, List.set_cons_zero, List.set_cons_succ]
  trace "LD"
  refine wl_want rfl ?_
  go_simp
  refine (HCl.out _).mono ?_
  rintro e w1 ⟨rfl, kk⟩
  have K1 := hide (K0.out.trans kk)
  have B1 := hide (B0.out.kept kk (fun h => h))
  clear kk B0 K0 HCl
  dsimp only
  trace "CALL"
  refine wl_val (v := .bool false) rfl rfl ?_
  simp only [Act.put, List.setIfInBounds_toArray, List.set_cons_zero, List.set_cons_succ]
  refine wl_val rfl rfl ?_
  simp only [Act.put, List.setIfInBounds_toArray, List.set_cons_zero, List.set_cons_succ]
  refine cfg_ld (.tmp 1) rfl B1.out rfl (by kernel_rfl) ?_
  simp only [Act.put, List.setIfInBounds_toArray, List.set_cons_zero, List.set_cons_succ]
  refine wl_want rfl ?_
  go_simp
  refine (HRo.out _).mono ?_
  rintro e w2 ⟨rfl, kk⟩
  have K2 := hide (K1.out.trans kk)
  have B2 := hide (B1.out.kept kk (fun h => h))
  clear kk B1 K1 HRo
  dsimp only
  have f5 : w2.cell? ⟨X, 5, none⟩ = some (.int .i64 c.queue) := B2.out.cell 5
  have f6 : w2.cell? ⟨X, 6, none⟩ = some (.int .i64 c.mode) := B2.out.cell 6
  have f7 : w2.cell? ⟨X, 7, none⟩ = some (.int .i64 c.slots) := B2.out.cell 7
  have f8 : w2.cell? ⟨X, 8, none⟩ = some (.int .i64 c.exact_) := B2.out.cell 8
  have f10 : w2.cell? ⟨X, 10, none⟩ = some (.int .i64 c.depth) := B2.out.cell 10
  have f11 : w2.cell? ⟨X, 11, none⟩ = some (.int .i64 c.width) := B2.out.cell 11
  have f12 : w2.cell? ⟨X, 12, none⟩ = some (.int .i64 c.top) := B2.out.cell 12
  have f13 : w2.cell? ⟨X, 13, none⟩ = some (.int .i64 c.key) := B2.out.cell 13
  have f14 : w2.cell? ⟨X, 14, none⟩ = some (.slice C n k) := B2.out.cell 14
  generalize (Value.agg #[.int .i64 c.length, .int .i64 c.lateness, .int .i64 c.windows, .int .i64 c.shards, .int .i64 c.spread, .int .i64 c.queue, .int .i64 c.mode, .int .i64 c.slots, .int .i64 c.exact_, .int .u64 c.promote, .int .i64 c.depth, .int .i64 c.width, .int .i64 c.top, .int .i64 c.key, .slice C n k, .slice T 16 j, .int .u64 c.seed]) = V at *
  refine wl_val (v := .bool false) rfl rfl ?_
  simp only [Act.put, List.setIfInBounds_toArray, List.set_cons_zero, List.set_cons_succ]
  refine wl_val (v := .bool false) (by kernel_rfl) (by kernel_rfl) ?_
  simp only [Act.put, List.setIfInBounds_toArray, List.set_cons_zero, List.set_cons_succ]
  refine wl_val (v := .bool false) (by kernel_rfl) (by kernel_rfl) ?_
  simp only [Act.put, List.setIfInBounds_toArray, List.set_cons_zero, List.set_cons_succ]
  trace "S0"
  refine wl_val (v := .pointer (some ⟨X, 5, none⟩)) (by kernel_rfl) (by kernel_rfl) ?_
  simp only [Act.put, List.setIfInBounds_toArray, List.set_cons_zero, List.set_cons_succ]
  refine wl_ld rfl (by kernel_rfl) rfl f5 ?_
  simp only [Act.put, List.setIfInBounds_toArray, List.set_cons_zero, List.set_cons_succ]
  refine wl_val (v := .bool (decide (c.queue < 1))) (by kernel_rfl) (by kernel_rfl) ?_
  simp only [Act.put, List.setIfInBounds_toArray, List.set_cons_zero, List.set_cons_succ]
  rcases hb0 : (decide (c.queue < 1)) with _ | _
  rotate_left
  · exfalso
    have h := HB.out
    unfold numB at h
    simp at h hb0
    omega
  refine wl_val (v := .bool false) (by kernel_rfl) (by kernel_rfl) ?_
  simp only [Act.put, List.setIfInBounds_toArray, List.set_cons_zero, List.set_cons_succ]
  refine wl_val (v := .bool false) (by kernel_rfl) (by kernel_rfl) ?_
  simp only [Act.put, List.setIfInBounds_toArray, List.set_cons_zero, List.set_cons_succ]
  trace "S1"
  refine wl_val (v := .pointer (some ⟨X, 5, none⟩)) (by kernel_rfl) (by kernel_rfl) ?_
  simp only [Act.put, List.setIfInBounds_toArray, List.set_cons_zero, List.set_cons_succ]
  refine wl_ld rfl (by kernel_rfl) rfl f5 ?_
  simp only [Act.put, List.setIfInBounds_toArray, List.set_cons_zero, List.set_cons_succ]
  refine wl_val (v := .bool (decide (64 < c.queue))) (by kernel_rfl) (by kernel_rfl) ?_
  simp only [Act.put, List.setIfInBounds_toArray, List.set_cons_zero, List.set_cons_succ]
  rcases hb1 : (decide (64 < c.queue)) with _ | _
  rotate_left
  · exfalso
    have h := HB.out
    unfold numB at h
    simp at h hb1
    omega
  refine wl_val (v := .bool false) (by kernel_rfl) (by kernel_rfl) ?_
  simp only [Act.put, List.setIfInBounds_toArray, List.set_cons_zero, List.set_cons_succ]
  refine wl_val (v := .bool false) (by kernel_rfl) (by kernel_rfl) ?_
  simp only [Act.put, List.setIfInBounds_toArray, List.set_cons_zero, List.set_cons_succ]
  refine wl_val (v := .pointer (some ⟨X, 6, none⟩)) (by kernel_rfl) (by kernel_rfl) ?_
  simp only [Act.put, List.setIfInBounds_toArray, List.set_cons_zero, List.set_cons_succ]
  refine wl_ld rfl (by kernel_rfl) rfl f6 ?_
  simp only [Act.put, List.setIfInBounds_toArray, List.set_cons_zero, List.set_cons_succ]
  refine wl_val (v := .bool (c.mode != 1)) (by kernel_rfl) (by kernel_rfl) ?_
  simp only [Act.put, List.setIfInBounds_toArray, List.set_cons_zero, List.set_cons_succ]
  rcases hm1 : (c.mode != 1) with _ | _
  · refine wl_val (v := .bool false) (by kernel_rfl) (by kernel_rfl) ?_
    simp only [Act.put, List.setIfInBounds_toArray, List.set_cons_zero, List.set_cons_succ]
    refine wl_skip (by kernel_rfl) ?_
    simp only [Act.put, List.setIfInBounds_toArray, List.set_cons_zero, List.set_cons_succ]
    refine wl_skip (by kernel_rfl) ?_
    simp only [Act.put, List.setIfInBounds_toArray, List.set_cons_zero, List.set_cons_succ]
    refine wl_skip (by kernel_rfl) ?_
    simp only [Act.put, List.setIfInBounds_toArray, List.set_cons_zero, List.set_cons_succ]
    refine wl_val (v := .bool false) (by kernel_rfl) (by kernel_rfl) ?_
    simp only [Act.put, List.setIfInBounds_toArray, List.set_cons_zero, List.set_cons_succ]
    refine wl_val (v := .bool false) (by kernel_rfl) (by kernel_rfl) ?_
    simp only [Act.put, List.setIfInBounds_toArray, List.set_cons_zero, List.set_cons_succ]
    refine wl_val (v := .bool false) (by kernel_rfl) (by kernel_rfl) ?_
    simp only [Act.put, List.setIfInBounds_toArray, List.set_cons_zero, List.set_cons_succ]
    trace "M1"
    trace "S3"
    refine wl_val (v := .pointer (some ⟨X, 7, none⟩)) (by kernel_rfl) (by kernel_rfl) ?_
    simp only [Act.put, List.setIfInBounds_toArray, List.set_cons_zero, List.set_cons_succ]
    refine wl_ld rfl (by kernel_rfl) rfl f7 ?_
    simp only [Act.put, List.setIfInBounds_toArray, List.set_cons_zero, List.set_cons_succ]
    refine wl_val (v := .bool (decide (c.slots < 1))) (by kernel_rfl) (by kernel_rfl) ?_
    simp only [Act.put, List.setIfInBounds_toArray, List.set_cons_zero, List.set_cons_succ]
    rcases hb3 : (decide (c.slots < 1)) with _ | _
    rotate_left
    · exfalso
      have h := HB.out
      unfold numB at h
      simp at h hb3
      omega
    refine wl_val (v := .bool false) (by kernel_rfl) (by kernel_rfl) ?_
    simp only [Act.put, List.setIfInBounds_toArray, List.set_cons_zero, List.set_cons_succ]
    refine wl_val (v := .bool false) (by kernel_rfl) (by kernel_rfl) ?_
    simp only [Act.put, List.setIfInBounds_toArray, List.set_cons_zero, List.set_cons_succ]
    trace "S4"
    refine wl_val (v := .pointer (some ⟨X, 7, none⟩)) (by kernel_rfl) (by kernel_rfl) ?_
    simp only [Act.put, List.setIfInBounds_toArray, List.set_cons_zero, List.set_cons_succ]
    refine wl_ld rfl (by kernel_rfl) rfl f7 ?_
    simp only [Act.put, List.setIfInBounds_toArray, List.set_cons_zero, List.set_cons_succ]
    refine wl_val (v := .bool (decide (64 < c.slots))) (by kernel_rfl) (by kernel_rfl) ?_
    simp only [Act.put, List.setIfInBounds_toArray, List.set_cons_zero, List.set_cons_succ]
    rcases hb4 : (decide (64 < c.slots)) with _ | _
    rotate_left
    · exfalso
      have h := HB.out
      unfold numB at h
      simp at h hb4
      omega
    refine wl_val (v := .bool false) (by kernel_rfl) (by kernel_rfl) ?_
    simp only [Act.put, List.setIfInBounds_toArray, List.set_cons_zero, List.set_cons_succ]
    refine wl_val (v := .bool false) (by kernel_rfl) (by kernel_rfl) ?_
    simp only [Act.put, List.setIfInBounds_toArray, List.set_cons_zero, List.set_cons_succ]
    trace "S5"
    refine wl_val (v := .pointer (some ⟨X, 8, none⟩)) (by kernel_rfl) (by kernel_rfl) ?_
    simp only [Act.put, List.setIfInBounds_toArray, List.set_cons_zero, List.set_cons_succ]
    refine wl_ld rfl (by kernel_rfl) rfl f8 ?_
    simp only [Act.put, List.setIfInBounds_toArray, List.set_cons_zero, List.set_cons_succ]
    refine wl_val (v := .bool (decide (c.exact_ < 0))) (by kernel_rfl) (by kernel_rfl) ?_
    simp only [Act.put, List.setIfInBounds_toArray, List.set_cons_zero, List.set_cons_succ]
    rcases hb5 : (decide (c.exact_ < 0)) with _ | _
    rotate_left
    · exfalso
      have h := HB.out
      unfold numB at h
      simp at h hb5
      omega
    refine wl_val (v := .bool false) (by kernel_rfl) (by kernel_rfl) ?_
    simp only [Act.put, List.setIfInBounds_toArray, List.set_cons_zero, List.set_cons_succ]
    refine wl_val (v := .bool false) (by kernel_rfl) (by kernel_rfl) ?_
    simp only [Act.put, List.setIfInBounds_toArray, List.set_cons_zero, List.set_cons_succ]
    trace "S6"
    refine wl_val (v := .pointer (some ⟨X, 8, none⟩)) (by kernel_rfl) (by kernel_rfl) ?_
    simp only [Act.put, List.setIfInBounds_toArray, List.set_cons_zero, List.set_cons_succ]
    refine wl_ld rfl (by kernel_rfl) rfl f8 ?_
    simp only [Act.put, List.setIfInBounds_toArray, List.set_cons_zero, List.set_cons_succ]
    refine wl_val (v := .bool (decide (32 < c.exact_))) (by kernel_rfl) (by kernel_rfl) ?_
    simp only [Act.put, List.setIfInBounds_toArray, List.set_cons_zero, List.set_cons_succ]
    rcases hb6 : (decide (32 < c.exact_)) with _ | _
    rotate_left
    · exfalso
      have h := HB.out
      unfold numB at h
      simp at h hb6
      omega
    refine wl_val (v := .bool false) (by kernel_rfl) (by kernel_rfl) ?_
    simp only [Act.put, List.setIfInBounds_toArray, List.set_cons_zero, List.set_cons_succ]
    refine wl_val (v := .bool false) (by kernel_rfl) (by kernel_rfl) ?_
    simp only [Act.put, List.setIfInBounds_toArray, List.set_cons_zero, List.set_cons_succ]
    trace "S7"
    refine wl_val (v := .pointer (some ⟨X, 10, none⟩)) (by kernel_rfl) (by kernel_rfl) ?_
    simp only [Act.put, List.setIfInBounds_toArray, List.set_cons_zero, List.set_cons_succ]
    refine wl_ld rfl (by kernel_rfl) rfl f10 ?_
    simp only [Act.put, List.setIfInBounds_toArray, List.set_cons_zero, List.set_cons_succ]
    refine wl_val (v := .bool (decide (c.depth < 1))) (by kernel_rfl) (by kernel_rfl) ?_
    simp only [Act.put, List.setIfInBounds_toArray, List.set_cons_zero, List.set_cons_succ]
    rcases hb7 : (decide (c.depth < 1)) with _ | _
    rotate_left
    · exfalso
      have h := HB.out
      unfold numB at h
      simp at h hb7
      omega
    refine wl_val (v := .bool false) (by kernel_rfl) (by kernel_rfl) ?_
    simp only [Act.put, List.setIfInBounds_toArray, List.set_cons_zero, List.set_cons_succ]
    refine wl_val (v := .bool false) (by kernel_rfl) (by kernel_rfl) ?_
    simp only [Act.put, List.setIfInBounds_toArray, List.set_cons_zero, List.set_cons_succ]
    trace "S8"
    refine wl_val (v := .pointer (some ⟨X, 10, none⟩)) (by kernel_rfl) (by kernel_rfl) ?_
    simp only [Act.put, List.setIfInBounds_toArray, List.set_cons_zero, List.set_cons_succ]
    refine wl_ld rfl (by kernel_rfl) rfl f10 ?_
    simp only [Act.put, List.setIfInBounds_toArray, List.set_cons_zero, List.set_cons_succ]
    refine wl_val (v := .bool (decide (4 < c.depth))) (by kernel_rfl) (by kernel_rfl) ?_
    simp only [Act.put, List.setIfInBounds_toArray, List.set_cons_zero, List.set_cons_succ]
    rcases hb8 : (decide (4 < c.depth)) with _ | _
    rotate_left
    · exfalso
      have h := HB.out
      unfold numB at h
      simp at h hb8
      omega
    refine wl_val (v := .bool false) (by kernel_rfl) (by kernel_rfl) ?_
    simp only [Act.put, List.setIfInBounds_toArray, List.set_cons_zero, List.set_cons_succ]
    refine wl_val (v := .bool false) (by kernel_rfl) (by kernel_rfl) ?_
    simp only [Act.put, List.setIfInBounds_toArray, List.set_cons_zero, List.set_cons_succ]
    trace "S9"
    refine wl_val (v := .pointer (some ⟨X, 11, none⟩)) (by kernel_rfl) (by kernel_rfl) ?_
    simp only [Act.put, List.setIfInBounds_toArray, List.set_cons_zero, List.set_cons_succ]
    refine wl_ld rfl (by kernel_rfl) rfl f11 ?_
    simp only [Act.put, List.setIfInBounds_toArray, List.set_cons_zero, List.set_cons_succ]
    refine wl_val (v := .bool (decide (c.width < 1))) (by kernel_rfl) (by kernel_rfl) ?_
    simp only [Act.put, List.setIfInBounds_toArray, List.set_cons_zero, List.set_cons_succ]
    rcases hb9 : (decide (c.width < 1)) with _ | _
    rotate_left
    · exfalso
      have h := HB.out
      unfold numB at h
      simp at h hb9
      omega
    refine wl_val (v := .bool false) (by kernel_rfl) (by kernel_rfl) ?_
    simp only [Act.put, List.setIfInBounds_toArray, List.set_cons_zero, List.set_cons_succ]
    refine wl_val (v := .bool false) (by kernel_rfl) (by kernel_rfl) ?_
    simp only [Act.put, List.setIfInBounds_toArray, List.set_cons_zero, List.set_cons_succ]
    trace "S10"
    refine wl_val (v := .pointer (some ⟨X, 11, none⟩)) (by kernel_rfl) (by kernel_rfl) ?_
    simp only [Act.put, List.setIfInBounds_toArray, List.set_cons_zero, List.set_cons_succ]
    refine wl_ld rfl (by kernel_rfl) rfl f11 ?_
    simp only [Act.put, List.setIfInBounds_toArray, List.set_cons_zero, List.set_cons_succ]
    refine wl_val (v := .bool (decide (256 < c.width))) (by kernel_rfl) (by kernel_rfl) ?_
    simp only [Act.put, List.setIfInBounds_toArray, List.set_cons_zero, List.set_cons_succ]
    rcases hb10 : (decide (256 < c.width)) with _ | _
    rotate_left
    · exfalso
      have h := HB.out
      unfold numB at h
      simp at h hb10
      omega
    refine wl_val (v := .bool false) (by kernel_rfl) (by kernel_rfl) ?_
    simp only [Act.put, List.setIfInBounds_toArray, List.set_cons_zero, List.set_cons_succ]
    refine wl_val (v := .bool false) (by kernel_rfl) (by kernel_rfl) ?_
    simp only [Act.put, List.setIfInBounds_toArray, List.set_cons_zero, List.set_cons_succ]
    trace "S11"
    refine wl_val (v := .pointer (some ⟨X, 12, none⟩)) (by kernel_rfl) (by kernel_rfl) ?_
    simp only [Act.put, List.setIfInBounds_toArray, List.set_cons_zero, List.set_cons_succ]
    refine wl_ld rfl (by kernel_rfl) rfl f12 ?_
    simp only [Act.put, List.setIfInBounds_toArray, List.set_cons_zero, List.set_cons_succ]
    refine wl_val (v := .bool (decide (c.top < 1))) (by kernel_rfl) (by kernel_rfl) ?_
    simp only [Act.put, List.setIfInBounds_toArray, List.set_cons_zero, List.set_cons_succ]
    rcases hb11 : (decide (c.top < 1)) with _ | _
    rotate_left
    · exfalso
      have h := HB.out
      unfold numB at h
      simp at h hb11
      omega
    refine wl_val (v := .bool false) (by kernel_rfl) (by kernel_rfl) ?_
    simp only [Act.put, List.setIfInBounds_toArray, List.set_cons_zero, List.set_cons_succ]
    refine wl_val (v := .bool false) (by kernel_rfl) (by kernel_rfl) ?_
    simp only [Act.put, List.setIfInBounds_toArray, List.set_cons_zero, List.set_cons_succ]
    trace "S12"
    refine wl_val (v := .pointer (some ⟨X, 12, none⟩)) (by kernel_rfl) (by kernel_rfl) ?_
    simp only [Act.put, List.setIfInBounds_toArray, List.set_cons_zero, List.set_cons_succ]
    refine wl_ld rfl (by kernel_rfl) rfl f12 ?_
    simp only [Act.put, List.setIfInBounds_toArray, List.set_cons_zero, List.set_cons_succ]
    refine wl_val (v := .bool (decide (64 < c.top))) (by kernel_rfl) (by kernel_rfl) ?_
    simp only [Act.put, List.setIfInBounds_toArray, List.set_cons_zero, List.set_cons_succ]
    rcases hb12 : (decide (64 < c.top)) with _ | _
    rotate_left
    · exfalso
      have h := HB.out
      unfold numB at h
      simp at h hb12
      omega
    refine wl_val (v := .bool false) (by kernel_rfl) (by kernel_rfl) ?_
    simp only [Act.put, List.setIfInBounds_toArray, List.set_cons_zero, List.set_cons_succ]
    refine wl_val (v := .bool false) (by kernel_rfl) (by kernel_rfl) ?_
    simp only [Act.put, List.setIfInBounds_toArray, List.set_cons_zero, List.set_cons_succ]
    trace "S13"
    refine wl_val (v := .pointer (some ⟨X, 13, none⟩)) (by kernel_rfl) (by kernel_rfl) ?_
    simp only [Act.put, List.setIfInBounds_toArray, List.set_cons_zero, List.set_cons_succ]
    refine wl_ld rfl (by kernel_rfl) rfl f13 ?_
    simp only [Act.put, List.setIfInBounds_toArray, List.set_cons_zero, List.set_cons_succ]
    refine wl_val (v := .bool (decide (c.key < 1))) (by kernel_rfl) (by kernel_rfl) ?_
    simp only [Act.put, List.setIfInBounds_toArray, List.set_cons_zero, List.set_cons_succ]
    rcases hb13 : (decide (c.key < 1)) with _ | _
    rotate_left
    · exfalso
      have h := HB.out
      unfold numB at h
      simp at h hb13
      omega
    refine wl_val (v := .bool false) (by kernel_rfl) (by kernel_rfl) ?_
    simp only [Act.put, List.setIfInBounds_toArray, List.set_cons_zero, List.set_cons_succ]
    refine wl_val (v := .bool false) (by kernel_rfl) (by kernel_rfl) ?_
    simp only [Act.put, List.setIfInBounds_toArray, List.set_cons_zero, List.set_cons_succ]
    trace "S14"
    refine wl_val (v := .pointer (some ⟨X, 13, none⟩)) (by kernel_rfl) (by kernel_rfl) ?_
    simp only [Act.put, List.setIfInBounds_toArray, List.set_cons_zero, List.set_cons_succ]
    refine wl_ld rfl (by kernel_rfl) rfl f13 ?_
    simp only [Act.put, List.setIfInBounds_toArray, List.set_cons_zero, List.set_cons_succ]
    refine wl_val (v := .bool (decide (255 < c.key))) (by kernel_rfl) (by kernel_rfl) ?_
    simp only [Act.put, List.setIfInBounds_toArray, List.set_cons_zero, List.set_cons_succ]
    rcases hb14 : (decide (255 < c.key)) with _ | _
    rotate_left
    · exfalso
      have h := HB.out
      unfold numB at h
      simp at h hb14
      omega
    refine wl_val (v := .bool false) (by kernel_rfl) (by kernel_rfl) ?_
    simp only [Act.put, List.setIfInBounds_toArray, List.set_cons_zero, List.set_cons_succ]
    refine wl_val (v := .bool false) (by kernel_rfl) (by kernel_rfl) ?_
    simp only [Act.put, List.setIfInBounds_toArray, List.set_cons_zero, List.set_cons_succ]
    refine wl_val (v := .pointer (some ⟨X, 14, none⟩)) (by kernel_rfl) (by kernel_rfl) ?_
    simp only [Act.put, List.setIfInBounds_toArray, List.set_cons_zero, List.set_cons_succ]
    refine wl_ldC rfl (by kernel_rfl) rfl f14 ?_
    simp only [Act.put, List.setIfInBounds_toArray, List.set_cons_zero, List.set_cons_succ]
    refine wl_want rfl ?_
    go_simp
    refine (HCs.out _ K2.out).mono ?_
    rintro e w3 ⟨rfl, kk⟩
    have K3 := hide (K2.out.trans kk)
    have B3 := hide (B2.out.kept kk (fun h => h))
    clear kk B2 K2 HCs
    dsimp only
    trace "CLS"
    refine wl_val (v := .bool (ce != 0)) (by kernel_rfl) (by kernel_rfl) ?_
    simp only [Act.put, List.setIfInBounds_toArray, List.set_cons_zero, List.set_cons_succ]
    rcases hx : (ce != 0) with _ | _
    · exact absurd hx (by simp [hce])
    refine wl_with (N := 115) (i := 97) (v := .bool true) ?_ (fun HQ => ?_)
    · intro tm hs hv
      clear HB B3
      go_wp2_with fail
      refine wp_cond_true (by simp only [Act.eval]; exact hv) ?_
      go_wp2_with fail
      refine bodyPost_ret (v := .int .i64 11) (by simp [results, Try.results26, go_sem, hs]) rfl ⟨rfl, K3.out⟩
    exact sk_end _ _ (by kernel_rfl) HQ.out
  · refine wl_val (v := .bool true) (by kernel_rfl) (by kernel_rfl) ?_
    simp only [Act.put, List.setIfInBounds_toArray, List.set_cons_zero, List.set_cons_succ]
    refine wl_val (v := .pointer (some ⟨X, 6, none⟩)) (by kernel_rfl) (by kernel_rfl) ?_
    simp only [Act.put, List.setIfInBounds_toArray, List.set_cons_zero, List.set_cons_succ]
    refine wl_ld rfl (by kernel_rfl) rfl f6 ?_
    simp only [Act.put, List.setIfInBounds_toArray, List.set_cons_zero, List.set_cons_succ]
    refine wl_val (v := .bool (c.mode != 2)) (by kernel_rfl) (by kernel_rfl) ?_
    simp only [Act.put, List.setIfInBounds_toArray, List.set_cons_zero, List.set_cons_succ]
    rcases hm2 : (c.mode != 2) with _ | _
    rotate_left
    · exfalso
      have h := HB.out
      unfold numB at h
      simp at h hm1 hm2
      omega
    refine wl_val (v := .bool false) (by kernel_rfl) (by kernel_rfl) ?_
    simp only [Act.put, List.setIfInBounds_toArray, List.set_cons_zero, List.set_cons_succ]
    refine wl_val (v := .bool false) (by kernel_rfl) (by kernel_rfl) ?_
    simp only [Act.put, List.setIfInBounds_toArray, List.set_cons_zero, List.set_cons_succ]
    refine wl_val (v := .bool false) (by kernel_rfl) (by kernel_rfl) ?_
    simp only [Act.put, List.setIfInBounds_toArray, List.set_cons_zero, List.set_cons_succ]
    trace "M2"
    trace "S3"
    refine wl_val (v := .pointer (some ⟨X, 7, none⟩)) (by kernel_rfl) (by kernel_rfl) ?_
    simp only [Act.put, List.setIfInBounds_toArray, List.set_cons_zero, List.set_cons_succ]
    refine wl_ld rfl (by kernel_rfl) rfl f7 ?_
    simp only [Act.put, List.setIfInBounds_toArray, List.set_cons_zero, List.set_cons_succ]
    refine wl_val (v := .bool (decide (c.slots < 1))) (by kernel_rfl) (by kernel_rfl) ?_
    simp only [Act.put, List.setIfInBounds_toArray, List.set_cons_zero, List.set_cons_succ]
    rcases hb3 : (decide (c.slots < 1)) with _ | _
    rotate_left
    · exfalso
      have h := HB.out
      unfold numB at h
      simp at h hb3
      omega
    refine wl_val (v := .bool false) (by kernel_rfl) (by kernel_rfl) ?_
    simp only [Act.put, List.setIfInBounds_toArray, List.set_cons_zero, List.set_cons_succ]
    refine wl_val (v := .bool false) (by kernel_rfl) (by kernel_rfl) ?_
    simp only [Act.put, List.setIfInBounds_toArray, List.set_cons_zero, List.set_cons_succ]
    trace "S4"
    refine wl_val (v := .pointer (some ⟨X, 7, none⟩)) (by kernel_rfl) (by kernel_rfl) ?_
    simp only [Act.put, List.setIfInBounds_toArray, List.set_cons_zero, List.set_cons_succ]
    refine wl_ld rfl (by kernel_rfl) rfl f7 ?_
    simp only [Act.put, List.setIfInBounds_toArray, List.set_cons_zero, List.set_cons_succ]
    refine wl_val (v := .bool (decide (64 < c.slots))) (by kernel_rfl) (by kernel_rfl) ?_
    simp only [Act.put, List.setIfInBounds_toArray, List.set_cons_zero, List.set_cons_succ]
    rcases hb4 : (decide (64 < c.slots)) with _ | _
    rotate_left
    · exfalso
      have h := HB.out
      unfold numB at h
      simp at h hb4
      omega
    refine wl_val (v := .bool false) (by kernel_rfl) (by kernel_rfl) ?_
    simp only [Act.put, List.setIfInBounds_toArray, List.set_cons_zero, List.set_cons_succ]
    refine wl_val (v := .bool false) (by kernel_rfl) (by kernel_rfl) ?_
    simp only [Act.put, List.setIfInBounds_toArray, List.set_cons_zero, List.set_cons_succ]
    trace "S5"
    refine wl_val (v := .pointer (some ⟨X, 8, none⟩)) (by kernel_rfl) (by kernel_rfl) ?_
    simp only [Act.put, List.setIfInBounds_toArray, List.set_cons_zero, List.set_cons_succ]
    refine wl_ld rfl (by kernel_rfl) rfl f8 ?_
    simp only [Act.put, List.setIfInBounds_toArray, List.set_cons_zero, List.set_cons_succ]
    refine wl_val (v := .bool (decide (c.exact_ < 0))) (by kernel_rfl) (by kernel_rfl) ?_
    simp only [Act.put, List.setIfInBounds_toArray, List.set_cons_zero, List.set_cons_succ]
    rcases hb5 : (decide (c.exact_ < 0)) with _ | _
    rotate_left
    · exfalso
      have h := HB.out
      unfold numB at h
      simp at h hb5
      omega
    refine wl_val (v := .bool false) (by kernel_rfl) (by kernel_rfl) ?_
    simp only [Act.put, List.setIfInBounds_toArray, List.set_cons_zero, List.set_cons_succ]
    refine wl_val (v := .bool false) (by kernel_rfl) (by kernel_rfl) ?_
    simp only [Act.put, List.setIfInBounds_toArray, List.set_cons_zero, List.set_cons_succ]
    trace "S6"
    refine wl_val (v := .pointer (some ⟨X, 8, none⟩)) (by kernel_rfl) (by kernel_rfl) ?_
    simp only [Act.put, List.setIfInBounds_toArray, List.set_cons_zero, List.set_cons_succ]
    refine wl_ld rfl (by kernel_rfl) rfl f8 ?_
    simp only [Act.put, List.setIfInBounds_toArray, List.set_cons_zero, List.set_cons_succ]
    refine wl_val (v := .bool (decide (32 < c.exact_))) (by kernel_rfl) (by kernel_rfl) ?_
    simp only [Act.put, List.setIfInBounds_toArray, List.set_cons_zero, List.set_cons_succ]
    rcases hb6 : (decide (32 < c.exact_)) with _ | _
    rotate_left
    · exfalso
      have h := HB.out
      unfold numB at h
      simp at h hb6
      omega
    refine wl_val (v := .bool false) (by kernel_rfl) (by kernel_rfl) ?_
    simp only [Act.put, List.setIfInBounds_toArray, List.set_cons_zero, List.set_cons_succ]
    refine wl_val (v := .bool false) (by kernel_rfl) (by kernel_rfl) ?_
    simp only [Act.put, List.setIfInBounds_toArray, List.set_cons_zero, List.set_cons_succ]
    trace "S7"
    refine wl_val (v := .pointer (some ⟨X, 10, none⟩)) (by kernel_rfl) (by kernel_rfl) ?_
    simp only [Act.put, List.setIfInBounds_toArray, List.set_cons_zero, List.set_cons_succ]
    refine wl_ld rfl (by kernel_rfl) rfl f10 ?_
    simp only [Act.put, List.setIfInBounds_toArray, List.set_cons_zero, List.set_cons_succ]
    refine wl_val (v := .bool (decide (c.depth < 1))) (by kernel_rfl) (by kernel_rfl) ?_
    simp only [Act.put, List.setIfInBounds_toArray, List.set_cons_zero, List.set_cons_succ]
    rcases hb7 : (decide (c.depth < 1)) with _ | _
    rotate_left
    · exfalso
      have h := HB.out
      unfold numB at h
      simp at h hb7
      omega
    refine wl_val (v := .bool false) (by kernel_rfl) (by kernel_rfl) ?_
    simp only [Act.put, List.setIfInBounds_toArray, List.set_cons_zero, List.set_cons_succ]
    refine wl_val (v := .bool false) (by kernel_rfl) (by kernel_rfl) ?_
    simp only [Act.put, List.setIfInBounds_toArray, List.set_cons_zero, List.set_cons_succ]
    trace "S8"
    refine wl_val (v := .pointer (some ⟨X, 10, none⟩)) (by kernel_rfl) (by kernel_rfl) ?_
    simp only [Act.put, List.setIfInBounds_toArray, List.set_cons_zero, List.set_cons_succ]
    refine wl_ld rfl (by kernel_rfl) rfl f10 ?_
    simp only [Act.put, List.setIfInBounds_toArray, List.set_cons_zero, List.set_cons_succ]
    refine wl_val (v := .bool (decide (4 < c.depth))) (by kernel_rfl) (by kernel_rfl) ?_
    simp only [Act.put, List.setIfInBounds_toArray, List.set_cons_zero, List.set_cons_succ]
    rcases hb8 : (decide (4 < c.depth)) with _ | _
    rotate_left
    · exfalso
      have h := HB.out
      unfold numB at h
      simp at h hb8
      omega
    refine wl_val (v := .bool false) (by kernel_rfl) (by kernel_rfl) ?_
    simp only [Act.put, List.setIfInBounds_toArray, List.set_cons_zero, List.set_cons_succ]
    refine wl_val (v := .bool false) (by kernel_rfl) (by kernel_rfl) ?_
    simp only [Act.put, List.setIfInBounds_toArray, List.set_cons_zero, List.set_cons_succ]
    trace "S9"
    refine wl_val (v := .pointer (some ⟨X, 11, none⟩)) (by kernel_rfl) (by kernel_rfl) ?_
    simp only [Act.put, List.setIfInBounds_toArray, List.set_cons_zero, List.set_cons_succ]
    refine wl_ld rfl (by kernel_rfl) rfl f11 ?_
    simp only [Act.put, List.setIfInBounds_toArray, List.set_cons_zero, List.set_cons_succ]
    refine wl_val (v := .bool (decide (c.width < 1))) (by kernel_rfl) (by kernel_rfl) ?_
    simp only [Act.put, List.setIfInBounds_toArray, List.set_cons_zero, List.set_cons_succ]
    rcases hb9 : (decide (c.width < 1)) with _ | _
    rotate_left
    · exfalso
      have h := HB.out
      unfold numB at h
      simp at h hb9
      omega
    refine wl_val (v := .bool false) (by kernel_rfl) (by kernel_rfl) ?_
    simp only [Act.put, List.setIfInBounds_toArray, List.set_cons_zero, List.set_cons_succ]
    refine wl_val (v := .bool false) (by kernel_rfl) (by kernel_rfl) ?_
    simp only [Act.put, List.setIfInBounds_toArray, List.set_cons_zero, List.set_cons_succ]
    trace "S10"
    refine wl_val (v := .pointer (some ⟨X, 11, none⟩)) (by kernel_rfl) (by kernel_rfl) ?_
    simp only [Act.put, List.setIfInBounds_toArray, List.set_cons_zero, List.set_cons_succ]
    refine wl_ld rfl (by kernel_rfl) rfl f11 ?_
    simp only [Act.put, List.setIfInBounds_toArray, List.set_cons_zero, List.set_cons_succ]
    refine wl_val (v := .bool (decide (256 < c.width))) (by kernel_rfl) (by kernel_rfl) ?_
    simp only [Act.put, List.setIfInBounds_toArray, List.set_cons_zero, List.set_cons_succ]
    rcases hb10 : (decide (256 < c.width)) with _ | _
    rotate_left
    · exfalso
      have h := HB.out
      unfold numB at h
      simp at h hb10
      omega
    refine wl_val (v := .bool false) (by kernel_rfl) (by kernel_rfl) ?_
    simp only [Act.put, List.setIfInBounds_toArray, List.set_cons_zero, List.set_cons_succ]
    refine wl_val (v := .bool false) (by kernel_rfl) (by kernel_rfl) ?_
    simp only [Act.put, List.setIfInBounds_toArray, List.set_cons_zero, List.set_cons_succ]
    trace "S11"
    refine wl_val (v := .pointer (some ⟨X, 12, none⟩)) (by kernel_rfl) (by kernel_rfl) ?_
    simp only [Act.put, List.setIfInBounds_toArray, List.set_cons_zero, List.set_cons_succ]
    refine wl_ld rfl (by kernel_rfl) rfl f12 ?_
    simp only [Act.put, List.setIfInBounds_toArray, List.set_cons_zero, List.set_cons_succ]
    refine wl_val (v := .bool (decide (c.top < 1))) (by kernel_rfl) (by kernel_rfl) ?_
    simp only [Act.put, List.setIfInBounds_toArray, List.set_cons_zero, List.set_cons_succ]
    rcases hb11 : (decide (c.top < 1)) with _ | _
    rotate_left
    · exfalso
      have h := HB.out
      unfold numB at h
      simp at h hb11
      omega
    refine wl_val (v := .bool false) (by kernel_rfl) (by kernel_rfl) ?_
    simp only [Act.put, List.setIfInBounds_toArray, List.set_cons_zero, List.set_cons_succ]
    refine wl_val (v := .bool false) (by kernel_rfl) (by kernel_rfl) ?_
    simp only [Act.put, List.setIfInBounds_toArray, List.set_cons_zero, List.set_cons_succ]
    trace "S12"
    refine wl_val (v := .pointer (some ⟨X, 12, none⟩)) (by kernel_rfl) (by kernel_rfl) ?_
    simp only [Act.put, List.setIfInBounds_toArray, List.set_cons_zero, List.set_cons_succ]
    refine wl_ld rfl (by kernel_rfl) rfl f12 ?_
    simp only [Act.put, List.setIfInBounds_toArray, List.set_cons_zero, List.set_cons_succ]
    refine wl_val (v := .bool (decide (64 < c.top))) (by kernel_rfl) (by kernel_rfl) ?_
    simp only [Act.put, List.setIfInBounds_toArray, List.set_cons_zero, List.set_cons_succ]
    rcases hb12 : (decide (64 < c.top)) with _ | _
    rotate_left
    · exfalso
      have h := HB.out
      unfold numB at h
      simp at h hb12
      omega
    refine wl_val (v := .bool false) (by kernel_rfl) (by kernel_rfl) ?_
    simp only [Act.put, List.setIfInBounds_toArray, List.set_cons_zero, List.set_cons_succ]
    refine wl_val (v := .bool false) (by kernel_rfl) (by kernel_rfl) ?_
    simp only [Act.put, List.setIfInBounds_toArray, List.set_cons_zero, List.set_cons_succ]
    trace "S13"
    refine wl_val (v := .pointer (some ⟨X, 13, none⟩)) (by kernel_rfl) (by kernel_rfl) ?_
    simp only [Act.put, List.setIfInBounds_toArray, List.set_cons_zero, List.set_cons_succ]
    refine wl_ld rfl (by kernel_rfl) rfl f13 ?_
    simp only [Act.put, List.setIfInBounds_toArray, List.set_cons_zero, List.set_cons_succ]
    refine wl_val (v := .bool (decide (c.key < 1))) (by kernel_rfl) (by kernel_rfl) ?_
    simp only [Act.put, List.setIfInBounds_toArray, List.set_cons_zero, List.set_cons_succ]
    rcases hb13 : (decide (c.key < 1)) with _ | _
    rotate_left
    · exfalso
      have h := HB.out
      unfold numB at h
      simp at h hb13
      omega
    refine wl_val (v := .bool false) (by kernel_rfl) (by kernel_rfl) ?_
    simp only [Act.put, List.setIfInBounds_toArray, List.set_cons_zero, List.set_cons_succ]
    refine wl_val (v := .bool false) (by kernel_rfl) (by kernel_rfl) ?_
    simp only [Act.put, List.setIfInBounds_toArray, List.set_cons_zero, List.set_cons_succ]
    trace "S14"
    refine wl_val (v := .pointer (some ⟨X, 13, none⟩)) (by kernel_rfl) (by kernel_rfl) ?_
    simp only [Act.put, List.setIfInBounds_toArray, List.set_cons_zero, List.set_cons_succ]
    refine wl_ld rfl (by kernel_rfl) rfl f13 ?_
    simp only [Act.put, List.setIfInBounds_toArray, List.set_cons_zero, List.set_cons_succ]
    refine wl_val (v := .bool (decide (255 < c.key))) (by kernel_rfl) (by kernel_rfl) ?_
    simp only [Act.put, List.setIfInBounds_toArray, List.set_cons_zero, List.set_cons_succ]
    rcases hb14 : (decide (255 < c.key)) with _ | _
    rotate_left
    · exfalso
      have h := HB.out
      unfold numB at h
      simp at h hb14
      omega
    refine wl_val (v := .bool false) (by kernel_rfl) (by kernel_rfl) ?_
    simp only [Act.put, List.setIfInBounds_toArray, List.set_cons_zero, List.set_cons_succ]
    refine wl_val (v := .bool false) (by kernel_rfl) (by kernel_rfl) ?_
    simp only [Act.put, List.setIfInBounds_toArray, List.set_cons_zero, List.set_cons_succ]
    refine wl_val (v := .pointer (some ⟨X, 14, none⟩)) (by kernel_rfl) (by kernel_rfl) ?_
    simp only [Act.put, List.setIfInBounds_toArray, List.set_cons_zero, List.set_cons_succ]
    refine wl_ldC rfl (by kernel_rfl) rfl f14 ?_
    simp only [Act.put, List.setIfInBounds_toArray, List.set_cons_zero, List.set_cons_succ]
    refine wl_want rfl ?_
    go_simp
    refine (HCs.out _ K2.out).mono ?_
    rintro e w3 ⟨rfl, kk⟩
    have K3 := hide (K2.out.trans kk)
    have B3 := hide (B2.out.kept kk (fun h => h))
    clear kk B2 K2 HCs
    dsimp only
    trace "CLS"
    refine wl_val (v := .bool (ce != 0)) (by kernel_rfl) (by kernel_rfl) ?_
    simp only [Act.put, List.setIfInBounds_toArray, List.set_cons_zero, List.set_cons_succ]
    rcases hx : (ce != 0) with _ | _
    · exact absurd hx (by simp [hce])
    refine wl_with (N := 115) (i := 97) (v := .bool true) ?_ (fun HQ => ?_)
    · intro tm hs hv
      clear HB B3
      go_wp2_with fail
      refine wp_cond_true (by simp only [Act.eval]; exact hv) ?_
      go_wp2_with fail
      refine bodyPost_ret (v := .int .i64 11) (by simp [results, Try.results26, go_sem, hs]) rfl ⟨rfl, K3.out⟩
    exact sk_end _ _ (by kernel_rfl) HQ.out
end Go.Proofs.Ytgjlibecgkhocaa

set_option linter.unusedVariables false
set_option linter.unusedSimpArgs false
namespace Go.Proofs.Ytgjlibecgkhocaa
open Go.RowKit Cfp
set_option maxRecDepth 1000000 in
set_option maxHeartbeats 1000000 in
theorem rconfig_room (c : Cfg) (C T : Option Addr) (n k q j : Nat) (w : World) (hq : q = 16) (hb : numB c = true)
    (HCl : Hid (∀ W, Calls Try.prog 50 #[Value.agg #[.int .i64 c.length, .int .i64 c.lateness, .int .i64 c.windows, .int .i64 c.shards, .int .i64 c.spread, .int .i64 c.queue, .int .i64 c.mode, .int .i64 c.slots, .int .i64 c.exact_, .int .u64 c.promote, .int .i64 c.depth, .int .i64 c.width, .int .i64 c.top, .int .i64 c.key, .slice C n k, .slice T q j, .int .u64 c.seed]] W fun e w' => e = .returned (.int .i64 0) ∧ Keeps (fun _ => False) W w'))
    (HRo : Hid (∀ W, Calls Try.prog 15 #[Value.agg #[.int .i64 c.length, .int .i64 c.lateness, .int .i64 c.windows, .int .i64 c.shards, .int .i64 c.spread, .int .i64 c.queue, .int .i64 c.mode, .int .i64 c.slots, .int .i64 c.exact_, .int .u64 c.promote, .int .i64 c.depth, .int .i64 c.width, .int .i64 c.top, .int .i64 c.key, .slice C n k, .slice T q j, .int .u64 c.seed]] W fun e w' => e = .returned (.int .i64 0) ∧ Keeps (fun _ => False) W w'))
    (HCs : Hid (∀ W, Keeps (fun _ => False) w W → Calls Try.prog 51 #[.slice C n k] W fun e w' => e = .returned (.int .i64 0) ∧ Keeps (fun _ => False) W w')) (l : List (Int × Int)) (h4 : classesE l = 0) (hm : lastSize l < most c) (h6 : 1 ≤ c.width ∧ c.width ≤ 256) (B : Nat) (hr : Rd w B C 2 n (prs l)) :
    Calls Try.prog 26 #[Value.agg #[.int .i64 c.length, .int .i64 c.lateness, .int .i64 c.windows, .int .i64 c.shards, .int .i64 c.spread, .int .i64 c.queue, .int .i64 c.mode, .int .i64 c.slots, .int .i64 c.exact_, .int .u64 c.promote, .int .i64 c.depth, .int .i64 c.width, .int .i64 c.top, .int .i64 c.key, .slice C n k, .slice T q j, .int .u64 c.seed]] w fun e w' => e = .returned (.int .i64 4) ∧ Keeps (fun _ => False) w w' := by
  have hlen : l.length = n := by have := hr.1; rw [prs_len] at this; omega
  obtain ⟨⟨n0, n1⟩, hb'⟩ := classes_bd l h4
  obtain ⟨p, rfl⟩ : ∃ p, n = p + 1 := ⟨n - 1, by omega⟩
  obtain ⟨d, hd⟩ : ∃ d, l[p]? = some d := ⟨l[p]'(by omega), List.getElem?_eq_getElem _⟩
  have hls : lastSize l = d.1 := by
    unfold lastSize
    rw [List.getLastD_eq_getLast?, List.getLast?_eq_getElem?, hlen]
    simp [hd]
  have hp7 : p ≤ 7 := by omega
  have hmx := fun ts t x y z u w => run_max4 (P := Try.prog) ts t x y z u w
  have hmy : decide (d.1 < max (max (max (8 * c.width) 32) 24) c.key) = true := by rw [hls] at hm; unfold most at hm; simpa using hm
  have HR := hide hr
  have HD := hide (clv_at l p d hd).1
  rw [clv_prs] at HD
  have HMy := hide hmy
  have w8 : IntKind.i64.wrap (8 * c.width) = 8 * c.width := IntWalk.i64_in _ (by omega)
  have H6 := hide h6
  clear hr h4 hm hls hlen n0 n1 hb' hd hmy h6
  subst hq
  have HB := hide hb
  clear hb
  have B0 := hide (Blk.new w 28 #[.int .i64 c.length, .int .i64 c.lateness, .int .i64 c.windows, .int .i64 c.shards, .int .i64 c.spread, .int .i64 c.queue, .int .i64 c.mode, .int .i64 c.slots, .int .i64 c.exact_, .int .u64 c.promote, .int .i64 c.depth, .int .i64 c.width, .int .i64 c.top, .int .i64 c.key, .slice C (p + 1) k, .slice T 16 j, .int .u64 c.seed])
  have K0 := hide ((Keeps.refl (fun _ => False) w).alloc (.cells #[.int .i64 c.length, .int .i64 c.lateness, .int .i64 c.windows, .int .i64 c.shards, .int .i64 c.spread, .int .i64 c.queue, .int .i64 c.mode, .int .i64 c.slots, .int .i64 c.exact_, .int .u64 c.promote, .int .i64 c.depth, .int .i64 c.width, .int .i64 c.top, .int .i64 c.key, .slice C (p + 1) k, .slice T 16 j, .int .u64 c.seed] 28))
  go_enter Try.func26, Try.ntmps26
  go_upto_region 1 with fail
  generalize w.alloc _ = w0 at *
  generalize w.heap.size = X at *
  refine wp_region_list ?_
  trace "LIST"
  refine cfg_ld (.tmp 1) rfl B0.out rfl (by kernel_rfl) ?_
  simp only [Act.put, List.setIfInBounds_toArray, List.set_cons_zero, List.set_cons_succ]
  trace "LD"
  refine wl_want rfl ?_
  go_simp
  refine (HCl.out _).mono ?_
  rintro e w1 ⟨rfl, kk⟩
  have K1 := hide (K0.out.trans kk)
  have B1 := hide (B0.out.kept kk (fun h => h))
  clear kk B0 K0 HCl
  dsimp only
  trace "CALL"
  refine wl_val (v := .bool false) rfl rfl ?_
  simp only [Act.put, List.setIfInBounds_toArray, List.set_cons_zero, List.set_cons_succ]
  refine wl_val rfl rfl ?_
  simp only [Act.put, List.setIfInBounds_toArray, List.set_cons_zero, List.set_cons_succ]
  refine cfg_ld (.tmp 1) rfl B1.out rfl (by kernel_rfl) ?_
  simp only [Act.put, List.setIfInBounds_toArray, List.set_cons_zero, List.set_cons_succ]
  refine wl_want rfl ?_
  go_simp
  refine (HRo.out _).mono ?_
  rintro e w2 ⟨rfl, kk⟩
  have K2 := hide (K1.out.trans kk)
  have B2 := hide (B1.out.kept kk (fun h => h))
  clear kk B1 K1 HRo
  dsimp only
  have f5 : w2.cell? ⟨X, 5, none⟩ = some (.int .i64 c.queue) := B2.out.cell 5
  have f6 : w2.cell? ⟨X, 6, none⟩ = some (.int .i64 c.mode) := B2.out.cell 6
  have f7 : w2.cell? ⟨X, 7, none⟩ = some (.int .i64 c.slots) := B2.out.cell 7
  have f8 : w2.cell? ⟨X, 8, none⟩ = some (.int .i64 c.exact_) := B2.out.cell 8
  have f10 : w2.cell? ⟨X, 10, none⟩ = some (.int .i64 c.depth) := B2.out.cell 10
  have f11 : w2.cell? ⟨X, 11, none⟩ = some (.int .i64 c.width) := B2.out.cell 11
  have f12 : w2.cell? ⟨X, 12, none⟩ = some (.int .i64 c.top) := B2.out.cell 12
  have f13 : w2.cell? ⟨X, 13, none⟩ = some (.int .i64 c.key) := B2.out.cell 13
  have f14 : w2.cell? ⟨X, 14, none⟩ = some (.slice C (p + 1) k) := B2.out.cell 14
  generalize (Value.agg #[.int .i64 c.length, .int .i64 c.lateness, .int .i64 c.windows, .int .i64 c.shards, .int .i64 c.spread, .int .i64 c.queue, .int .i64 c.mode, .int .i64 c.slots, .int .i64 c.exact_, .int .u64 c.promote, .int .i64 c.depth, .int .i64 c.width, .int .i64 c.top, .int .i64 c.key, .slice C (p + 1) k, .slice T 16 j, .int .u64 c.seed]) = V at *
  refine wl_val (v := .bool false) rfl rfl ?_
  simp only [Act.put, List.setIfInBounds_toArray, List.set_cons_zero, List.set_cons_succ]
  refine wl_val (v := .bool false) (by kernel_rfl) (by kernel_rfl) ?_
  simp only [Act.put, List.setIfInBounds_toArray, List.set_cons_zero, List.set_cons_succ]
  refine wl_val (v := .bool false) (by kernel_rfl) (by kernel_rfl) ?_
  simp only [Act.put, List.setIfInBounds_toArray, List.set_cons_zero, List.set_cons_succ]
  trace "S0"
  refine wl_val (v := .pointer (some ⟨X, 5, none⟩)) (by kernel_rfl) (by kernel_rfl) ?_
  simp only [Act.put, List.setIfInBounds_toArray, List.set_cons_zero, List.set_cons_succ]
  refine wl_ld rfl (by kernel_rfl) rfl f5 ?_
  simp only [Act.put, List.setIfInBounds_toArray, List.set_cons_zero, List.set_cons_succ]
  refine wl_val (v := .bool (decide (c.queue < 1))) (by kernel_rfl) (by kernel_rfl) ?_
  simp only [Act.put, List.setIfInBounds_toArray, List.set_cons_zero, List.set_cons_succ]
  rcases hb0 : (decide (c.queue < 1)) with _ | _
  rotate_left
  · exfalso
    have h := HB.out
    unfold numB at h
    simp at h hb0
    omega
  refine wl_val (v := .bool false) (by kernel_rfl) (by kernel_rfl) ?_
  simp only [Act.put, List.setIfInBounds_toArray, List.set_cons_zero, List.set_cons_succ]
  refine wl_val (v := .bool false) (by kernel_rfl) (by kernel_rfl) ?_
  simp only [Act.put, List.setIfInBounds_toArray, List.set_cons_zero, List.set_cons_succ]
  trace "S1"
  refine wl_val (v := .pointer (some ⟨X, 5, none⟩)) (by kernel_rfl) (by kernel_rfl) ?_
  simp only [Act.put, List.setIfInBounds_toArray, List.set_cons_zero, List.set_cons_succ]
  refine wl_ld rfl (by kernel_rfl) rfl f5 ?_
  simp only [Act.put, List.setIfInBounds_toArray, List.set_cons_zero, List.set_cons_succ]
  refine wl_val (v := .bool (decide (64 < c.queue))) (by kernel_rfl) (by kernel_rfl) ?_
  simp only [Act.put, List.setIfInBounds_toArray, List.set_cons_zero, List.set_cons_succ]
  rcases hb1 : (decide (64 < c.queue)) with _ | _
  rotate_left
  · exfalso
    have h := HB.out
    unfold numB at h
    simp at h hb1
    omega
  refine wl_val (v := .bool false) (by kernel_rfl) (by kernel_rfl) ?_
  simp only [Act.put, List.setIfInBounds_toArray, List.set_cons_zero, List.set_cons_succ]
  refine wl_val (v := .bool false) (by kernel_rfl) (by kernel_rfl) ?_
  simp only [Act.put, List.setIfInBounds_toArray, List.set_cons_zero, List.set_cons_succ]
  refine wl_val (v := .pointer (some ⟨X, 6, none⟩)) (by kernel_rfl) (by kernel_rfl) ?_
  simp only [Act.put, List.setIfInBounds_toArray, List.set_cons_zero, List.set_cons_succ]
  refine wl_ld rfl (by kernel_rfl) rfl f6 ?_
  simp only [Act.put, List.setIfInBounds_toArray, List.set_cons_zero, List.set_cons_succ]
  refine wl_val (v := .bool (c.mode != 1)) (by kernel_rfl) (by kernel_rfl) ?_
  simp only [Act.put, List.setIfInBounds_toArray, List.set_cons_zero, List.set_cons_succ]
  rcases hm1 : (c.mode != 1) with _ | _
  · refine wl_val (v := .bool false) (by kernel_rfl) (by kernel_rfl) ?_
    simp only [Act.put, List.setIfInBounds_toArray, List.set_cons_zero, List.set_cons_succ]
    refine wl_skip (by kernel_rfl) ?_
    simp only [Act.put, List.setIfInBounds_toArray, List.set_cons_zero, List.set_cons_succ]
    refine wl_skip (by kernel_rfl) ?_
    simp only [Act.put, List.setIfInBounds_toArray, List.set_cons_zero, List.set_cons_succ]
    refine wl_skip (by kernel_rfl) ?_
    simp only [Act.put, List.setIfInBounds_toArray, List.set_cons_zero, List.set_cons_succ]
    refine wl_val (v := .bool false) (by kernel_rfl) (by kernel_rfl) ?_
    simp only [Act.put, List.setIfInBounds_toArray, List.set_cons_zero, List.set_cons_succ]
    refine wl_val (v := .bool false) (by kernel_rfl) (by kernel_rfl) ?_
    simp only [Act.put, List.setIfInBounds_toArray, List.set_cons_zero, List.set_cons_succ]
    refine wl_val (v := .bool false) (by kernel_rfl) (by kernel_rfl) ?_
    simp only [Act.put, List.setIfInBounds_toArray, List.set_cons_zero, List.set_cons_succ]
    trace "M1"
    trace "S3"
    refine wl_val (v := .pointer (some ⟨X, 7, none⟩)) (by kernel_rfl) (by kernel_rfl) ?_
    simp only [Act.put, List.setIfInBounds_toArray, List.set_cons_zero, List.set_cons_succ]
    refine wl_ld rfl (by kernel_rfl) rfl f7 ?_
    simp only [Act.put, List.setIfInBounds_toArray, List.set_cons_zero, List.set_cons_succ]
    refine wl_val (v := .bool (decide (c.slots < 1))) (by kernel_rfl) (by kernel_rfl) ?_
    simp only [Act.put, List.setIfInBounds_toArray, List.set_cons_zero, List.set_cons_succ]
    rcases hb3 : (decide (c.slots < 1)) with _ | _
    rotate_left
    · exfalso
      have h := HB.out
      unfold numB at h
      simp at h hb3
      omega
    refine wl_val (v := .bool false) (by kernel_rfl) (by kernel_rfl) ?_
    simp only [Act.put, List.setIfInBounds_toArray, List.set_cons_zero, List.set_cons_succ]
    refine wl_val (v := .bool false) (by kernel_rfl) (by kernel_rfl) ?_
    simp only [Act.put, List.setIfInBounds_toArray, List.set_cons_zero, List.set_cons_succ]
    trace "S4"
    refine wl_val (v := .pointer (some ⟨X, 7, none⟩)) (by kernel_rfl) (by kernel_rfl) ?_
    simp only [Act.put, List.setIfInBounds_toArray, List.set_cons_zero, List.set_cons_succ]
    refine wl_ld rfl (by kernel_rfl) rfl f7 ?_
    simp only [Act.put, List.setIfInBounds_toArray, List.set_cons_zero, List.set_cons_succ]
    refine wl_val (v := .bool (decide (64 < c.slots))) (by kernel_rfl) (by kernel_rfl) ?_
    simp only [Act.put, List.setIfInBounds_toArray, List.set_cons_zero, List.set_cons_succ]
    rcases hb4 : (decide (64 < c.slots)) with _ | _
    rotate_left
    · exfalso
      have h := HB.out
      unfold numB at h
      simp at h hb4
      omega
    refine wl_val (v := .bool false) (by kernel_rfl) (by kernel_rfl) ?_
    simp only [Act.put, List.setIfInBounds_toArray, List.set_cons_zero, List.set_cons_succ]
    refine wl_val (v := .bool false) (by kernel_rfl) (by kernel_rfl) ?_
    simp only [Act.put, List.setIfInBounds_toArray, List.set_cons_zero, List.set_cons_succ]
    trace "S5"
    refine wl_val (v := .pointer (some ⟨X, 8, none⟩)) (by kernel_rfl) (by kernel_rfl) ?_
    simp only [Act.put, List.setIfInBounds_toArray, List.set_cons_zero, List.set_cons_succ]
    refine wl_ld rfl (by kernel_rfl) rfl f8 ?_
    simp only [Act.put, List.setIfInBounds_toArray, List.set_cons_zero, List.set_cons_succ]
    refine wl_val (v := .bool (decide (c.exact_ < 0))) (by kernel_rfl) (by kernel_rfl) ?_
    simp only [Act.put, List.setIfInBounds_toArray, List.set_cons_zero, List.set_cons_succ]
    rcases hb5 : (decide (c.exact_ < 0)) with _ | _
    rotate_left
    · exfalso
      have h := HB.out
      unfold numB at h
      simp at h hb5
      omega
    refine wl_val (v := .bool false) (by kernel_rfl) (by kernel_rfl) ?_
    simp only [Act.put, List.setIfInBounds_toArray, List.set_cons_zero, List.set_cons_succ]
    refine wl_val (v := .bool false) (by kernel_rfl) (by kernel_rfl) ?_
    simp only [Act.put, List.setIfInBounds_toArray, List.set_cons_zero, List.set_cons_succ]
    trace "S6"
    refine wl_val (v := .pointer (some ⟨X, 8, none⟩)) (by kernel_rfl) (by kernel_rfl) ?_
    simp only [Act.put, List.setIfInBounds_toArray, List.set_cons_zero, List.set_cons_succ]
    refine wl_ld rfl (by kernel_rfl) rfl f8 ?_
    simp only [Act.put, List.setIfInBounds_toArray, List.set_cons_zero, List.set_cons_succ]
    refine wl_val (v := .bool (decide (32 < c.exact_))) (by kernel_rfl) (by kernel_rfl) ?_
    simp only [Act.put, List.setIfInBounds_toArray, List.set_cons_zero, List.set_cons_succ]
    rcases hb6 : (decide (32 < c.exact_)) with _ | _
    rotate_left
    · exfalso
      have h := HB.out
      unfold numB at h
      simp at h hb6
      omega
    refine wl_val (v := .bool false) (by kernel_rfl) (by kernel_rfl) ?_
    simp only [Act.put, List.setIfInBounds_toArray, List.set_cons_zero, List.set_cons_succ]
    refine wl_val (v := .bool false) (by kernel_rfl) (by kernel_rfl) ?_
    simp only [Act.put, List.setIfInBounds_toArray, List.set_cons_zero, List.set_cons_succ]
    trace "S7"
    refine wl_val (v := .pointer (some ⟨X, 10, none⟩)) (by kernel_rfl) (by kernel_rfl) ?_
    simp only [Act.put, List.setIfInBounds_toArray, List.set_cons_zero, List.set_cons_succ]
    refine wl_ld rfl (by kernel_rfl) rfl f10 ?_
    simp only [Act.put, List.setIfInBounds_toArray, List.set_cons_zero, List.set_cons_succ]
    refine wl_val (v := .bool (decide (c.depth < 1))) (by kernel_rfl) (by kernel_rfl) ?_
    simp only [Act.put, List.setIfInBounds_toArray, List.set_cons_zero, List.set_cons_succ]
    rcases hb7 : (decide (c.depth < 1)) with _ | _
    rotate_left
    · exfalso
      have h := HB.out
      unfold numB at h
      simp at h hb7
      omega
    refine wl_val (v := .bool false) (by kernel_rfl) (by kernel_rfl) ?_
    simp only [Act.put, List.setIfInBounds_toArray, List.set_cons_zero, List.set_cons_succ]
    refine wl_val (v := .bool false) (by kernel_rfl) (by kernel_rfl) ?_
    simp only [Act.put, List.setIfInBounds_toArray, List.set_cons_zero, List.set_cons_succ]
    trace "S8"
    refine wl_val (v := .pointer (some ⟨X, 10, none⟩)) (by kernel_rfl) (by kernel_rfl) ?_
    simp only [Act.put, List.setIfInBounds_toArray, List.set_cons_zero, List.set_cons_succ]
    refine wl_ld rfl (by kernel_rfl) rfl f10 ?_
    simp only [Act.put, List.setIfInBounds_toArray, List.set_cons_zero, List.set_cons_succ]
    refine wl_val (v := .bool (decide (4 < c.depth))) (by kernel_rfl) (by kernel_rfl) ?_
    simp only [Act.put, List.setIfInBounds_toArray, List.set_cons_zero, List.set_cons_succ]
    rcases hb8 : (decide (4 < c.depth)) with _ | _
    rotate_left
    · exfalso
      have h := HB.out
      unfold numB at h
      simp at h hb8
      omega
    refine wl_val (v := .bool false) (by kernel_rfl) (by kernel_rfl) ?_
    simp only [Act.put, List.setIfInBounds_toArray, List.set_cons_zero, List.set_cons_succ]
    refine wl_val (v := .bool false) (by kernel_rfl) (by kernel_rfl) ?_
    simp only [Act.put, List.setIfInBounds_toArray, List.set_cons_zero, List.set_cons_succ]
    trace "S9"
    refine wl_val (v := .pointer (some ⟨X, 11, none⟩)) (by kernel_rfl) (by kernel_rfl) ?_
    simp only [Act.put, List.setIfInBounds_toArray, List.set_cons_zero, List.set_cons_succ]
    refine wl_ld rfl (by kernel_rfl) rfl f11 ?_
    simp only [Act.put, List.setIfInBounds_toArray, List.set_cons_zero, List.set_cons_succ]
    refine wl_val (v := .bool (decide (c.width < 1))) (by kernel_rfl) (by kernel_rfl) ?_
    simp only [Act.put, List.setIfInBounds_toArray, List.set_cons_zero, List.set_cons_succ]
    rcases hb9 : (decide (c.width < 1)) with _ | _
    rotate_left
    · exfalso
      have h := HB.out
      unfold numB at h
      simp at h hb9
      omega
    refine wl_val (v := .bool false) (by kernel_rfl) (by kernel_rfl) ?_
    simp only [Act.put, List.setIfInBounds_toArray, List.set_cons_zero, List.set_cons_succ]
    refine wl_val (v := .bool false) (by kernel_rfl) (by kernel_rfl) ?_
    simp only [Act.put, List.setIfInBounds_toArray, List.set_cons_zero, List.set_cons_succ]
    trace "S10"
    refine wl_val (v := .pointer (some ⟨X, 11, none⟩)) (by kernel_rfl) (by kernel_rfl) ?_
    simp only [Act.put, List.setIfInBounds_toArray, List.set_cons_zero, List.set_cons_succ]
    refine wl_ld rfl (by kernel_rfl) rfl f11 ?_
    simp only [Act.put, List.setIfInBounds_toArray, List.set_cons_zero, List.set_cons_succ]
    refine wl_val (v := .bool (decide (256 < c.width))) (by kernel_rfl) (by kernel_rfl) ?_
    simp only [Act.put, List.setIfInBounds_toArray, List.set_cons_zero, List.set_cons_succ]
    rcases hb10 : (decide (256 < c.width)) with _ | _
    rotate_left
    · exfalso
      have h := HB.out
      unfold numB at h
      simp at h hb10
      omega
    refine wl_val (v := .bool false) (by kernel_rfl) (by kernel_rfl) ?_
    simp only [Act.put, List.setIfInBounds_toArray, List.set_cons_zero, List.set_cons_succ]
    refine wl_val (v := .bool false) (by kernel_rfl) (by kernel_rfl) ?_
    simp only [Act.put, List.setIfInBounds_toArray, List.set_cons_zero, List.set_cons_succ]
    trace "S11"
    refine wl_val (v := .pointer (some ⟨X, 12, none⟩)) (by kernel_rfl) (by kernel_rfl) ?_
    simp only [Act.put, List.setIfInBounds_toArray, List.set_cons_zero, List.set_cons_succ]
    refine wl_ld rfl (by kernel_rfl) rfl f12 ?_
    simp only [Act.put, List.setIfInBounds_toArray, List.set_cons_zero, List.set_cons_succ]
    refine wl_val (v := .bool (decide (c.top < 1))) (by kernel_rfl) (by kernel_rfl) ?_
    simp only [Act.put, List.setIfInBounds_toArray, List.set_cons_zero, List.set_cons_succ]
    rcases hb11 : (decide (c.top < 1)) with _ | _
    rotate_left
    · exfalso
      have h := HB.out
      unfold numB at h
      simp at h hb11
      omega
    refine wl_val (v := .bool false) (by kernel_rfl) (by kernel_rfl) ?_
    simp only [Act.put, List.setIfInBounds_toArray, List.set_cons_zero, List.set_cons_succ]
    refine wl_val (v := .bool false) (by kernel_rfl) (by kernel_rfl) ?_
    simp only [Act.put, List.setIfInBounds_toArray, List.set_cons_zero, List.set_cons_succ]
    trace "S12"
    refine wl_val (v := .pointer (some ⟨X, 12, none⟩)) (by kernel_rfl) (by kernel_rfl) ?_
    simp only [Act.put, List.setIfInBounds_toArray, List.set_cons_zero, List.set_cons_succ]
    refine wl_ld rfl (by kernel_rfl) rfl f12 ?_
    simp only [Act.put, List.setIfInBounds_toArray, List.set_cons_zero, List.set_cons_succ]
    refine wl_val (v := .bool (decide (64 < c.top))) (by kernel_rfl) (by kernel_rfl) ?_
    simp only [Act.put, List.setIfInBounds_toArray, List.set_cons_zero, List.set_cons_succ]
    rcases hb12 : (decide (64 < c.top)) with _ | _
    rotate_left
    · exfalso
      have h := HB.out
      unfold numB at h
      simp at h hb12
      omega
    refine wl_val (v := .bool false) (by kernel_rfl) (by kernel_rfl) ?_
    simp only [Act.put, List.setIfInBounds_toArray, List.set_cons_zero, List.set_cons_succ]
    refine wl_val (v := .bool false) (by kernel_rfl) (by kernel_rfl) ?_
    simp only [Act.put, List.setIfInBounds_toArray, List.set_cons_zero, List.set_cons_succ]
    trace "S13"
    refine wl_val (v := .pointer (some ⟨X, 13, none⟩)) (by kernel_rfl) (by kernel_rfl) ?_
    simp only [Act.put, List.setIfInBounds_toArray, List.set_cons_zero, List.set_cons_succ]
    refine wl_ld rfl (by kernel_rfl) rfl f13 ?_
    simp only [Act.put, List.setIfInBounds_toArray, List.set_cons_zero, List.set_cons_succ]
    refine wl_val (v := .bool (decide (c.key < 1))) (by kernel_rfl) (by kernel_rfl) ?_
    simp only [Act.put, List.setIfInBounds_toArray, List.set_cons_zero, List.set_cons_succ]
    rcases hb13 : (decide (c.key < 1)) with _ | _
    rotate_left
    · exfalso
      have h := HB.out
      unfold numB at h
      simp at h hb13
      omega
    refine wl_val (v := .bool false) (by kernel_rfl) (by kernel_rfl) ?_
    simp only [Act.put, List.setIfInBounds_toArray, List.set_cons_zero, List.set_cons_succ]
    refine wl_val (v := .bool false) (by kernel_rfl) (by kernel_rfl) ?_
    simp only [Act.put, List.setIfInBounds_toArray, List.set_cons_zero, List.set_cons_succ]
    trace "S14"
    refine wl_val (v := .pointer (some ⟨X, 13, none⟩)) (by kernel_rfl) (by kernel_rfl) ?_
    simp only [Act.put, List.setIfInBounds_toArray, List.set_cons_zero, List.set_cons_succ]
    refine wl_ld rfl (by kernel_rfl) rfl f13 ?_
    simp only [Act.put, List.setIfInBounds_toArray, List.set_cons_zero, List.set_cons_succ]
    refine wl_val (v := .bool (decide (255 < c.key))) (by kernel_rfl) (by kernel_rfl) ?_
    simp only [Act.put, List.setIfInBounds_toArray, List.set_cons_zero, List.set_cons_succ]
    rcases hb14 : (decide (255 < c.key)) with _ | _
    rotate_left
    · exfalso
      have h := HB.out
      unfold numB at h
      simp at h hb14
      omega
    refine wl_val (v := .bool false) (by kernel_rfl) (by kernel_rfl) ?_
    simp only [Act.put, List.setIfInBounds_toArray, List.set_cons_zero, List.set_cons_succ]
    refine wl_val (v := .bool false) (by kernel_rfl) (by kernel_rfl) ?_
    simp only [Act.put, List.setIfInBounds_toArray, List.set_cons_zero, List.set_cons_succ]
    refine wl_val (v := .pointer (some ⟨X, 14, none⟩)) (by kernel_rfl) (by kernel_rfl) ?_
    simp only [Act.put, List.setIfInBounds_toArray, List.set_cons_zero, List.set_cons_succ]
    refine wl_ldC rfl (by kernel_rfl) rfl f14 ?_
    simp only [Act.put, List.setIfInBounds_toArray, List.set_cons_zero, List.set_cons_succ]
    refine wl_want rfl ?_
    go_simp
    refine (HCs.out _ K2.out).mono ?_
    rintro e w3 ⟨rfl, kk⟩
    have K3 := hide (K2.out.trans kk)
    have B3 := hide (B2.out.kept kk (fun h => h))
    clear kk B2 K2 HCs
    dsimp only
    trace "CLS"
    refine wl_val (v := .bool ((0 : Int) != 0)) (by kernel_rfl) (by kernel_rfl) ?_
    simp only [Act.put, List.setIfInBounds_toArray, List.set_cons_zero, List.set_cons_succ]
    rcases hx : ((0 : Int) != 0) with _ | _
    rotate_left
    · exact absurd hx (by simp)
    refine wl_val (v := .bool false) (by kernel_rfl) (by kernel_rfl) ?_
    simp only [Act.put, List.setIfInBounds_toArray, List.set_cons_zero, List.set_cons_succ]
    refine wl_nil ?_
    have f11 : w3.cell? ⟨X, 11, none⟩ = some (.int .i64 c.width) := B3.out.cell 11
    have f13 : w3.cell? ⟨X, 13, none⟩ = some (.int .i64 c.key) := B3.out.cell 13
    have f14' : w3.cell? ⟨X, 14, none⟩ = some (.slice C (p + 1) k) := B3.out.cell 14
    obtain ⟨b, off, rfl, hbB, hcell⟩ := (HR.out.kept K3.out (fun _ _ h => h)).2 (by omega)
    have f1 := hcell _ _ HD.out
    have h6 := H6.out
    have hmy := HMy.out
    clear B3 f5 f6 f7 f8 f10 f12 f14 hcell HB
    trace "TAIL"
    go_wp2_with fail
    trace "TAIL2"
    all_goals first
      | (go_ret; exact ⟨rfl, K3.out⟩)
      | (have hy := HMy.out; exfalso; simp at hy; omega)
  · refine wl_val (v := .bool true) (by kernel_rfl) (by kernel_rfl) ?_
    simp only [Act.put, List.setIfInBounds_toArray, List.set_cons_zero, List.set_cons_succ]
    refine wl_val (v := .pointer (some ⟨X, 6, none⟩)) (by kernel_rfl) (by kernel_rfl) ?_
    simp only [Act.put, List.setIfInBounds_toArray, List.set_cons_zero, List.set_cons_succ]
    refine wl_ld rfl (by kernel_rfl) rfl f6 ?_
    simp only [Act.put, List.setIfInBounds_toArray, List.set_cons_zero, List.set_cons_succ]
    refine wl_val (v := .bool (c.mode != 2)) (by kernel_rfl) (by kernel_rfl) ?_
    simp only [Act.put, List.setIfInBounds_toArray, List.set_cons_zero, List.set_cons_succ]
    rcases hm2 : (c.mode != 2) with _ | _
    rotate_left
    · exfalso
      have h := HB.out
      unfold numB at h
      simp at h hm1 hm2
      omega
    refine wl_val (v := .bool false) (by kernel_rfl) (by kernel_rfl) ?_
    simp only [Act.put, List.setIfInBounds_toArray, List.set_cons_zero, List.set_cons_succ]
    refine wl_val (v := .bool false) (by kernel_rfl) (by kernel_rfl) ?_
    simp only [Act.put, List.setIfInBounds_toArray, List.set_cons_zero, List.set_cons_succ]
    refine wl_val (v := .bool false) (by kernel_rfl) (by kernel_rfl) ?_
    simp only [Act.put, List.setIfInBounds_toArray, List.set_cons_zero, List.set_cons_succ]
    trace "M2"
    trace "S3"
    refine wl_val (v := .pointer (some ⟨X, 7, none⟩)) (by kernel_rfl) (by kernel_rfl) ?_
    simp only [Act.put, List.setIfInBounds_toArray, List.set_cons_zero, List.set_cons_succ]
    refine wl_ld rfl (by kernel_rfl) rfl f7 ?_
    simp only [Act.put, List.setIfInBounds_toArray, List.set_cons_zero, List.set_cons_succ]
    refine wl_val (v := .bool (decide (c.slots < 1))) (by kernel_rfl) (by kernel_rfl) ?_
    simp only [Act.put, List.setIfInBounds_toArray, List.set_cons_zero, List.set_cons_succ]
    rcases hb3 : (decide (c.slots < 1)) with _ | _
    rotate_left
    · exfalso
      have h := HB.out
      unfold numB at h
      simp at h hb3
      omega
    refine wl_val (v := .bool false) (by kernel_rfl) (by kernel_rfl) ?_
    simp only [Act.put, List.setIfInBounds_toArray, List.set_cons_zero, List.set_cons_succ]
    refine wl_val (v := .bool false) (by kernel_rfl) (by kernel_rfl) ?_
    simp only [Act.put, List.setIfInBounds_toArray, List.set_cons_zero, List.set_cons_succ]
    trace "S4"
    refine wl_val (v := .pointer (some ⟨X, 7, none⟩)) (by kernel_rfl) (by kernel_rfl) ?_
    simp only [Act.put, List.setIfInBounds_toArray, List.set_cons_zero, List.set_cons_succ]
    refine wl_ld rfl (by kernel_rfl) rfl f7 ?_
    simp only [Act.put, List.setIfInBounds_toArray, List.set_cons_zero, List.set_cons_succ]
    refine wl_val (v := .bool (decide (64 < c.slots))) (by kernel_rfl) (by kernel_rfl) ?_
    simp only [Act.put, List.setIfInBounds_toArray, List.set_cons_zero, List.set_cons_succ]
    rcases hb4 : (decide (64 < c.slots)) with _ | _
    rotate_left
    · exfalso
      have h := HB.out
      unfold numB at h
      simp at h hb4
      omega
    refine wl_val (v := .bool false) (by kernel_rfl) (by kernel_rfl) ?_
    simp only [Act.put, List.setIfInBounds_toArray, List.set_cons_zero, List.set_cons_succ]
    refine wl_val (v := .bool false) (by kernel_rfl) (by kernel_rfl) ?_
    simp only [Act.put, List.setIfInBounds_toArray, List.set_cons_zero, List.set_cons_succ]
    trace "S5"
    refine wl_val (v := .pointer (some ⟨X, 8, none⟩)) (by kernel_rfl) (by kernel_rfl) ?_
    simp only [Act.put, List.setIfInBounds_toArray, List.set_cons_zero, List.set_cons_succ]
    refine wl_ld rfl (by kernel_rfl) rfl f8 ?_
    simp only [Act.put, List.setIfInBounds_toArray, List.set_cons_zero, List.set_cons_succ]
    refine wl_val (v := .bool (decide (c.exact_ < 0))) (by kernel_rfl) (by kernel_rfl) ?_
    simp only [Act.put, List.setIfInBounds_toArray, List.set_cons_zero, List.set_cons_succ]
    rcases hb5 : (decide (c.exact_ < 0)) with _ | _
    rotate_left
    · exfalso
      have h := HB.out
      unfold numB at h
      simp at h hb5
      omega
    refine wl_val (v := .bool false) (by kernel_rfl) (by kernel_rfl) ?_
    simp only [Act.put, List.setIfInBounds_toArray, List.set_cons_zero, List.set_cons_succ]
    refine wl_val (v := .bool false) (by kernel_rfl) (by kernel_rfl) ?_
    simp only [Act.put, List.setIfInBounds_toArray, List.set_cons_zero, List.set_cons_succ]
    trace "S6"
    refine wl_val (v := .pointer (some ⟨X, 8, none⟩)) (by kernel_rfl) (by kernel_rfl) ?_
    simp only [Act.put, List.setIfInBounds_toArray, List.set_cons_zero, List.set_cons_succ]
    refine wl_ld rfl (by kernel_rfl) rfl f8 ?_
    simp only [Act.put, List.setIfInBounds_toArray, List.set_cons_zero, List.set_cons_succ]
    refine wl_val (v := .bool (decide (32 < c.exact_))) (by kernel_rfl) (by kernel_rfl) ?_
    simp only [Act.put, List.setIfInBounds_toArray, List.set_cons_zero, List.set_cons_succ]
    rcases hb6 : (decide (32 < c.exact_)) with _ | _
    rotate_left
    · exfalso
      have h := HB.out
      unfold numB at h
      simp at h hb6
      omega
    refine wl_val (v := .bool false) (by kernel_rfl) (by kernel_rfl) ?_
    simp only [Act.put, List.setIfInBounds_toArray, List.set_cons_zero, List.set_cons_succ]
    refine wl_val (v := .bool false) (by kernel_rfl) (by kernel_rfl) ?_
    simp only [Act.put, List.setIfInBounds_toArray, List.set_cons_zero, List.set_cons_succ]
    trace "S7"
    refine wl_val (v := .pointer (some ⟨X, 10, none⟩)) (by kernel_rfl) (by kernel_rfl) ?_
    simp only [Act.put, List.setIfInBounds_toArray, List.set_cons_zero, List.set_cons_succ]
    refine wl_ld rfl (by kernel_rfl) rfl f10 ?_
    simp only [Act.put, List.setIfInBounds_toArray, List.set_cons_zero, List.set_cons_succ]
    refine wl_val (v := .bool (decide (c.depth < 1))) (by kernel_rfl) (by kernel_rfl) ?_
    simp only [Act.put, List.setIfInBounds_toArray, List.set_cons_zero, List.set_cons_succ]
    rcases hb7 : (decide (c.depth < 1)) with _ | _
    rotate_left
    · exfalso
      have h := HB.out
      unfold numB at h
      simp at h hb7
      omega
    refine wl_val (v := .bool false) (by kernel_rfl) (by kernel_rfl) ?_
    simp only [Act.put, List.setIfInBounds_toArray, List.set_cons_zero, List.set_cons_succ]
    refine wl_val (v := .bool false) (by kernel_rfl) (by kernel_rfl) ?_
    simp only [Act.put, List.setIfInBounds_toArray, List.set_cons_zero, List.set_cons_succ]
    trace "S8"
    refine wl_val (v := .pointer (some ⟨X, 10, none⟩)) (by kernel_rfl) (by kernel_rfl) ?_
    simp only [Act.put, List.setIfInBounds_toArray, List.set_cons_zero, List.set_cons_succ]
    refine wl_ld rfl (by kernel_rfl) rfl f10 ?_
    simp only [Act.put, List.setIfInBounds_toArray, List.set_cons_zero, List.set_cons_succ]
    refine wl_val (v := .bool (decide (4 < c.depth))) (by kernel_rfl) (by kernel_rfl) ?_
    simp only [Act.put, List.setIfInBounds_toArray, List.set_cons_zero, List.set_cons_succ]
    rcases hb8 : (decide (4 < c.depth)) with _ | _
    rotate_left
    · exfalso
      have h := HB.out
      unfold numB at h
      simp at h hb8
      omega
    refine wl_val (v := .bool false) (by kernel_rfl) (by kernel_rfl) ?_
    simp only [Act.put, List.setIfInBounds_toArray, List.set_cons_zero, List.set_cons_succ]
    refine wl_val (v := .bool false) (by kernel_rfl) (by kernel_rfl) ?_
    simp only [Act.put, List.setIfInBounds_toArray, List.set_cons_zero, List.set_cons_succ]
    trace "S9"
    refine wl_val (v := .pointer (some ⟨X, 11, none⟩)) (by kernel_rfl) (by kernel_rfl) ?_
    simp only [Act.put, List.setIfInBounds_toArray, List.set_cons_zero, List.set_cons_succ]
    refine wl_ld rfl (by kernel_rfl) rfl f11 ?_
    simp only [Act.put, List.setIfInBounds_toArray, List.set_cons_zero, List.set_cons_succ]
    refine wl_val (v := .bool (decide (c.width < 1))) (by kernel_rfl) (by kernel_rfl) ?_
    simp only [Act.put, List.setIfInBounds_toArray, List.set_cons_zero, List.set_cons_succ]
    rcases hb9 : (decide (c.width < 1)) with _ | _
    rotate_left
    · exfalso
      have h := HB.out
      unfold numB at h
      simp at h hb9
      omega
    refine wl_val (v := .bool false) (by kernel_rfl) (by kernel_rfl) ?_
    simp only [Act.put, List.setIfInBounds_toArray, List.set_cons_zero, List.set_cons_succ]
    refine wl_val (v := .bool false) (by kernel_rfl) (by kernel_rfl) ?_
    simp only [Act.put, List.setIfInBounds_toArray, List.set_cons_zero, List.set_cons_succ]
    trace "S10"
    refine wl_val (v := .pointer (some ⟨X, 11, none⟩)) (by kernel_rfl) (by kernel_rfl) ?_
    simp only [Act.put, List.setIfInBounds_toArray, List.set_cons_zero, List.set_cons_succ]
    refine wl_ld rfl (by kernel_rfl) rfl f11 ?_
    simp only [Act.put, List.setIfInBounds_toArray, List.set_cons_zero, List.set_cons_succ]
    refine wl_val (v := .bool (decide (256 < c.width))) (by kernel_rfl) (by kernel_rfl) ?_
    simp only [Act.put, List.setIfInBounds_toArray, List.set_cons_zero, List.set_cons_succ]
    rcases hb10 : (decide (256 < c.width)) with _ | _
    rotate_left
    · exfalso
      have h := HB.out
      unfold numB at h
      simp at h hb10
      omega
    refine wl_val (v := .bool false) (by kernel_rfl) (by kernel_rfl) ?_
    simp only [Act.put, List.setIfInBounds_toArray, List.set_cons_zero, List.set_cons_succ]
    refine wl_val (v := .bool false) (by kernel_rfl) (by kernel_rfl) ?_
    simp only [Act.put, List.setIfInBounds_toArray, List.set_cons_zero, List.set_cons_succ]
    trace "S11"
    refine wl_val (v := .pointer (some ⟨X, 12, none⟩)) (by kernel_rfl) (by kernel_rfl) ?_
    simp only [Act.put, List.setIfInBounds_toArray, List.set_cons_zero, List.set_cons_succ]
    refine wl_ld rfl (by kernel_rfl) rfl f12 ?_
    simp only [Act.put, List.setIfInBounds_toArray, List.set_cons_zero, List.set_cons_succ]
    refine wl_val (v := .bool (decide (c.top < 1))) (by kernel_rfl) (by kernel_rfl) ?_
    simp only [Act.put, List.setIfInBounds_toArray, List.set_cons_zero, List.set_cons_succ]
    rcases hb11 : (decide (c.top < 1)) with _ | _
    rotate_left
    · exfalso
      have h := HB.out
      unfold numB at h
      simp at h hb11
      omega
    refine wl_val (v := .bool false) (by kernel_rfl) (by kernel_rfl) ?_
    simp only [Act.put, List.setIfInBounds_toArray, List.set_cons_zero, List.set_cons_succ]
    refine wl_val (v := .bool false) (by kernel_rfl) (by kernel_rfl) ?_
    simp only [Act.put, List.setIfInBounds_toArray, List.set_cons_zero, List.set_cons_succ]
    trace "S12"
    refine wl_val (v := .pointer (some ⟨X, 12, none⟩)) (by kernel_rfl) (by kernel_rfl) ?_
    simp only [Act.put, List.setIfInBounds_toArray, List.set_cons_zero, List.set_cons_succ]
    refine wl_ld rfl (by kernel_rfl) rfl f12 ?_
    simp only [Act.put, List.setIfInBounds_toArray, List.set_cons_zero, List.set_cons_succ]
    refine wl_val (v := .bool (decide (64 < c.top))) (by kernel_rfl) (by kernel_rfl) ?_
    simp only [Act.put, List.setIfInBounds_toArray, List.set_cons_zero, List.set_cons_succ]
    rcases hb12 : (decide (64 < c.top)) with _ | _
    rotate_left
    · exfalso
      have h := HB.out
      unfold numB at h
      simp at h hb12
      omega
    refine wl_val (v := .bool false) (by kernel_rfl) (by kernel_rfl) ?_
    simp only [Act.put, List.setIfInBounds_toArray, List.set_cons_zero, List.set_cons_succ]
    refine wl_val (v := .bool false) (by kernel_rfl) (by kernel_rfl) ?_
    simp only [Act.put, List.setIfInBounds_toArray, List.set_cons_zero, List.set_cons_succ]
    trace "S13"
    refine wl_val (v := .pointer (some ⟨X, 13, none⟩)) (by kernel_rfl) (by kernel_rfl) ?_
    simp only [Act.put, List.setIfInBounds_toArray, List.set_cons_zero, List.set_cons_succ]
    refine wl_ld rfl (by kernel_rfl) rfl f13 ?_
    simp only [Act.put, List.setIfInBounds_toArray, List.set_cons_zero, List.set_cons_succ]
    refine wl_val (v := .bool (decide (c.key < 1))) (by kernel_rfl) (by kernel_rfl) ?_
    simp only [Act.put, List.setIfInBounds_toArray, List.set_cons_zero, List.set_cons_succ]
    rcases hb13 : (decide (c.key < 1)) with _ | _
    rotate_left
    · exfalso
      have h := HB.out
      unfold numB at h
      simp at h hb13
      omega
    refine wl_val (v := .bool false) (by kernel_rfl) (by kernel_rfl) ?_
    simp only [Act.put, List.setIfInBounds_toArray, List.set_cons_zero, List.set_cons_succ]
    refine wl_val (v := .bool false) (by kernel_rfl) (by kernel_rfl) ?_
    simp only [Act.put, List.setIfInBounds_toArray, List.set_cons_zero, List.set_cons_succ]
    trace "S14"
    refine wl_val (v := .pointer (some ⟨X, 13, none⟩)) (by kernel_rfl) (by kernel_rfl) ?_
    simp only [Act.put, List.setIfInBounds_toArray, List.set_cons_zero, List.set_cons_succ]
    refine wl_ld rfl (by kernel_rfl) rfl f13 ?_
    simp only [Act.put, List.setIfInBounds_toArray, List.set_cons_zero, List.set_cons_succ]
    refine wl_val (v := .bool (decide (255 < c.key))) (by kernel_rfl) (by kernel_rfl) ?_
    simp only [Act.put, List.setIfInBounds_toArray, List.set_cons_zero, List.set_cons_succ]
    rcases hb14 : (decide (255 < c.key)) with _ | _
    rotate_left
    · exfalso
      have h := HB.out
      unfold numB at h
      simp at h hb14
      omega
    refine wl_val (v := .bool false) (by kernel_rfl) (by kernel_rfl) ?_
    simp only [Act.put, List.setIfInBounds_toArray, List.set_cons_zero, List.set_cons_succ]
    refine wl_val (v := .bool false) (by kernel_rfl) (by kernel_rfl) ?_
    simp only [Act.put, List.setIfInBounds_toArray, List.set_cons_zero, List.set_cons_succ]
    refine wl_val (v := .pointer (some ⟨X, 14, none⟩)) (by kernel_rfl) (by kernel_rfl) ?_
    simp only [Act.put, List.setIfInBounds_toArray, List.set_cons_zero, List.set_cons_succ]
    refine wl_ldC rfl (by kernel_rfl) rfl f14 ?_
    simp only [Act.put, List.setIfInBounds_toArray, List.set_cons_zero, List.set_cons_succ]
    refine wl_want rfl ?_
    go_simp
    refine (HCs.out _ K2.out).mono ?_
    rintro e w3 ⟨rfl, kk⟩
    have K3 := hide (K2.out.trans kk)
    have B3 := hide (B2.out.kept kk (fun h => h))
    clear kk B2 K2 HCs
    dsimp only
    trace "CLS"
    refine wl_val (v := .bool ((0 : Int) != 0)) (by kernel_rfl) (by kernel_rfl) ?_
    simp only [Act.put, List.setIfInBounds_toArray, List.set_cons_zero, List.set_cons_succ]
    rcases hx : ((0 : Int) != 0) with _ | _
    rotate_left
    · exact absurd hx (by simp)
    refine wl_val (v := .bool false) (by kernel_rfl) (by kernel_rfl) ?_
    simp only [Act.put, List.setIfInBounds_toArray, List.set_cons_zero, List.set_cons_succ]
    refine wl_nil ?_
    have f11 : w3.cell? ⟨X, 11, none⟩ = some (.int .i64 c.width) := B3.out.cell 11
    have f13 : w3.cell? ⟨X, 13, none⟩ = some (.int .i64 c.key) := B3.out.cell 13
    have f14' : w3.cell? ⟨X, 14, none⟩ = some (.slice C (p + 1) k) := B3.out.cell 14
    obtain ⟨b, off, rfl, hbB, hcell⟩ := (HR.out.kept K3.out (fun _ _ h => h)).2 (by omega)
    have f1 := hcell _ _ HD.out
    have h6 := H6.out
    have hmy := HMy.out
    clear B3 f5 f6 f7 f8 f10 f12 f14 hcell HB
    trace "TAIL"
    go_wp2_with fail
    trace "TAIL2"
    all_goals first
      | (go_ret; exact ⟨rfl, K3.out⟩)
      | (have hy := HMy.out; exfalso; simp at hy; omega)
end Go.Proofs.Ytgjlibecgkhocaa

set_option linter.unusedVariables false
set_option linter.unusedSimpArgs false
namespace Go.Proofs.Ytgjlibecgkhocaa
open Go.RowKit Cfp
section
variable (c : Cfg) (C T : Option Addr) (n k q j : Nat) (w : World)
set_option maxRecDepth 1000000 in
set_option maxHeartbeats 1000000 in
theorem rconfig_b1 (HCl : Hid (∀ W, Calls Try.prog 50 #[Value.agg #[.int .i64 c.length, .int .i64 c.lateness, .int .i64 c.windows, .int .i64 c.shards, .int .i64 c.spread, .int .i64 c.queue, .int .i64 c.mode, .int .i64 c.slots, .int .i64 c.exact_, .int .u64 c.promote, .int .i64 c.depth, .int .i64 c.width, .int .i64 c.top, .int .i64 c.key, .slice C n k, .slice T q j, .int .u64 c.seed]] W fun e w' => e = .returned (.int .i64 11) ∧ Keeps (fun _ => False) W w')) : Calls Try.prog 26 #[Value.agg #[.int .i64 c.length, .int .i64 c.lateness, .int .i64 c.windows, .int .i64 c.shards, .int .i64 c.spread, .int .i64 c.queue, .int .i64 c.mode, .int .i64 c.slots, .int .i64 c.exact_, .int .u64 c.promote, .int .i64 c.depth, .int .i64 c.width, .int .i64 c.top, .int .i64 c.key, .slice C n k, .slice T q j, .int .u64 c.seed]] w fun e w' => e = .returned (.int .i64 11) ∧ Keeps (fun _ => False) w w' := by
  have B0 := hide (Blk.new w 28 #[.int .i64 c.length, .int .i64 c.lateness, .int .i64 c.windows, .int .i64 c.shards, .int .i64 c.spread, .int .i64 c.queue, .int .i64 c.mode, .int .i64 c.slots, .int .i64 c.exact_, .int .u64 c.promote, .int .i64 c.depth, .int .i64 c.width, .int .i64 c.top, .int .i64 c.key, .slice C n k, .slice T q j, .int .u64 c.seed])
  have K0 := hide ((Keeps.refl (fun _ => False) w).alloc (.cells #[.int .i64 c.length, .int .i64 c.lateness, .int .i64 c.windows, .int .i64 c.shards, .int .i64 c.spread, .int .i64 c.queue, .int .i64 c.mode, .int .i64 c.slots, .int .i64 c.exact_, .int .u64 c.promote, .int .i64 c.depth, .int .i64 c.width, .int .i64 c.top, .int .i64 c.key, .slice C n k, .slice T q j, .int .u64 c.seed] 28))
  go_enter Try.func26, Try.ntmps26
  go_upto_region 1 with fail
  generalize w.alloc _ = w0 at *
  generalize w.heap.size = X at *
  refine wp_region_list ?_
  refine cfg_ld (.tmp 1) rfl B0.out rfl (by kernel_rfl) ?_
  simp only [Act.put, List.setIfInBounds_toArray, List.set_cons_zero, List.set_cons_succ]
  refine wl_want rfl ?_
  go_simp
  refine (HCl.out _).mono ?_
  rintro e w1 ⟨rfl, kk⟩
  have K1 := hide (K0.out.trans kk)
  have B1 := hide (B0.out.kept kk (fun h => h))
  clear kk B0 K0 HCl
  dsimp only
  refine wl_val (v := .bool true) (by kernel_rfl) (by kernel_rfl) ?_
  simp only [Act.put, List.setIfInBounds_toArray, List.set_cons_zero, List.set_cons_succ]
  refine wl_val (v := .bool true) (by kernel_rfl) (by kernel_rfl) ?_
  simp only [Act.put, List.setIfInBounds_toArray, List.set_cons_zero, List.set_cons_succ]
  refine wl_skip (by kernel_rfl) ?_
  simp only [Act.put, List.setIfInBounds_toArray, List.set_cons_zero, List.set_cons_succ]
  refine wl_skip (by kernel_rfl) ?_
  simp only [Act.put, List.setIfInBounds_toArray, List.set_cons_zero, List.set_cons_succ]
  refine wl_skip (by kernel_rfl) ?_
  simp only [Act.put, List.setIfInBounds_toArray, List.set_cons_zero, List.set_cons_succ]
  refine wl_with (N := 115) (i := 97) (v := .bool true) ?_ (fun HQ => ?_)
  · intro tm hs hv
    go_wp2_with fail
    refine wp_cond_true (by simp only [Act.eval]; exact hv) ?_
    go_wp2_with fail
    refine bodyPost_ret (v := .int .i64 11) (by simp [results, Try.results26, go_sem, hs]) rfl ⟨rfl, K1.out⟩
  exact sk_end _ _ (by kernel_rfl) HQ.out
set_option maxRecDepth 1000000 in
set_option maxHeartbeats 1000000 in
theorem rconfig_b2 (HCl : Hid (∀ W, Calls Try.prog 50 #[Value.agg #[.int .i64 c.length, .int .i64 c.lateness, .int .i64 c.windows, .int .i64 c.shards, .int .i64 c.spread, .int .i64 c.queue, .int .i64 c.mode, .int .i64 c.slots, .int .i64 c.exact_, .int .u64 c.promote, .int .i64 c.depth, .int .i64 c.width, .int .i64 c.top, .int .i64 c.key, .slice C n k, .slice T q j, .int .u64 c.seed]] W fun e w' => e = .returned (.int .i64 0) ∧ Keeps (fun _ => False) W w'))
    (HRo : Hid (∀ W, Calls Try.prog 15 #[Value.agg #[.int .i64 c.length, .int .i64 c.lateness, .int .i64 c.windows, .int .i64 c.shards, .int .i64 c.spread, .int .i64 c.queue, .int .i64 c.mode, .int .i64 c.slots, .int .i64 c.exact_, .int .u64 c.promote, .int .i64 c.depth, .int .i64 c.width, .int .i64 c.top, .int .i64 c.key, .slice C n k, .slice T q j, .int .u64 c.seed]] W fun e w' => e = .returned (.int .i64 11) ∧ Keeps (fun _ => False) W w')) : Calls Try.prog 26 #[Value.agg #[.int .i64 c.length, .int .i64 c.lateness, .int .i64 c.windows, .int .i64 c.shards, .int .i64 c.spread, .int .i64 c.queue, .int .i64 c.mode, .int .i64 c.slots, .int .i64 c.exact_, .int .u64 c.promote, .int .i64 c.depth, .int .i64 c.width, .int .i64 c.top, .int .i64 c.key, .slice C n k, .slice T q j, .int .u64 c.seed]] w fun e w' => e = .returned (.int .i64 11) ∧ Keeps (fun _ => False) w w' := by
  have B0 := hide (Blk.new w 28 #[.int .i64 c.length, .int .i64 c.lateness, .int .i64 c.windows, .int .i64 c.shards, .int .i64 c.spread, .int .i64 c.queue, .int .i64 c.mode, .int .i64 c.slots, .int .i64 c.exact_, .int .u64 c.promote, .int .i64 c.depth, .int .i64 c.width, .int .i64 c.top, .int .i64 c.key, .slice C n k, .slice T q j, .int .u64 c.seed])
  have K0 := hide ((Keeps.refl (fun _ => False) w).alloc (.cells #[.int .i64 c.length, .int .i64 c.lateness, .int .i64 c.windows, .int .i64 c.shards, .int .i64 c.spread, .int .i64 c.queue, .int .i64 c.mode, .int .i64 c.slots, .int .i64 c.exact_, .int .u64 c.promote, .int .i64 c.depth, .int .i64 c.width, .int .i64 c.top, .int .i64 c.key, .slice C n k, .slice T q j, .int .u64 c.seed] 28))
  go_enter Try.func26, Try.ntmps26
  go_upto_region 1 with fail
  generalize w.alloc _ = w0 at *
  generalize w.heap.size = X at *
  refine wp_region_list ?_
  refine cfg_ld (.tmp 1) rfl B0.out rfl (by kernel_rfl) ?_
  simp only [Act.put, List.setIfInBounds_toArray, List.set_cons_zero, List.set_cons_succ]
  refine wl_want rfl ?_
  go_simp
  refine (HCl.out _).mono ?_
  rintro e w1 ⟨rfl, kk⟩
  have K1 := hide (K0.out.trans kk)
  have B1 := hide (B0.out.kept kk (fun h => h))
  clear kk B0 K0 HCl
  dsimp only
  refine wl_val (v := .bool false) (by kernel_rfl) (by kernel_rfl) ?_
  simp only [Act.put, List.setIfInBounds_toArray, List.set_cons_zero, List.set_cons_succ]
  refine wl_val (v := .bool false) (by kernel_rfl) (by kernel_rfl) ?_
  simp only [Act.put, List.setIfInBounds_toArray, List.set_cons_zero, List.set_cons_succ]
  refine cfg_ld (.tmp 1) rfl B1.out rfl (by kernel_rfl) ?_
  simp only [Act.put, List.setIfInBounds_toArray, List.set_cons_zero, List.set_cons_succ]
  refine wl_want rfl ?_
  go_simp
  refine (HRo.out _).mono ?_
  rintro e w2 ⟨rfl, kk⟩
  have K2 := hide (K1.out.trans kk)
  clear kk B1 K1 HRo
  dsimp only
  refine wl_val (v := .bool true) (by kernel_rfl) (by kernel_rfl) ?_
  simp only [Act.put, List.setIfInBounds_toArray, List.set_cons_zero, List.set_cons_succ]
  refine wl_with (N := 115) (i := 97) (v := .bool true) ?_ (fun HQ => ?_)
  · intro tm hs hv
    go_wp2_with fail
    refine wp_cond_true (by simp only [Act.eval]; exact hv) ?_
    go_wp2_with fail
    refine bodyPost_ret (v := .int .i64 11) (by simp [results, Try.results26, go_sem, hs]) rfl ⟨rfl, K2.out⟩
  exact sk_end _ _ (by kernel_rfl) HQ.out
theorem rconfig_any (l : List (Int × Int)) (hw : Wide l) (hp : 0 ≤ c.promote ∧ c.promote < 18446744073709551616) (hs : 0 ≤ c.seed ∧ c.seed < 18446744073709551616) (B : Nat) (hr : Rd w B C 2 n (prs l)) (hB : B ≤ w.heap.size) (hn : n ≤ 1000) : Calls Try.prog 26 #[Value.agg #[.int .i64 c.length, .int .i64 c.lateness, .int .i64 c.windows, .int .i64 c.shards, .int .i64 c.spread, .int .i64 c.queue, .int .i64 c.mode, .int .i64 c.slots, .int .i64 c.exact_, .int .u64 c.promote, .int .i64 c.depth, .int .i64 c.width, .int .i64 c.top, .int .i64 c.key, .slice C n k, .slice T q j, .int .u64 c.seed]] w fun e w' => e = .returned (.int .i64 (configE c l q)) ∧ Keeps (fun _ => False) w w' := by
  unfold configE
  rcases h1 : clockB c with _ | _
  · rw [if_pos (.inl rfl)]
    exact rconfig_b1 c C T n k q j w (hide (fun W => (rclock_bad c C T n k q j W h1).mono fun e w' h => And.intro (show e = Ending.returned (.int .i64 11) from h.1) (show Keeps (fun _ => False) W w' from keeps_eq_alloc h.2)))
  rcases h2 : routeB c q with _ | _
  · rw [if_pos (.inr (.inl rfl))]
    exact rconfig_b2 c C T n k q j w (hide (fun W => (rclock_fine c h1 C T n k q j W).mono fun e w' h => And.intro (show e = Ending.returned (.int .i64 0) from h.1) (show Keeps (fun _ => False) W w' from keeps_eq_alloc h.2))) (hide (fun W => (rrtcheck_bad c C T n k q j W (bad_of h2)).mono fun e w' h => And.intro (show e = Ending.returned (.int .i64 11) from h.1) (show Keeps (fun _ => False) W w' from keeps_eq_alloc h.2)))
  obtain ⟨hr2, hq⟩ := rtd_of h2 hs
  obtain rfl := hq
  have HCl := hide (fun W => (rclock_fine c h1 C T n k 16 j W).mono fun e w' h => And.intro (show e = Ending.returned (.int .i64 0) from h.1) (show Keeps (fun _ => False) W w' from keeps_eq_alloc h.2))
  have HRo := hide (fun W => (rrtcheck_ok c hr2 C T n k j W).mono fun e w' h => And.intro (show e = Ending.returned (.int .i64 0) from h.1) (show Keeps (fun _ => False) W w' from keeps_eq_alloc h.2))
  rcases h3 : numB c with _ | _
  · rw [if_pos (.inr (.inr (.inl rfl)))]
    exact rconfig_num c C T n k 16 j w rfl h3 HCl HRo
  obtain ⟨hf, _⟩ := fine_of h1 h2 h3 hp hs
  have HCs := hide (fun W (kW : Keeps (fun _ => False) w W) => rclasses_any l hw C n k B W (hr.kept kW (fun _ _ h => h)) (Nat.le_trans hB kW.size) (by omega))
  by_cases h4 : classesE l = 0
  · rw [if_neg (by simp [h4])]
    by_cases hm : lastSize l < most c
    · rw [if_pos hm]
      rw [h4] at HCs
      exact rconfig_room c C T n k 16 j w rfl h3 HCl HRo HCs l h4 hm hf.width B hr
    · rw [if_neg hm]
      exact config_ok2 c hf l h4 (room_of h4 hm) C T n k j B w (by rw [clv_prs]; exact hr) hB
  · rw [if_pos (.inr (.inr (.inr h4)))]
    exact rconfig_cls c C T n k 16 j w rfl h3 HCl HRo _ HCs h4
end
end Go.Proofs.Ytgjlibecgkhocaa
