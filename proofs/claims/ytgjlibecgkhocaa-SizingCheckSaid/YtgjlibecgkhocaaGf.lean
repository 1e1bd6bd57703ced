/-
  The reference's check of any configuration. No conditions beyond those of the statement.
-/
import Derived.Test.YtgjlibecgkhocaaMB
import Derived.Test.YtgjlibecgkhocaaGe
set_option linter.unusedVariables false
set_option linter.unusedSimpArgs false
namespace Go.Proofs.Ytgjlibecgkhocaa
open Go.RowKit Cfp
section
variable (c : Cfg) (C T : Option Addr) (n k q j : Nat) (w : World)
set_option maxRecDepth 1000000 in
set_option maxHeartbeats 1000000 in
theorem rconfig_b1 (HCl : Hid (∀ W, Calls Try.prog 50 #[Value.agg #[.int .i64 c.length, .int .i64 c.lateness, .int .i64 c.windows, .int .i64 c.shards, .int .i64 c.spread, .int .i64 c.queue, .int .i64 c.mode, .int .i64 c.slots, .int .i64 c.exact_, .int .u64 c.promote, .int .i64 c.depth, .int .i64 c.width, .int .i64 c.top, .int .i64 c.key, .slice C n k, .slice T q j, .int .u64 c.seed]] W fun e w' => e = .returned (.int .i64 11) ∧ Keeps (fun _ => False) W w')) : Calls Try.prog 26 #[Value.agg #[.int .i64 c.length, .int .i64 c.lateness, .int .i64 c.windows, .int .i64 c.shards, .int .i64 c.spread, .int .i64 c.queue, .int .i64 c.mode, .int .i64 c.slots, .int .i64 c.exact_, .int .u64 c.promote, .int .i64 c.depth, .int .i64 c.width, .int .i64 c.top, .int .i64 c.key, .slice C n k, .slice T q j, .int .u64 c.seed]] w fun e w' => e = .returned (.int .i64 11) ∧ Keeps (fun _ => False) w w' := by
  have B0 := hide (Blk.new w 28 #[.int .i64 c.length, .int .i64 c.lateness, .int .i64 c.windows, .int .i64 c.shards, .int .i64 c.spread, .int .i64 c.queue, .int .i64 c.mode, .int .i64 c.slots, .int .i64 c.exact_, .int .u64 c.promote, .int .i64 c.depth, .int .i64 c.width, .int .i64 c.top, .int .i64 c.key, .slice C n k, .slice T q j, .int .u64 c.seed])
  have K0 := hide ((Keeps.refl (fun _ => False) w).alloc (.cells #[.int .i64 c.length, .int .i64 c.lateness, .int .i64 c.windows, .int .i64 c.shards, .int .i64 c.spread, .int .i64 c.queue, .int .i64 c.mode, .int .i64 c.slots, .int .i64 c.exact_, .int .u64 c.promote, .int .i64 c.depth, .int .i64 c.width, .int .i64 c.top, .int .i64 c.key, .slice C n k, .slice T q j, .int .u64 c.seed] 28))
  go_enter Try.func26, Try.ntmps26
  go_upto_region 1 with fail
  generalize w.alloc _ = w0 at *
  generalize w.heap.size = X at *
  refine wp_region_list ?_
  refine cfg_ld (.tmp 1) rfl B0.out rfl (by kernel_rfl) ?_
  simp only [Act.put, List.setIfInBounds_toArray, List.set_cons_zero, List.set_cons_succ]
  refine wl_want rfl ?_
  go_simp
  refine (HCl.out _).mono ?_
  rintro e w1 ⟨rfl, kk⟩
  have K1 := hide (K0.out.trans kk)
  have B1 := hide (B0.out.kept kk (fun h => h))
  clear kk B0 K0 HCl
  dsimp only
  refine wl_val (v := .bool true) (by kernel_rfl) (by kernel_rfl) ?_
  simp only [Act.put, List.setIfInBounds_toArray, List.set_cons_zero, List.set_cons_succ]
  refine wl_val (v := .bool true) (by kernel_rfl) (by kernel_rfl) ?_
  simp only [Act.put, List.setIfInBounds_toArray, List.set_cons_zero, List.set_cons_succ]
  refine wl_skip (by kernel_rfl) ?_
  simp only [Act.put, List.setIfInBounds_toArray, List.set_cons_zero, List.set_cons_succ]
  refine wl_skip (by kernel_rfl) ?_
  simp only [Act.put, List.setIfInBounds_toArray, List.set_cons_zero, List.set_cons_succ]
  refine wl_skip (by kernel_rfl) ?_
  simp only [Act.put, List.setIfInBounds_toArray, List.set_cons_zero, List.set_cons_succ]
  refine wl_with (N := 115) (i := 97) (v := .bool true) ?_ (fun HQ => ?_)
  · intro tm hs hv
    go_wp2_with fail
    refine wp_cond_true (by simp only [Act.eval]; exact hv) ?_
    go_wp2_with fail
    refine bodyPost_ret (v := .int .i64 11) (by simp [results, Try.results26, go_sem, hs]) rfl ⟨rfl, K1.out⟩
  exact sk_end _ _ (by kernel_rfl) HQ.out
set_option maxRecDepth 1000000 in
set_option maxHeartbeats 1000000 in
theorem rconfig_b2 (HCl : Hid (∀ W, Calls Try.prog 50 #[Value.agg #[.int .i64 c.length, .int .i64 c.lateness, .int .i64 c.windows, .int .i64 c.shards, .int .i64 c.spread, .int .i64 c.queue, .int .i64 c.mode, .int .i64 c.slots, .int .i64 c.exact_, .int .u64 c.promote, .int .i64 c.depth, .int .i64 c.width, .int .i64 c.top, .int .i64 c.key, .slice C n k, .slice T q j, .int .u64 c.seed]] W fun e w' => e = .returned (.int .i64 0) ∧ Keeps (fun _ => False) W w'))
    (HRo : Hid (∀ W, Calls Try.prog 15 #[Value.agg #[.int .i64 c.length, .int .i64 c.lateness, .int .i64 c.windows, .int .i64 c.shards, .int .i64 c.spread, .int .i64 c.queue, .int .i64 c.mode, .int .i64 c.slots, .int .i64 c.exact_, .int .u64 c.promote, .int .i64 c.depth, .int .i64 c.width, .int .i64 c.top, .int .i64 c.key, .slice C n k, .slice T q j, .int .u64 c.seed]] W fun e w' => e = .returned (.int .i64 11) ∧ Keeps (fun _ => False) W w')) : Calls Try.prog 26 #[Value.agg #[.int .i64 c.length, .int .i64 c.lateness, .int .i64 c.windows, .int .i64 c.shards, .int .i64 c.spread, .int .i64 c.queue, .int .i64 c.mode, .int .i64 c.slots, .int .i64 c.exact_, .int .u64 c.promote, .int .i64 c.depth, .int .i64 c.width, .int .i64 c.top, .int .i64 c.key, .slice C n k, .slice T q j, .int .u64 c.seed]] w fun e w' => e = .returned (.int .i64 11) ∧ Keeps (fun _ => False) w w' := by
  have B0 := hide (Blk.new w 28 #[.int .i64 c.length, .int .i64 c.lateness, .int .i64 c.windows, .int .i64 c.shards, .int .i64 c.spread, .int .i64 c.queue, .int .i64 c.mode, .int .i64 c.slots, .int .i64 c.exact_, .int .u64 c.promote, .int .i64 c.depth, .int .i64 c.width, .int .i64 c.top, .int .i64 c.key, .slice C n k, .slice T q j, .int .u64 c.seed])
  have K0 := hide ((Keeps.refl (fun _ => False) w).alloc (.cells #[.int .i64 c.length, .int .i64 c.lateness, .int .i64 c.windows, .int .i64 c.shards, .int .i64 c.spread, .int .i64 c.queue, .int .i64 c.mode, .int .i64 c.slots, .int .i64 c.exact_, .int .u64 c.promote, .int .i64 c.depth, .int .i64 c.width, .int .i64 c.top, .int .i64 c.key, .slice C n k, .slice T q j, .int .u64 c.seed] 28))
  go_enter Try.func26, Try.ntmps26
  go_upto_region 1 with fail
  generalize w.alloc _ = w0 at *
  generalize w.heap.size = X at *
  refine wp_region_list ?_
  refine cfg_ld (.tmp 1) rfl B0.out rfl (by kernel_rfl) ?_
  simp only [Act.put, List.setIfInBounds_toArray, List.set_cons_zero, List.set_cons_succ]
  refine wl_want rfl ?_
  go_simp
  refine (HCl.out _).mono ?_
  rintro e w1 ⟨rfl, kk⟩
  have K1 := hide (K0.out.trans kk)
  have B1 := hide (B0.out.kept kk (fun h => h))
  clear kk B0 K0 HCl
  dsimp only
  refine wl_val (v := .bool false) (by kernel_rfl) (by kernel_rfl) ?_
  simp only [Act.put, List.setIfInBounds_toArray, List.set_cons_zero, List.set_cons_succ]
  refine wl_val (v := .bool false) (by kernel_rfl) (by kernel_rfl) ?_
  simp only [Act.put, List.setIfInBounds_toArray, List.set_cons_zero, List.set_cons_succ]
  refine cfg_ld (.tmp 1) rfl B1.out rfl (by kernel_rfl) ?_
  simp only [Act.put, List.setIfInBounds_toArray, List.set_cons_zero, List.set_cons_succ]
  refine wl_want rfl ?_
  go_simp
  refine (HRo.out _).mono ?_
  rintro e w2 ⟨rfl, kk⟩
  have K2 := hide (K1.out.trans kk)
  clear kk B1 K1 HRo
  dsimp only
  refine wl_val (v := .bool true) (by kernel_rfl) (by kernel_rfl) ?_
  simp only [Act.put, List.setIfInBounds_toArray, List.set_cons_zero, List.set_cons_succ]
  refine wl_with (N := 115) (i := 97) (v := .bool true) ?_ (fun HQ => ?_)
  · intro tm hs hv
    go_wp2_with fail
    refine wp_cond_true (by simp only [Act.eval]; exact hv) ?_
    go_wp2_with fail
    refine bodyPost_ret (v := .int .i64 11) (by simp [results, Try.results26, go_sem, hs]) rfl ⟨rfl, K2.out⟩
  exact sk_end _ _ (by kernel_rfl) HQ.out
theorem rconfig_any (l : List (Int × Int)) (hw : Wide l) (hp : 0 ≤ c.promote ∧ c.promote < 18446744073709551616) (hs : 0 ≤ c.seed ∧ c.seed < 18446744073709551616) (B : Nat) (hr : Rd w B C 2 n (prs l)) (hB : B ≤ w.heap.size) (hn : n ≤ 1000) : Calls Try.prog 26 #[Value.agg #[.int .i64 c.length, .int .i64 c.lateness, .int .i64 c.windows, .int .i64 c.shards, .int .i64 c.spread, .int .i64 c.queue, .int .i64 c.mode, .int .i64 c.slots, .int .i64 c.exact_, .int .u64 c.promote, .int .i64 c.depth, .int .i64 c.width, .int .i64 c.top, .int .i64 c.key, .slice C n k, .slice T q j, .int .u64 c.seed]] w fun e w' => e = .returned (.int .i64 (configE c l q)) ∧ Keeps (fun _ => False) w w' := by
  unfold configE
  rcases h1 : clockB c with _ | _
  · rw [if_pos (.inl rfl)]
    exact rconfig_b1 c C T n k q j w (hide (fun W => (rclock_bad c C T n k q j W h1).mono fun e w' h => And.intro (show e = Ending.returned (.int .i64 11) from h.1) (show Keeps (fun _ => False) W w' from keeps_eq_alloc h.2)))
  rcases h2 : routeB c q with _ | _
  · rw [if_pos (.inr (.inl rfl))]
    exact rconfig_b2 c C T n k q j w (hide (fun W => (rclock_fine c h1 C T n k q j W).mono fun e w' h => And.intro (show e = Ending.returned (.int .i64 0) from h.1) (show Keeps (fun _ => False) W w' from keeps_eq_alloc h.2))) (hide (fun W => (rrtcheck_bad c C T n k q j W (bad_of h2)).mono fun e w' h => And.intro (show e = Ending.returned (.int .i64 11) from h.1) (show Keeps (fun _ => False) W w' from keeps_eq_alloc h.2)))
  obtain ⟨hr2, hq⟩ := rtd_of h2 hs
  obtain rfl := hq
  have HCl := hide (fun W => (rclock_fine c h1 C T n k 16 j W).mono fun e w' h => And.intro (show e = Ending.returned (.int .i64 0) from h.1) (show Keeps (fun _ => False) W w' from keeps_eq_alloc h.2))
  have HRo := hide (fun W => (rrtcheck_ok c hr2 C T n k j W).mono fun e w' h => And.intro (show e = Ending.returned (.int .i64 0) from h.1) (show Keeps (fun _ => False) W w' from keeps_eq_alloc h.2))
  rcases h3 : numB c with _ | _
  · rw [if_pos (.inr (.inr (.inl rfl)))]
    exact rconfig_num c C T n k 16 j w rfl h3 HCl HRo
  obtain ⟨hf, _⟩ := fine_of h1 h2 h3 hp hs
  have HCs := hide (fun W (kW : Keeps (fun _ => False) w W) => rclasses_any l hw C n k B W (hr.kept kW (fun _ _ h => h)) (Nat.le_trans hB kW.size) (by omega))
  by_cases h4 : classesE l = 0
  · rw [if_neg (by simp [h4])]
    by_cases hm : lastSize l < most c
    · rw [if_pos hm]
      rw [h4] at HCs
      exact rconfig_room c C T n k 16 j w rfl h3 HCl HRo HCs l h4 hm hf.width B hr
    · rw [if_neg hm]
      exact config_ok2 c hf l h4 (room_of h4 hm) C T n k j B w (by rw [clv_prs]; exact hr) hB
  · rw [if_pos (.inr (.inr (.inr h4)))]
    exact rconfig_cls c C T n k 16 j w rfl h3 HCl HRo _ HCs h4
end
end Go.Proofs.Ytgjlibecgkhocaa
