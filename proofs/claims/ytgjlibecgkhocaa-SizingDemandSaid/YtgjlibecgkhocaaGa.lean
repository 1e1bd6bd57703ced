/-
  What clock and sizing say of the numbers of a configuration that is refused. No conditions beyond those of the statement.
-/
import Derived.Test.YtgjlibecgkhocaaSz
set_option linter.unusedVariables false
set_option linter.unusedSimpArgs false
namespace Go.Proofs.Ytgjlibecgkhocaa
open Go.RowKit Cfp
theorem rclock_bad (c : Cfg) (C T : Option Addr) (n k m j : Nat) (w : World) (hb : clockB c = false) :
    Calls Try.prog 50 #[Value.agg #[.int .i64 c.length, .int .i64 c.lateness, .int .i64 c.windows, .int .i64 c.shards, .int .i64 c.spread, .int .i64 c.queue, .int .i64 c.mode, .int .i64 c.slots, .int .i64 c.exact_, .int .u64 c.promote, .int .i64 c.depth, .int .i64 c.width, .int .i64 c.top, .int .i64 c.key, .slice C n k, .slice T m j, .int .u64 c.seed]] w fun e w' => e = .returned (.int .i64 11) ∧ w' = w.alloc (.cells #[.int .i64 c.length, .int .i64 c.lateness, .int .i64 c.windows, .int .i64 c.shards, .int .i64 c.spread, .int .i64 c.queue, .int .i64 c.mode, .int .i64 c.slots, .int .i64 c.exact_, .int .u64 c.promote, .int .i64 c.depth, .int .i64 c.width, .int .i64 c.top, .int .i64 c.key, .slice C n k, .slice T m j, .int .u64 c.seed] 28) := by
  have HB := hide hb
  clear hb
  by_cases h0 : c.length < 1
  · go_enter Try.func50, Try.ntmps50
    go_wp2_with fail
    go_ret
    exact ⟨rfl, rfl⟩
  by_cases h1 : 1048576 < c.length
  · go_enter Try.func50, Try.ntmps50
    go_wp2_with fail
    go_ret
    exact ⟨rfl, rfl⟩
  by_cases h2 : c.lateness < 0
  · go_enter Try.func50, Try.ntmps50
    go_wp2_with fail
    go_ret
    exact ⟨rfl, rfl⟩
  by_cases h3 : 1048576 < c.lateness
  · go_enter Try.func50, Try.ntmps50
    go_wp2_with fail
    go_ret
    exact ⟨rfl, rfl⟩
  by_cases h4 : c.windows < 1
  · go_enter Try.func50, Try.ntmps50
    go_wp2_with fail
    go_ret
    exact ⟨rfl, rfl⟩
  by_cases h5 : 8 < c.windows
  · go_enter Try.func50, Try.ntmps50
    go_wp2_with fail
    go_ret
    exact ⟨rfl, rfl⟩
  exfalso
  have h := HB.out
  unfold clockB at h
  simp at h
  omega
theorem sclock_bad (c : Cfg) (C T : Option Addr) (n k m j : Nat) (w : World) (hb : clockB c = false) :
    Calls Try.prog 47 #[Value.agg #[.int .i64 c.length, .int .i64 c.lateness, .int .i64 c.windows, .int .i64 c.shards, .int .i64 c.spread, .int .i64 c.queue, .int .i64 c.mode, .int .i64 c.slots, .int .i64 c.exact_, .int .u64 c.promote, .int .i64 c.depth, .int .i64 c.width, .int .i64 c.top, .int .i64 c.key, .slice C n k, .slice T m j, .int .u64 c.seed]] w fun e w' => e = .returned (.int .i64 11) ∧ w' = w.alloc (.cells #[.int .i64 c.length, .int .i64 c.lateness, .int .i64 c.windows, .int .i64 c.shards, .int .i64 c.spread, .int .i64 c.queue, .int .i64 c.mode, .int .i64 c.slots, .int .i64 c.exact_, .int .u64 c.promote, .int .i64 c.depth, .int .i64 c.width, .int .i64 c.top, .int .i64 c.key, .slice C n k, .slice T m j, .int .u64 c.seed] 28) := by
  have HB := hide hb
  clear hb
  by_cases h0 : c.length < 1
  · go_enter Try.func47, Try.ntmps47
    go_wp2_with fail
    go_ret
    exact ⟨rfl, rfl⟩
  by_cases h1 : 1048576 < c.length
  · go_enter Try.func47, Try.ntmps47
    go_wp2_with fail
    go_ret
    exact ⟨rfl, rfl⟩
  by_cases h2 : c.lateness < 0
  · go_enter Try.func47, Try.ntmps47
    go_wp2_with fail
    go_ret
    exact ⟨rfl, rfl⟩
  by_cases h3 : 1048576 < c.lateness
  · go_enter Try.func47, Try.ntmps47
    go_wp2_with fail
    go_ret
    exact ⟨rfl, rfl⟩
  by_cases h4 : c.windows < 1
  · go_enter Try.func47, Try.ntmps47
    go_wp2_with fail
    go_ret
    exact ⟨rfl, rfl⟩
  by_cases h5 : 8 < c.windows
  · go_enter Try.func47, Try.ntmps47
    go_wp2_with fail
    go_ret
    exact ⟨rfl, rfl⟩
  exfalso
  have h := HB.out
  unfold clockB at h
  simp at h
  omega
theorem rclock_fine (c : Cfg) (hc : clockB c = true) (C T : Option Addr) (n k m j : Nat) (w : World) :
    Calls Try.prog 50 #[Value.agg #[.int .i64 c.length, .int .i64 c.lateness, .int .i64 c.windows, .int .i64 c.shards, .int .i64 c.spread, .int .i64 c.queue, .int .i64 c.mode, .int .i64 c.slots, .int .i64 c.exact_, .int .u64 c.promote, .int .i64 c.depth, .int .i64 c.width, .int .i64 c.top, .int .i64 c.key, .slice C n k, .slice T m j, .int .u64 c.seed]] w fun e w' => e = .returned (.int .i64 0) ∧ w' = w.alloc (.cells #[.int .i64 c.length, .int .i64 c.lateness, .int .i64 c.windows, .int .i64 c.shards, .int .i64 c.spread, .int .i64 c.queue, .int .i64 c.mode, .int .i64 c.slots, .int .i64 c.exact_, .int .u64 c.promote, .int .i64 c.depth, .int .i64 c.width, .int .i64 c.top, .int .i64 c.key, .slice C n k, .slice T m j, .int .u64 c.seed] 28) := by
  unfold clockB at hc
  simp at hc
  obtain ⟨h1, h2, h3, h4, h5, h6⟩ := hc
  go_enter Try.func50, Try.ntmps50
  go_wp2_with fail
  go_ret
  exact ⟨rfl, rfl⟩
theorem between_any (x a b : Int) (w : World) :
    Calls Try.prog 58 #[.int .i64 x, .int .i64 a, .int .i64 b] w fun e w' => e = .returned (.bool (decide (a ≤ x) && decide (x ≤ b))) ∧ w = w' := by
  by_cases h1 : a ≤ x
  · by_cases h2 : x ≤ b
    · go_enter Try.func58, Try.ntmps58
      go_wp2_with fail
      go_ret
      exact ⟨by simp [h1, h2], rfl⟩
    · go_enter Try.func58, Try.ntmps58
      go_wp2_with fail
      go_ret
      exact ⟨by simp [h1, h2], rfl⟩
  · go_enter Try.func58, Try.ntmps58
    go_wp2_with fail
    go_ret
    exact ⟨by simp [show ¬ a ≤ x by omega], rfl⟩
set_option maxRecDepth 100000 in
set_option maxHeartbeats 2000000 in
theorem numbers_bad (c : Cfg) (C T : Option Addr) (n k m j : Nat) (w : World) (hb : numB c = false) :
    Calls Try.prog 48 #[Value.agg #[.int .i64 c.length, .int .i64 c.lateness, .int .i64 c.windows, .int .i64 c.shards, .int .i64 c.spread, .int .i64 c.queue, .int .i64 c.mode, .int .i64 c.slots, .int .i64 c.exact_, .int .u64 c.promote, .int .i64 c.depth, .int .i64 c.width, .int .i64 c.top, .int .i64 c.key, .slice C n k, .slice T m j, .int .u64 c.seed]] w fun e w' => e = .returned (.bool false) ∧ w' = w.alloc (.cells #[.int .i64 c.length, .int .i64 c.lateness, .int .i64 c.windows, .int .i64 c.shards, .int .i64 c.spread, .int .i64 c.queue, .int .i64 c.mode, .int .i64 c.slots, .int .i64 c.exact_, .int .u64 c.promote, .int .i64 c.depth, .int .i64 c.width, .int .i64 c.top, .int .i64 c.key, .slice C n k, .slice T m j, .int .u64 c.seed] 28) := by
  have HB := hide hb
  clear hb
  obtain ⟨b0, hb0⟩ : ∃ b, b = (decide (1 ≤ c.queue) && decide (c.queue ≤ 64)) := ⟨_, rfl⟩
  have H0 := hide (fun W => between_any c.queue 1 64 W)
  rw [← hb0] at H0
  have B0 := hide hb0
  clear hb0
  obtain ⟨b2, hb2⟩ : ∃ b, b = (decide (1 ≤ c.slots) && decide (c.slots ≤ 64)) := ⟨_, rfl⟩
  have H2 := hide (fun W => between_any c.slots 1 64 W)
  rw [← hb2] at H2
  have B2 := hide hb2
  clear hb2
  obtain ⟨b3, hb3⟩ : ∃ b, b = (decide (0 ≤ c.exact_) && decide (c.exact_ ≤ 32)) := ⟨_, rfl⟩
  have H3 := hide (fun W => between_any c.exact_ 0 32 W)
  rw [← hb3] at H3
  have B3 := hide hb3
  clear hb3
  obtain ⟨b4, hb4⟩ : ∃ b, b = (decide (1 ≤ c.depth) && decide (c.depth ≤ 4)) := ⟨_, rfl⟩
  have H4 := hide (fun W => between_any c.depth 1 4 W)
  rw [← hb4] at H4
  have B4 := hide hb4
  clear hb4
  obtain ⟨b5, hb5⟩ : ∃ b, b = (decide (1 ≤ c.width) && decide (c.width ≤ 256)) := ⟨_, rfl⟩
  have H5 := hide (fun W => between_any c.width 1 256 W)
  rw [← hb5] at H5
  have B5 := hide hb5
  clear hb5
  obtain ⟨b6, hb6⟩ : ∃ b, b = (decide (1 ≤ c.top) && decide (c.top ≤ 64)) := ⟨_, rfl⟩
  have H6 := hide (fun W => between_any c.top 1 64 W)
  rw [← hb6] at H6
  have B6 := hide hb6
  clear hb6
  obtain ⟨b7, hb7⟩ : ∃ b, b = (decide (1 ≤ c.key) && decide (c.key ≤ 255)) := ⟨_, rfl⟩
  have H7 := hide (fun W => between_any c.key 1 255 W)
  rw [← hb7] at H7
  have B7 := hide hb7
  clear hb7
  rcases b0 with _ | _
  ·
    go_enter Try.func48, Try.ntmps48
    go_wp2_with fail
    refine (H0.out _).mono ?_
    rintro e w1 ⟨rfl, rfl⟩
    go_wp2_with fail
    go_ret
    exact ⟨rfl, rfl⟩
  have hmd : ((c.mode == 1) = true) ∨ ((c.mode == 1) = false ∧ (c.mode == 2) = true) ∨ ((c.mode == 1) = false ∧ (c.mode == 2) = false) := by
    by_cases h : c.mode = 1
    · left; simp [h]
    · right
      by_cases h2 : c.mode = 2
      · left; simp [h2]
      · right; simp [h, h2]
  rcases hmd with e1 | ⟨e1, e2⟩ | ⟨e1, e2⟩
  rotate_left 2
  ·
    go_enter Try.func48, Try.ntmps48
    go_wp2_with fail
    refine (H0.out _).mono ?_
    rintro e w1 ⟨rfl, rfl⟩
    go_wp2_with fail
    go_ret
    exact ⟨rfl, rfl⟩
  all_goals
    have hmode : c.mode = 1 ∨ c.mode = 2 := by first | (left; simpa using e1) | (right; simpa using e2)
    have HMo := hide hmode
    clear hmode
    rcases b2 with _ | _
    ·
      go_enter Try.func48, Try.ntmps48
      go_wp2_with fail
      refine (H0.out _).mono ?_
      rintro e w1 ⟨rfl, rfl⟩
      go_wp2_with fail
      refine (H2.out _).mono ?_
      rintro e w1 ⟨rfl, rfl⟩
      go_wp2_with fail
      go_ret
      exact ⟨rfl, rfl⟩
    rcases b3 with _ | _
    ·
      go_enter Try.func48, Try.ntmps48
      go_wp2_with fail
      refine (H0.out _).mono ?_
      rintro e w1 ⟨rfl, rfl⟩
      go_wp2_with fail
      refine (H2.out _).mono ?_
      rintro e w1 ⟨rfl, rfl⟩
      go_wp2_with fail
      refine (H3.out _).mono ?_
      rintro e w1 ⟨rfl, rfl⟩
      go_wp2_with fail
      go_ret
      exact ⟨rfl, rfl⟩
    rcases b4 with _ | _
    ·
      go_enter Try.func48, Try.ntmps48
      go_wp2_with fail
      refine (H0.out _).mono ?_
      rintro e w1 ⟨rfl, rfl⟩
      go_wp2_with fail
      refine (H2.out _).mono ?_
      rintro e w1 ⟨rfl, rfl⟩
      go_wp2_with fail
      refine (H3.out _).mono ?_
      rintro e w1 ⟨rfl, rfl⟩
      go_wp2_with fail
      refine (H4.out _).mono ?_
      rintro e w1 ⟨rfl, rfl⟩
      go_wp2_with fail
      go_ret
      exact ⟨rfl, rfl⟩
    rcases b5 with _ | _
    ·
      go_enter Try.func48, Try.ntmps48
      go_wp2_with fail
      refine (H0.out _).mono ?_
      rintro e w1 ⟨rfl, rfl⟩
      go_wp2_with fail
      refine (H2.out _).mono ?_
      rintro e w1 ⟨rfl, rfl⟩
      go_wp2_with fail
      refine (H3.out _).mono ?_
      rintro e w1 ⟨rfl, rfl⟩
      go_wp2_with fail
      refine (H4.out _).mono ?_
      rintro e w1 ⟨rfl, rfl⟩
      go_wp2_with fail
      refine (H5.out _).mono ?_
      rintro e w1 ⟨rfl, rfl⟩
      go_wp2_with fail
      go_ret
      exact ⟨rfl, rfl⟩
    rcases b6 with _ | _
    ·
      go_enter Try.func48, Try.ntmps48
      go_wp2_with fail
      refine (H0.out _).mono ?_
      rintro e w1 ⟨rfl, rfl⟩
      go_wp2_with fail
      refine (H2.out _).mono ?_
      rintro e w1 ⟨rfl, rfl⟩
      go_wp2_with fail
      refine (H3.out _).mono ?_
      rintro e w1 ⟨rfl, rfl⟩
      go_wp2_with fail
      refine (H4.out _).mono ?_
      rintro e w1 ⟨rfl, rfl⟩
      go_wp2_with fail
      refine (H5.out _).mono ?_
      rintro e w1 ⟨rfl, rfl⟩
      go_wp2_with fail
      refine (H6.out _).mono ?_
      rintro e w1 ⟨rfl, rfl⟩
      go_wp2_with fail
      go_ret
      exact ⟨rfl, rfl⟩
    rcases b7 with _ | _
    ·
      go_enter Try.func48, Try.ntmps48
      go_wp2_with fail
      refine (H0.out _).mono ?_
      rintro e w1 ⟨rfl, rfl⟩
      go_wp2_with fail
      refine (H2.out _).mono ?_
      rintro e w1 ⟨rfl, rfl⟩
      go_wp2_with fail
      refine (H3.out _).mono ?_
      rintro e w1 ⟨rfl, rfl⟩
      go_wp2_with fail
      refine (H4.out _).mono ?_
      rintro e w1 ⟨rfl, rfl⟩
      go_wp2_with fail
      refine (H5.out _).mono ?_
      rintro e w1 ⟨rfl, rfl⟩
      go_wp2_with fail
      refine (H6.out _).mono ?_
      rintro e w1 ⟨rfl, rfl⟩
      go_wp2_with fail
      refine (H7.out _).mono ?_
      rintro e w1 ⟨rfl, rfl⟩
      go_wp2_with fail
      go_ret
      exact ⟨rfl, rfl⟩
    exfalso
    have h := HB.out
    have h0 := B0.out
    have h1 := HMo.out
    have h2 := B2.out
    have h3 := B3.out
    have h4 := B4.out
    have h5 := B5.out
    have h6 := B6.out
    have h7 := B7.out
    unfold numB at h
    simp at h h0 h2 h3 h4 h5 h6 h7
    omega
end Go.Proofs.Ytgjlibecgkhocaa
