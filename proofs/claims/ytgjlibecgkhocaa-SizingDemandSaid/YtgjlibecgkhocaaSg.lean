/-
  SizingGrows: more shards, windows, keys, events or rows never need fewer slots; the walk. No conditions beyond those of the statement.
-/
import Derived.Test.YtgjlibecgkhocaaSm
import Derived.Test.YtgjlibecgkhocaaSu
import Derived.Test.YtgjlibecgkhocaaMem2
import Derived.Deep.CutRange
import Derived.Deep.RegionHeld3
set_option linter.unusedVariables false
set_option linter.unusedSimpArgs false
namespace Go.Proofs.Ytgjlibecgkhocaa
open Go.RowKit Cfp

theorem between_out (x a b : Int) (h : b < x) (w : World) :
    Calls Try.prog 58 #[.int .i64 x, .int .i64 a, .int .i64 b] w fun e w' => e = .returned (.bool false) ∧ w = w' := by
  by_cases h0 : a ≤ x
  · go_enter Try.func58, Try.ntmps58
    go_wp2_with fail
    go_ret
    exact ⟨ret_bool (by simp; omega), rfl⟩
  · go_enter Try.func58, Try.ntmps58
    go_wp2_with fail
    go_ret
    exact ⟨by first | rfl | exact ret_bool (by simp; omega), rfl⟩
set_option maxRecDepth 100000 in
set_option maxHeartbeats 1000000 in
theorem numbers_queue (c : Cfg) (h : 64 < c.queue) (C T : Option Addr) (n k m j : Nat) (w : World) :
    Calls Try.prog 48 #[Value.agg #[.int .i64 c.length, .int .i64 c.lateness, .int .i64 c.windows, .int .i64 c.shards, .int .i64 c.spread, .int .i64 c.queue, .int .i64 c.mode, .int .i64 c.slots, .int .i64 c.exact_, .int .u64 c.promote, .int .i64 c.depth, .int .i64 c.width, .int .i64 c.top, .int .i64 c.key, .slice C n k, .slice T m j, .int .u64 c.seed]] w fun e w' => e = .returned (.bool false) ∧ w' = w.alloc (.cells #[.int .i64 c.length, .int .i64 c.lateness, .int .i64 c.windows, .int .i64 c.shards, .int .i64 c.spread, .int .i64 c.queue, .int .i64 c.mode, .int .i64 c.slots, .int .i64 c.exact_, .int .u64 c.promote, .int .i64 c.depth, .int .i64 c.width, .int .i64 c.top, .int .i64 c.key, .slice C n k, .slice T m j, .int .u64 c.seed] 28) := by
  have hb1 := hide (fun W => between_out c.queue 1 64 h W)
  clear h
  go_enter Try.func48, Try.ntmps48
  go_wp2_with fail
  refine (hb1.out _).mono ?_
  rintro e w1 ⟨rfl, rfl⟩
  go_wp2_with fail
  go_ret
  exact ⟨rfl, rfl⟩
/-- too long a queue -/
theorem scheck_queue (c : Cfg) (h : Fine { c with queue := 1 }) (hq : 64 < c.queue) (C T : Option Addr) (n k j B : Nat) (w : World) :
    Calls Try.prog 25 #[Value.agg #[.int .i64 c.length, .int .i64 c.lateness, .int .i64 c.windows, .int .i64 c.shards, .int .i64 c.spread, .int .i64 c.queue, .int .i64 c.mode, .int .i64 c.slots, .int .i64 c.exact_, .int .u64 c.promote, .int .i64 c.depth, .int .i64 c.width, .int .i64 c.top, .int .i64 c.key, .slice C n k, .slice T 16 j, .int .u64 c.seed]] w fun e w' => e = .returned (.int .i64 11) ∧ Keeps (fun _ => False) w w' := by
  have h1 := h.length
  have h2 := h.lateness
  have h3 := h.windows
  dsimp only at h1 h2 h3
  have HRtd := hide (show Rtd c from ⟨h.shards, h.spread, h.seed⟩)
  have B0 := hide (Blk.new w 28 #[.int .i64 c.length, .int .i64 c.lateness, .int .i64 c.windows, .int .i64 c.shards, .int .i64 c.spread, .int .i64 c.queue, .int .i64 c.mode, .int .i64 c.slots, .int .i64 c.exact_, .int .u64 c.promote, .int .i64 c.depth, .int .i64 c.width, .int .i64 c.top, .int .i64 c.key, .slice C n k, .slice T 16 j, .int .u64 c.seed])
  have K0 := hide ((Keeps.refl (fun _ => False) w).alloc (.cells #[.int .i64 c.length, .int .i64 c.lateness, .int .i64 c.windows, .int .i64 c.shards, .int .i64 c.spread, .int .i64 c.queue, .int .i64 c.mode, .int .i64 c.slots, .int .i64 c.exact_, .int .u64 c.promote, .int .i64 c.depth, .int .i64 c.width, .int .i64 c.top, .int .i64 c.key, .slice C n k, .slice T 16 j, .int .u64 c.seed] 28))
  have HCl : Hid (∀ W, Calls Try.prog 47 #[Value.agg #[.int .i64 c.length, .int .i64 c.lateness, .int .i64 c.windows, .int .i64 c.shards, .int .i64 c.spread, .int .i64 c.queue, .int .i64 c.mode, .int .i64 c.slots, .int .i64 c.exact_, .int .u64 c.promote, .int .i64 c.depth, .int .i64 c.width, .int .i64 c.top, .int .i64 c.key, .slice C n k, .slice T 16 j, .int .u64 c.seed]] W fun e w' => e = .returned (.int .i64 0) ∧ w' = W.alloc (.cells #[.int .i64 c.length, .int .i64 c.lateness, .int .i64 c.windows, .int .i64 c.shards, .int .i64 c.spread, .int .i64 c.queue, .int .i64 c.mode, .int .i64 c.slots, .int .i64 c.exact_, .int .u64 c.promote, .int .i64 c.depth, .int .i64 c.width, .int .i64 c.top, .int .i64 c.key, .slice C n k, .slice T 16 j, .int .u64 c.seed] 28)) := by
    intro W
    go_enter Try.func47, Try.ntmps47
    go_wp2_with fail
    go_ret
    exact ⟨rfl, rfl⟩
  have HNu := hide (fun W => numbers_queue c hq C T n k 16 j W)
  clear h hq h1 h2 h3
  go_enter Try.func25, Try.ntmps25
  go_wp2_with (refine cfg_ld _ rfl B0.out rfl (by rfl) ?_; simp only [Act.put, List.setIfInBounds_toArray, List.set_cons_zero, List.set_cons_succ])
  refine (HCl.out _).mono ?_
  rintro e w1 ⟨rfl, hw⟩
  have kk : Keeps (fun _ => False) (w.alloc (.cells #[.int .i64 c.length, .int .i64 c.lateness, .int .i64 c.windows, .int .i64 c.shards, .int .i64 c.spread, .int .i64 c.queue, .int .i64 c.mode, .int .i64 c.slots, .int .i64 c.exact_, .int .u64 c.promote, .int .i64 c.depth, .int .i64 c.width, .int .i64 c.top, .int .i64 c.key, .slice C n k, .slice T 16 j, .int .u64 c.seed] 28)) w1 := by rw [hw]; exact (Keeps.refl _ _).alloc _
  have K1 := hide (K0.out.trans kk)
  have B1 := hide (B0.out.kept kk (fun h => h))
  clear hw kk K0 B0
  go_wp2_with (refine cfg_ld _ rfl B1.out rfl (by rfl) ?_; simp only [Act.put, List.setIfInBounds_toArray, List.set_cons_zero, List.set_cons_succ])
  refine (rtcheck_ok c HRtd.out _ _ _ _ _ _).mono ?_
  rintro e w2 ⟨rfl, hw⟩
  have kk : Keeps (fun _ => False) w1 w2 := by rw [hw]; exact (Keeps.refl _ _).alloc _
  have K2 := hide (K1.out.trans kk)
  have B2 := hide (B1.out.kept kk (fun h => h))
  clear hw kk K1 B1
  go_wp2_with (refine cfg_ld _ rfl B2.out rfl (by rfl) ?_; simp only [Act.put, List.setIfInBounds_toArray, List.set_cons_zero, List.set_cons_succ])
  refine (HNu.out _).mono ?_
  rintro e w3 ⟨rfl, hw⟩
  have kk : Keeps (fun _ => False) w2 w3 := by rw [hw]; exact (Keeps.refl _ _).alloc _
  have K3 := hide (K2.out.trans kk)
  clear hw kk K2 B2
  go_wp2_with fail
  go_ret
  exact ⟨rfl, K3.out⟩
end Go.Proofs.Ytgjlibecgkhocaa
