/-
  Routing: the reference's Set and Route.
-/
import Derived.Test.YtgjlibecgkhocaaRw
import Derived.Deep.RegionHeld3
set_option linter.unusedVariables false
set_option linter.unusedSimpArgs false
namespace Go.Proofs.Ytgjlibecgkhocaa
open Go.RowKit Cfp

set_option maxRecDepth 100000 in
set_option maxHeartbeats 1000000 in
theorem rset_ok (c : Cfg) (h : Rtd c) (C T : Option Addr) (n k j B : Nat) (w : World) (zs : List Int) (hz : ∀ z ∈ zs, 0 ≤ z ∧ z < 18446744073709551616) (hr : Rd w B T 1 16 (zs.map (.int .u64))) (s : ByteArray) (hs : s.size ≤ 140737488351232) :
    Calls Try.prog 20 #[Value.agg #[.int .i64 c.length, .int .i64 c.lateness, .int .i64 c.windows, .int .i64 c.shards, .int .i64 c.spread, .int .i64 c.queue, .int .i64 c.mode, .int .i64 c.slots, .int .i64 c.exact_, .int .u64 c.promote, .int .i64 c.depth, .int .i64 c.width, .int .i64 c.top, .int .i64 c.key, .slice C n k, .slice T 16 j, .int .u64 c.seed], .string s] w (Lists w (setOf c (homeOf c zs s) c.spread.toNat)) := by
  have hb := home_bd c h zs s
  have HH := hide (fun W (hr : Rd W B T 1 16 (zs.map (.int .u64))) => rhome_ok c h C T n k j B W zs hz hr s hs)
  have CH := hide (fun W => rrtcheck_ok c h C T n k j W)
  obtain ⟨hm, hhm⟩ : ∃ hm, hm = homeOf c zs s := ⟨_, rfl⟩
  rw [← hhm] at HH hb ⊢
  have HA := hide (fun W => after_ok c h C T n k j W hm hb)
  have HR := hide hr
  have bX := hide (Blk.new w 28 #[.int .i64 c.length, .int .i64 c.lateness, .int .i64 c.windows, .int .i64 c.shards, .int .i64 c.spread, .int .i64 c.queue, .int .i64 c.mode, .int .i64 c.slots, .int .i64 c.exact_, .int .u64 c.promote, .int .i64 c.depth, .int .i64 c.width, .int .i64 c.top, .int .i64 c.key, .slice C n k, .slice T 16 j, .int .u64 c.seed])
  have kX := (Keeps.refl (fun _ => False) w).alloc (.cells #[.int .i64 c.length, .int .i64 c.lateness, .int .i64 c.windows, .int .i64 c.shards, .int .i64 c.spread, .int .i64 c.queue, .int .i64 c.mode, .int .i64 c.slots, .int .i64 c.exact_, .int .u64 c.promote, .int .i64 c.depth, .int .i64 c.width, .int .i64 c.top, .int .i64 c.key, .slice C n k, .slice T 16 j, .int .u64 c.seed] 28)
  clear hr hhm
  go_enter Try.func20, Try.ntmps20
  go_wp2_with (refine cfg_ld _ rfl bX.out rfl (by rfl) ?_; simp only [Act.put, List.setIfInBounds_toArray, List.set_cons_zero, List.set_cons_succ])
  refine (CH.out _).mono ?_
  rintro e w1 ⟨rfl, hw1⟩
  have k1 : Keeps (fun _ => False) (w.alloc (.cells #[.int .i64 c.length, .int .i64 c.lateness, .int .i64 c.windows, .int .i64 c.shards, .int .i64 c.spread, .int .i64 c.queue, .int .i64 c.mode, .int .i64 c.slots, .int .i64 c.exact_, .int .u64 c.promote, .int .i64 c.depth, .int .i64 c.width, .int .i64 c.top, .int .i64 c.key, .slice C n k, .slice T 16 j, .int .u64 c.seed] 28)) w1 := by rw [hw1]; exact (Keeps.refl _ _).alloc _
  have K1 := hide (kX.trans k1)
  have HR1 := hide (HR.out.kept K1.out (fun _ _ h => h))
  have BX1 := hide (bX.out.kept k1 (fun h => h))
  clear k1 hw1 HR kX bX
  go_upto_region 3 with fail
  trace "R3"
  refine wp_region_held_drew (S := fun w' => Blk w' w.heap.size 28 #[.int .i64 c.length, .int .i64 c.lateness, .int .i64 c.windows, .int .i64 c.shards, .int .i64 c.spread, .int .i64 c.queue, .int .i64 c.mode, .int .i64 c.slots, .int .i64 c.exact_, .int .u64 c.promote, .int .i64 c.depth, .int .i64 c.width, .int .i64 c.top, .int .i64 c.key, .slice C n k, .slice T 16 j, .int .u64 c.seed]) (by kernel_rfl) (BX1.out.drew) (fun hHeld => ?_)
  refine wpAnyH_take (i := 0) (v := _) rfl (by kernel_rfl) (by kernel_rfl) (by kernel_rfl) (fun _ _ _ h => h) (cfg_yields (c := c) (C := C) (T := T) (n := n) (k := k) (q := 16) (j := j) (g := w.heap.size) (.tmp 2) rfl (fun _ h => h) (by simp [Act.eval, Act.put]) (by kernel_rfl)) (by assumption) ?_
  simp only [Act.put, List.setIfInBounds_toArray, List.set_cons_zero, List.set_cons_succ]
  refine wpAnyH_take (i := 1) (v := _) rfl (by kernel_rfl) (by kernel_rfl) (by kernel_rfl) (fun _ _ _ h => h) (cfg_yields (c := c) (C := C) (T := T) (n := n) (k := k) (q := 16) (j := j) (g := w.heap.size) (.tmp 2) rfl (fun _ h => h) (by simp [Act.eval, Act.put]) (by kernel_rfl)) (by assumption) ?_
  simp only [Act.put, List.setIfInBounds_toArray, List.set_cons_zero, List.set_cons_succ]
  refine wpAnyH_take (i := 2) (v := ?_) rfl (by kernel_rfl) (by kernel_rfl) (by kernel_rfl) (fun _ _ _ h => h) (Or.inl ⟨by kernel_rfl, ?_⟩) (by assumption) ?_; rotate_left; focus (intro w hSw; (try dsimp only at hSw); go_simp; try (with_reducible rfl)); (try simp only [Act.put, List.setIfInBounds_toArray, List.set_cons_zero, List.set_cons_succ])
  refine wpAnyH_ready (rs := [3]) (by kernel_rfl) (by simp) ?_
  refine AllReadyH.cons rfl (fun K hK => ?_) AllReadyH.nil
  go_simp
  go_at_call 17
  refine (HH.out _ HR1.out.drew).mono ?_
  rintro e w6 ⟨rfl, k6⟩
  have k6' : Keeps (fun _ => False) w1 w6 := ((Keeps.refl (fun _ => False) w1).drew).trans k6
  have K6 := hide (K1.out.trans k6')
  have BX6 := hide (BX1.out.kept k6' (fun h => h))
  try go_wp2_with fail
  refine hK.out _ _ BX6.out (fun hHeld2 => ?_)
  clear hK K k6 k6' hHeld
  try simp only [Act.put, List.setIfInBounds_toArray, List.set_cons_zero, List.set_cons_succ]
  refine wpAnyH_ready (rs := [4]) (by kernel_rfl) (by simp) ?_
  refine AllReadyH.cons rfl (fun K hK => ?_) AllReadyH.nil
  go_simp
  go_at_call 45
  refine (HA.out _).mono ?_
  rintro e w7 ⟨A, cc, rfl, lc, cm, rl, k7⟩
  have K7 := hide (K6.out.trans k7)
  have BX7 := hide (BX6.out.kept k7 (fun h => h))
  have RL := hide rl
  try go_wp2_with fail
  refine hK.out _ _ BX7.out (fun hHeld3 => ?_)
  clear hK K k7 hHeld2 rl
  try simp only [Act.put, List.setIfInBounds_toArray, List.set_cons_zero, List.set_cons_succ]
  refine wpAnyH_take (i := 5) (v := ?_) rfl (by kernel_rfl) (by kernel_rfl) (by kernel_rfl) (fun _ _ _ h => h) (Or.inl ⟨by kernel_rfl, ?_⟩) (by assumption) ?_; rotate_left; focus (intro w hSw; (try dsimp only at hSw); go_simp; try (with_reducible rfl)); (try simp only [Act.put, List.setIfInBounds_toArray, List.set_cons_zero, List.set_cons_succ])
  refine wpAnyH_done (by kernel_rfl) ?_ _
  clear hHeld3
  trace "DONE"
  go_wp2_with fail
  go_ret
  exact ⟨A, cc, rfl, lc, cm, RL.out, K7.out⟩
end Go.Proofs.Ytgjlibecgkhocaa
