/-
  sizing.Check of a valid configuration gives OK: the walk.
-/
import Derived.Test.YtgjlibecgkhocaaSz
import Derived.Test.YtgjlibecgkhocaaCf2
set_option linter.unusedVariables false
set_option linter.unusedSimpArgs false
namespace Go.Proofs.Ytgjlibecgkhocaa
open Go.RowKit Cfp

set_option maxRecDepth 100000 in
set_option maxHeartbeats 1500000 in
theorem scheck_ok (c : Cfg) (h : Fine c) (l : List (Int × Int)) (hl : classesE l = 0) (hm : Room c l) (C T : Option Addr) (n k j B : Nat) (w : World) (hr : Rd w B C 2 n (clv l)) (hB : B ≤ w.heap.size) :
    Calls Try.prog 25 #[Value.agg #[.int .i64 c.length, .int .i64 c.lateness, .int .i64 c.windows, .int .i64 c.shards, .int .i64 c.spread, .int .i64 c.queue, .int .i64 c.mode, .int .i64 c.slots, .int .i64 c.exact_, .int .u64 c.promote, .int .i64 c.depth, .int .i64 c.width, .int .i64 c.top, .int .i64 c.key, .slice C n k, .slice T 16 j, .int .u64 c.seed]] w fun e w' => e = .returned (.int .i64 0) ∧ Keeps (fun _ => False) w w' := by
  obtain ⟨p, d, hp, hd, hm1, hm2, hm3⟩ := hm
  have hlen : l.length = n := by have := hr.1; rw [clv_len] at this; omega
  obtain ⟨⟨n0, n1⟩, hb⟩ := classes_bd l hl
  obtain rfl : n = p + 1 := by omega
  have HR := hide hr
  have HD := hide (clv_at l p d hd).1
  have h6 := h.width
  have h8 := h.key
  have hp7 : p ≤ 7 := by omega
  have hmx := fun ts t x y z u w => run_max4 (P := Try.prog) ts t x y z u w
  have hmy : decide (d.1 < max (max (max (8 * c.width) 32) 24) c.key) = false := by simp; omega
  have HY := hide (And.intro hm1 (And.intro hm2 hm3))
  have HRtd := hide (show Rtd c from ⟨h.shards, h.spread, h.seed⟩)
  have B0 := hide (Blk.new w 28 #[.int .i64 c.length, .int .i64 c.lateness, .int .i64 c.windows, .int .i64 c.shards, .int .i64 c.spread, .int .i64 c.queue, .int .i64 c.mode, .int .i64 c.slots, .int .i64 c.exact_, .int .u64 c.promote, .int .i64 c.depth, .int .i64 c.width, .int .i64 c.top, .int .i64 c.key, .slice C (p + 1) k, .slice T 16 j, .int .u64 c.seed])
  have K0 := hide ((Keeps.refl (fun _ => False) w).alloc (.cells #[.int .i64 c.length, .int .i64 c.lateness, .int .i64 c.windows, .int .i64 c.shards, .int .i64 c.spread, .int .i64 c.queue, .int .i64 c.mode, .int .i64 c.slots, .int .i64 c.exact_, .int .u64 c.promote, .int .i64 c.depth, .int .i64 c.width, .int .i64 c.top, .int .i64 c.key, .slice C (p + 1) k, .slice T 16 j, .int .u64 c.seed] 28))
  clear hr hp hd hlen n0 n1 hb hm1 hm2 hm3
  go_enter Try.func25, Try.ntmps25
  go_wp2_with (refine cfg_ld _ rfl B0.out rfl (by rfl) ?_; simp only [Act.put, List.setIfInBounds_toArray, List.set_cons_zero, List.set_cons_succ])
  refine (sclock_ok c h _ _ _ _ _ _ _).mono ?_
  rintro e w1 ⟨rfl, hw⟩
  have kk : Keeps (fun _ => False) (w.alloc (.cells #[.int .i64 c.length, .int .i64 c.lateness, .int .i64 c.windows, .int .i64 c.shards, .int .i64 c.spread, .int .i64 c.queue, .int .i64 c.mode, .int .i64 c.slots, .int .i64 c.exact_, .int .u64 c.promote, .int .i64 c.depth, .int .i64 c.width, .int .i64 c.top, .int .i64 c.key, .slice C (p + 1) k, .slice T 16 j, .int .u64 c.seed] 28)) w1 := by rw [hw]; exact (Keeps.refl _ _).alloc _
  have K1 := hide (K0.out.trans kk)
  have B1 := hide (B0.out.kept kk (fun h => h))
  clear hw kk K0 B0
  go_wp2_with (refine cfg_ld _ rfl B1.out rfl (by rfl) ?_; simp only [Act.put, List.setIfInBounds_toArray, List.set_cons_zero, List.set_cons_succ])
  refine (rtcheck_ok c HRtd.out _ _ _ _ _ _).mono ?_
  rintro e w2 ⟨rfl, hw⟩
  have kk : Keeps (fun _ => False) w1 w2 := by rw [hw]; exact (Keeps.refl _ _).alloc _
  have K2 := hide (K1.out.trans kk)
  have B2 := hide (B1.out.kept kk (fun h => h))
  clear hw kk K1 B1
  go_wp2_with (refine cfg_ld _ rfl B2.out rfl (by rfl) ?_; simp only [Act.put, List.setIfInBounds_toArray, List.set_cons_zero, List.set_cons_succ])
  refine (numbers_ok c h _ _ _ _ _ _ _).mono ?_
  rintro e w3 ⟨rfl, hw⟩
  have kk : Keeps (fun _ => False) w2 w3 := by rw [hw]; exact (Keeps.refl _ _).alloc _
  have K3 := hide (K2.out.trans kk)
  have B3 := hide (B2.out.kept kk (fun h => h))
  clear hw kk K2 B2
  have f14 : w3.cell? ⟨w.heap.size, 14, none⟩ = some (.slice C (p + 1) k) := B3.out.cell 14
  trace "ARENA"
  go_wp2_with fail
  refine (acheck_ok l hl _ _ _ B _ (HR.out.kept K3.out (fun _ _ h => h)) (Nat.le_trans hB K3.out.size)).mono ?_
  rintro e w4 ⟨rfl, k4⟩
  have b4 := B3.out.kept k4 (fun h => h)
  have k4 := K3.out.trans k4
  have f11 : w4.cell? ⟨w.heap.size, 11, none⟩ = some (.int .i64 c.width) := b4.cell 11
  have f13 : w4.cell? ⟨w.heap.size, 13, none⟩ = some (.int .i64 c.key) := b4.cell 13
  have f14' : w4.cell? ⟨w.heap.size, 14, none⟩ = some (.slice C (p + 1) k) := b4.cell 14
  have K4 := hide k4
  obtain ⟨b, off, rfl, hbB, hcell⟩ := (HR.out.kept K4.out (fun _ _ h => h)).2 (by omega)
  have f1 := hcell _ _ HD.out
  clear hcell k4 b4 f14 K3 B3
  trace "LAST"
  go_wp2_with fail
  try go_quiet (fail)
  go_wp2_with fail
  all_goals first
    | (go_ret; first | exact ⟨rfl, K4.out⟩ | exact ⟨rfl, K4.out.drewN _⟩ | exact ⟨rfl, K4.out.drew⟩)
    | (have hy := HY.out; exfalso; omega)

theorem stracked_ok (c : Cfg) (h : Fine c) (l : List (Int × Int)) (hl : classesE l = 0) (hm : Room c l) (C T : Option Addr) (n k j B : Nat) (w : World) (hr : Rd w B C 2 n (clv l)) (hB : B ≤ w.heap.size) :
    Calls Try.prog 31 #[Value.agg #[.int .i64 c.length, .int .i64 c.lateness, .int .i64 c.windows, .int .i64 c.shards, .int .i64 c.spread, .int .i64 c.queue, .int .i64 c.mode, .int .i64 c.slots, .int .i64 c.exact_, .int .u64 c.promote, .int .i64 c.depth, .int .i64 c.width, .int .i64 c.top, .int .i64 c.key, .slice C n k, .slice T 16 j, .int .u64 c.seed]] w fun e w' => e = .returned (.int .i64 (tracked0 c)) ∧ Keeps (fun _ => False) w w' := by
  have HR := hide hr
  have h1 := h.shards
  have h2 := h.windows
  have h3 := h.slots
  have h4 := h.exact_
  have h5 := h.sw
  have h6 := h.tr
  have hw1 : IntKind.i64.wrap (c.shards * c.windows) = c.shards * c.windows := IntWalk.i64_in _ (by omega)
  have hw2 : IntKind.i64.wrap (c.shards * c.windows * (c.slots + c.exact_)) = c.shards * c.windows * (c.slots + c.exact_) := IntWalk.i64_in _ (by unfold tracked0 at h6; omega)
  have HW1 := hide hw1
  have HW2 := hide hw2
  have bX := hide (Blk.new w 28 #[.int .i64 c.length, .int .i64 c.lateness, .int .i64 c.windows, .int .i64 c.shards, .int .i64 c.spread, .int .i64 c.queue, .int .i64 c.mode, .int .i64 c.slots, .int .i64 c.exact_, .int .u64 c.promote, .int .i64 c.depth, .int .i64 c.width, .int .i64 c.top, .int .i64 c.key, .slice C n k, .slice T 16 j, .int .u64 c.seed])
  clear hr hw1 hw2
  go_enter Try.func31, Try.ntmps31
  go_wp2_with (refine cfg_ld _ rfl bX.out rfl (by rfl) ?_; simp only [Act.put, List.setIfInBounds_toArray, List.set_cons_zero, List.set_cons_succ])
  refine (scheck_ok c h l hl hm _ _ _ _ _ B _ (HR.out.kept ((Keeps.refl (fun _ => False) w).alloc _) (fun _ _ h => h)) (Nat.le_trans hB ((Keeps.refl (fun _ => False) w).alloc _).size)).mono ?_
  rintro e w4 ⟨rfl, k4⟩
  obtain ⟨b4, k4⟩ := box1 k4
  have f2 : w4.cell? ⟨w.heap.size, 2, none⟩ = some (.int .i64 c.windows) := b4.cell 2
  have f3 : w4.cell? ⟨w.heap.size, 3, none⟩ = some (.int .i64 c.shards) := b4.cell 3
  have f7 : w4.cell? ⟨w.heap.size, 7, none⟩ = some (.int .i64 c.slots) := b4.cell 7
  have f8 : w4.cell? ⟨w.heap.size, 8, none⟩ = some (.int .i64 c.exact_) := b4.cell 8
  have K4 := hide k4
  have hw1 := HW1.out
  have hw2 := HW2.out
  clear k4 b4
  go_wp2_with fail
  go_ret
  refine ⟨ret_int ?_, K4.out⟩
  unfold tracked0
  first | rfl | (simp only [wrap64] at *; omega)
end Go.Proofs.Ytgjlibecgkhocaa
