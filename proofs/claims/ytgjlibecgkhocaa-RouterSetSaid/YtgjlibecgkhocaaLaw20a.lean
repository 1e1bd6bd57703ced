/-
  The examples of the chapter on routing (awake).
-/
import Derived.Test.YtgjlibecgkhocaaRu
import Derived.Test.YtgjlibecgkhocaaLd
set_option linter.unusedVariables false
set_option linter.unusedSimpArgs false
namespace Go.Proofs.Ytgjlibecgkhocaa
open Go.RowKit Cfp

def ca : Cfg := ⟨0, 0, 0, 4, 3, 0, 0, 0, 0, 0, 0, 0, 0, 0, 0⟩
def za : List Int := List.replicate 16 0
theorem rtd_a : Rtd ca := ⟨by decide, by decide, by decide⟩
theorem home_a : homeOf ca za ⟨#[120]⟩ = 0 := by decide +kernel

set_option maxRecDepth 100000 in
set_option maxHeartbeats 2000000 in
theorem awake20 (w : World) : Calls Try.prog 11 #[] w fun e w' => e = .returned (.bool true) ∧ Keeps (fun _ => False) w w' := by
  have hmk : ∀ w, (Instr.makeSlice 26 (.int .i64 16) (.int .i64 16)).run Try.prog w = .ok (.slice (some ⟨w.heap.size, 0, none⟩) 16 16) (w.alloc (.cells (Array.replicate 16 (.int .u64 0)) 24)) := fun _ => by kernel_rfl
  have b0 := Blk.new w 24 (za.map (.int .u64)).toArray
  have kT := (Keeps.refl (fun _ => False) w).alloc (.cells (za.map (.int .u64)).toArray 24)
  obtain ⟨w1, hw1⟩ : ∃ w1, w1 = w.alloc (.cells (za.map (.int .u64)).toArray 24) := ⟨_, rfl⟩
  rw [← hw1] at b0 kT
  have bX := Blk.new w1 28 #[.int .i64 ca.length, .int .i64 ca.lateness, .int .i64 ca.windows, .int .i64 ca.shards, .int .i64 ca.spread, .int .i64 ca.queue, .int .i64 ca.mode, .int .i64 ca.slots, .int .i64 ca.exact_, .int .u64 ca.promote, .int .i64 ca.depth, .int .i64 ca.width, .int .i64 ca.top, .int .i64 ca.key, .slice none 0 0, .slice (some ⟨w.heap.size, 0, none⟩) 16 16, .int .u64 ca.seed]
  have kX := (Keeps.refl (fun _ => False) w1).alloc (.cells #[.int .i64 ca.length, .int .i64 ca.lateness, .int .i64 ca.windows, .int .i64 ca.shards, .int .i64 ca.spread, .int .i64 ca.queue, .int .i64 ca.mode, .int .i64 ca.slots, .int .i64 ca.exact_, .int .u64 ca.promote, .int .i64 ca.depth, .int .i64 ca.width, .int .i64 ca.top, .int .i64 ca.key, .slice none 0 0, .slice (some ⟨w.heap.size, 0, none⟩) 16 16, .int .u64 ca.seed] 28)
  have RT := hide ((b0.kept kX (fun h => h)).rd (n := 16) (sz := 1) (by simp [za]))
  have K2 := hide (kT.trans kX)
  obtain ⟨w2, hw2⟩ : ∃ w2, w2 = w1.alloc (.cells #[.int .i64 ca.length, .int .i64 ca.lateness, .int .i64 ca.windows, .int .i64 ca.shards, .int .i64 ca.spread, .int .i64 ca.queue, .int .i64 ca.mode, .int .i64 ca.slots, .int .i64 ca.exact_, .int .u64 ca.promote, .int .i64 ca.depth, .int .i64 ca.width, .int .i64 ca.top, .int .i64 ca.key, .slice none 0 0, .slice (some ⟨w.heap.size, 0, none⟩) 16 16, .int .u64 ca.seed] 28) := ⟨_, rfl⟩
  rw [← hw2] at bX RT K2
  have BX := hide bX
  have HW2 : Hid (w2 = (w.alloc (.cells (za.map (.int .u64)).toArray 24)).alloc (.cells #[.int .i64 ca.length, .int .i64 ca.lateness, .int .i64 ca.windows, .int .i64 ca.shards, .int .i64 ca.spread, .int .i64 ca.queue, .int .i64 ca.mode, .int .i64 ca.slots, .int .i64 ca.exact_, .int .u64 ca.promote, .int .i64 ca.depth, .int .i64 ca.width, .int .i64 ca.top, .int .i64 ca.key, .slice none 0 0, .slice (some ⟨w.heap.size, 0, none⟩) 16 16, .int .u64 ca.seed] 28)) := by show _ = _; rw [hw2, hw1]
  have HG : Hid (w1.heap.size = w.heap.size + 1) := by show _ = _; rw [hw1]; simp
  clear b0 kT bX kX hw1 hw2
  go_enter Try.func11, Try.ntmps11
  go_upto_region 2 with fail
  generalize hW : World.alloc (World.alloc w _) _ = W
  obtain rfl : W = w2 := by rw [← hW, HW2.out]; rfl
  clear hW HW2 hmk
  rw [HG.out] at BX
  trace "R2"
  go_wp2_with (refine cfg_ld _ rfl BX.out rfl (by rfl) ?_; simp only [Act.put, List.setIfInBounds_toArray, List.set_cons_zero, List.set_cons_succ])
  refine (rtcheck_ok ca rtd_a _ _ _ _ _ _).mono ?_
  rintro e w3 ⟨rfl, hw3⟩
  have k3 : Keeps (fun _ => False) W w3 := by rw [hw3]; exact (Keeps.refl _ _).alloc _
  have BX3 := hide (BX.out.kept k3 (fun h => h))
  have RT3 := hide (RT.out.kept k3 (fun _ _ h => h))
  have K3 := hide (K2.out.trans k3)
  clear hw3 k3 BX RT K2
  trace "SET"
  go_wp2_with (refine cfg_ld _ rfl BX3.out rfl (by rfl) ?_; simp only [Act.put, List.setIfInBounds_toArray, List.set_cons_zero, List.set_cons_succ])
  refine (set_ok ca rtd_a _ _ _ _ _ _ _ za (by decide) RT3.out ⟨#[120]⟩ (by decide)).mono ?_
  rintro e w4 ⟨A, cc, rfl, lc, cm, rl, k4⟩
  have hL : setOf ca (homeOf ca za ⟨#[120]⟩) ca.spread.toNat = [0, 1, 2] := by rw [home_a]; rfl
  rw [hL] at rl lc
  rw [hL]
  have BX4 := hide (BX3.out.kept k4 (fun h => h))
  have RT4 := hide (RT3.out.kept k4 (fun _ _ h => h))
  have K4 := hide (K3.out.trans k4)
  have RL := hide rl
  clear hL rl k4 BX3 RT3 K3
  trace "SAME"
  go_wp2_with fail
  have kB := (Keeps.refl (fun _ => False) w4).alloc (.cells #[.int .i64 0, .int .i64 1, .int .i64 2] 3)
  have bB := Blk.new w4 3 #[.int .i64 0, .int .i64 1, .int .i64 2]
  refine (sameInts_any [0, 1, 2] A (some ⟨w4.heap.size, 0, none⟩) 3 cc 3 _ _ _ (RL.out.kept kB (fun _ _ h => h)) (Blk.rd (xs := [.int .i64 0, .int .i64 1, .int .i64 2]) bB rfl) (by omega)).mono ?_
  rintro e w5 ⟨rfl, nq, rfl⟩
  have BX5 := hide ((BX4.out.kept kB (fun h => h)).drewN nq)
  have RT5 := hide ((RT4.out.kept kB (fun _ _ h => h)).drewN nq)
  have K5 := hide ((K4.out.trans kB).drewN nq)
  clear kB bB RL BX4 RT4 K4
  trace "ROUTE"
  go_wp2_with (refine cfg_ld _ rfl BX5.out rfl (by rfl) ?_; simp only [Act.put, List.setIfInBounds_toArray, List.set_cons_zero, List.set_cons_succ])
  refine (route_ok ca rtd_a _ _ _ _ _ _ _ za (by decide) RT5.out ⟨#[120]⟩ (by decide) 7 (by decide) (by decide)).mono ?_
  rintro e w6 ⟨rfl, k6⟩
  have hR : routeOf ca (homeOf ca za ⟨#[120]⟩) 7 = 1 := by rw [home_a]; rfl
  rw [hR]
  clear hR
  have K6 := hide (K5.out.trans k6)
  clear k6
  go_wp2_with fail
  go_ret
  exact ⟨rfl, K6.out⟩
end Go.Proofs.Ytgjlibecgkhocaa
