/-
  A valid configuration passes the check; the number of tracked keys; what it demands: a list of numbers, one for each class.
-/
import Derived.Test.YtaiopdipldaimaaCf
set_option linter.unusedVariables false
set_option linter.unusedSimpArgs false
namespace Go.Proofs.Ytaiopdipldaimaa
open Go.RowKit Cfp

/-- the last class is large enough -/
def Room (c : Cfg) (l : List (Int × Int)) : Prop := ∃ p d, l.length = p + 1 ∧ l[p]? = some d ∧ 8 * c.width ≤ d.1 ∧ 32 ≤ d.1 ∧ c.key ≤ d.1

theorem run_max4 {P : Program} (ts : Array TypeId) (t : TypeId) (x y z u : Int) (w : World) : (Builtin.max_ ts t #[.int .i64 x, .int .i64 y, .int .i64 z, .int .i64 u]).run P w = .ok (.int .i64 (max (max (max x y) z) u)) w := by
  simp [Builtin.max_, Builtin.max2]
  repeat' split
  all_goals omega
theorem box3 {w w4 : World} {t : TypeId} {cs : Array Value} {o1 o2 : Obj} (k : Keeps (fun _ => False) (((w.alloc (.cells cs t)).alloc o1).alloc o2) w4) : Blk w4 w.heap.size t cs ∧ Keeps (fun _ => False) w w4 :=
  ⟨(((Blk.new w t cs).alloc o1).alloc o2).kept k (fun h => h), ((((Keeps.refl (fun _ => False) w).alloc _).alloc _).alloc _).trans k⟩
set_option maxRecDepth 100000 in
set_option maxHeartbeats 2000000 in
theorem config_ok2 (c : Cfg) (h : Fine c) (l : List (Int × Int)) (hl : classesE l = 0) (hm : Room c l) (C T : Option Addr) (n k j B : Nat) (w : World) (hr : Rd w B C 2 n (clv l)) (hB : B ≤ w.heap.size) :
    Calls Try.prog 82 #[Value.agg #[.int .i64 c.length, .int .i64 c.lateness, .int .i64 c.windows, .int .i64 c.shards, .int .i64 c.spread, .int .i64 c.queue, .int .i64 c.mode, .int .i64 c.slots, .int .i64 c.exact_, .int .u64 c.promote, .int .i64 c.depth, .int .i64 c.width, .int .i64 c.top, .int .i64 c.key, .slice C n k, .slice T 16 j, .int .u64 c.seed]] w fun e w' => e = .returned (.int .i64 0) ∧ Keeps (fun _ => False) w w' := by
  obtain ⟨p, d, hp, hd, hm1, hm2, hm3⟩ := hm
  have hlen : l.length = n := by have := hr.1; rw [clv_len] at this; omega
  obtain ⟨⟨n0, n1⟩, hb⟩ := classes_bd l hl
  have hbd := hb d (List.mem_of_getElem? hd)
  obtain rfl : n = p + 1 := by omega
  have HR := hide hr
  have HD := hide (clv_at l p d hd).1
  have h1 := h.queue
  have h2 := h.mode
  have h3 := h.slots
  have h4 := h.exact_
  have h5 := h.depth
  have h6 := h.width
  have h7 := h.top
  have h8 := h.key
  have hp7 : p ≤ 7 := by omega
  clear hr hp hd hlen n0 n1 hb
  have d1 : decide (c.queue < 1) = false := by simp; omega
  have d2 : decide (64 < c.queue) = false := by simp; omega
  have d3 : decide (c.slots < 1) = false := by simp; omega
  have d4 : decide (64 < c.slots) = false := by simp; omega
  have d5 : decide (c.exact_ < 0) = false := by simp; omega
  have d6 : decide (32 < c.exact_) = false := by simp; omega
  have d7 : decide (c.depth < 1) = false := by simp; omega
  have d8 : decide (4 < c.depth) = false := by simp; omega
  have d9 : decide (c.width < 1) = false := by simp; omega
  have d10 : decide (256 < c.width) = false := by simp; omega
  have d11 : decide (c.top < 1) = false := by simp; omega
  have d12 : decide (64 < c.top) = false := by simp; omega
  have d13 : decide (c.key < 1) = false := by simp; omega
  have d14 : decide (255 < c.key) = false := by simp; omega
  have hmd : (c.mode != 1) = false ∨ ((c.mode != 1) = true ∧ (c.mode != 2) = false) := by
    by_cases h : c.mode = 1
    · left; simp [h]
    · right; simp [h]; omega
  have hmx := fun ts t x y z u w => run_max4 (P := Try.prog) ts t x y z u w
  have hmy : decide (d.1 < max (max (max (8 * c.width) 32) 24) c.key) = false := by simp; omega
  have H6 := hide h6
  have HY := hide (And.intro hm1 (And.intro hm2 hm3))
  clear h1 h2 h3 h4 h5 h7 h8 hm1 hm2 hm3
  rcases hmd with e1 | ⟨e1, e2⟩
  all_goals
    go_enter Try.func82, Try.ntmps82
    go_wp2_with (first
      | (go_at_call 93; refine (clock_ok c h _ _ _ _ _ _ _).mono ?_; rintro e w1 ⟨rfl, rfl⟩)
      | (go_at_call 94; refine (routes_ok c h _ _ _ _ _ _).mono ?_; rintro e w1 ⟨rfl, rfl⟩)
      | (go_at_call 95; fail))
    refine (classes_ok l hl _ _ _ B _ (HR.out.kept ((((Keeps.refl (fun _ => False) w).alloc _).alloc _).alloc _) (fun _ _ h => h)) (Nat.le_trans hB ((((Keeps.refl (fun _ => False) w).alloc _).alloc _).alloc _).size)).mono ?_
    rintro e w4 ⟨rfl, k4⟩
    obtain ⟨b4, k4⟩ := box3 k4
    have f11 : w4.cell? ⟨w.heap.size, 11, none⟩ = some (.int .i64 c.width) := b4.cell 11
    have f13 : w4.cell? ⟨w.heap.size, 13, none⟩ = some (.int .i64 c.key) := b4.cell 13
    have f14 : w4.cell? ⟨w.heap.size, 14, none⟩ = some (.slice C (p + 1) k) := b4.cell 14
    have K4 := hide k4
    obtain ⟨b, off, rfl, hbB, hcell⟩ := (HR.out.kept K4.out (fun _ _ h => h)).2 (by omega)
    have f1 := hcell _ _ HD.out
    have h6 := H6.out
    clear hcell k4 b4 d1 d2 d3 d4 d5 d6 d7 d8 d9 d10 d11 d12 d13 d14
    go_wp2_with fail
    all_goals first
      | (go_ret; exact ⟨rfl, K4.out⟩)
      | (have hy := HY.out; exfalso; omega)
end Go.Proofs.Ytaiopdipldaimaa
