/-
  A valid configuration passes the check; the number of tracked keys; what it demands: a list of numbers, one for each class.
-/
import Derived.Test.YtgjlibecgkhocaaCf
import Derived.Test.YtgjlibecgkhocaaGw0
set_option linter.unusedVariables false
set_option linter.unusedSimpArgs false
namespace Go.Proofs.Ytgjlibecgkhocaa
open Go.RowKit Cfp

/-- the last class is large enough -/
def Room (c : Cfg) (l : List (Int × Int)) : Prop := ∃ p d, l.length = p + 1 ∧ l[p]? = some d ∧ 8 * c.width ≤ d.1 ∧ 32 ≤ d.1 ∧ c.key ≤ d.1

theorem run_max4 {P : Program} (ts : Array TypeId) (t : TypeId) (x y z u : Int) (w : World) : (Builtin.max_ ts t #[.int .i64 x, .int .i64 y, .int .i64 z, .int .i64 u]).run P w = .ok (.int .i64 (max (max (max x y) z) u)) w := by
  simp [Builtin.max_, Builtin.max2]
  repeat' split
  all_goals omega
theorem box3 {w w4 : World} {t : TypeId} {cs : Array Value} {o1 o2 : Obj} (k : Keeps (fun _ => False) (((w.alloc (.cells cs t)).alloc o1).alloc o2) w4) : Blk w4 w.heap.size t cs ∧ Keeps (fun _ => False) w w4 :=
  ⟨(((Blk.new w t cs).alloc o1).alloc o2).kept k (fun h => h), ((((Keeps.refl (fun _ => False) w).alloc _).alloc _).alloc _).trans k⟩
theorem keeps_eq_alloc0 {W W' : World} {o : Obj} (h : W' = W.alloc o) : Keeps (fun _ => False) W W' := by
  rw [h]; exact (Keeps.refl _ _).alloc _
set_option maxRecDepth 1000000 in
set_option maxHeartbeats 1000000 in
theorem config_ok2a (c : Cfg) (h : Fine c) (l : List (Int × Int)) (hl : classesE l = 0) (hm : Room c l) (C T : Option Addr) (n k j B : Nat) (w : World) (hr : Rd w B C 2 n (clv l)) (hB : B ≤ w.heap.size) (e1 : (c.mode != 1) = false) :
    Calls Try.prog 26 #[Value.agg #[.int .i64 c.length, .int .i64 c.lateness, .int .i64 c.windows, .int .i64 c.shards, .int .i64 c.spread, .int .i64 c.queue, .int .i64 c.mode, .int .i64 c.slots, .int .i64 c.exact_, .int .u64 c.promote, .int .i64 c.depth, .int .i64 c.width, .int .i64 c.top, .int .i64 c.key, .slice C n k, .slice T 16 j, .int .u64 c.seed]] w fun e w' => e = .returned (.int .i64 0) ∧ Keeps (fun _ => False) w w' := by
  obtain ⟨p, d, hp, hd, hm1, hm2, hm3⟩ := hm
  have hlen : l.length = n := by have := hr.1; rw [clv_len] at this; omega
  obtain ⟨⟨n0, n1⟩, hb⟩ := classes_bd l hl
  have hbd := hb d (List.mem_of_getElem? hd)
  obtain rfl : n = p + 1 := by omega
  have HR := hide hr
  have HD := hide (clv_at l p d hd).1
  have h6 := h.width
  have hp7 : p ≤ 7 := by omega
  have HCs := hide (fun W (kW : Keeps (fun _ => False) w W) => classes_ok l hl C (p + 1) k B W (hr.kept kW (fun _ _ h => h)) (Nat.le_trans hB kW.size))
  have HCl := hide (fun W => (clock_ok c h C T (p + 1) k 16 j W).mono fun e w' h => And.intro (show e = Ending.returned (.int .i64 0) from h.1) (show Keeps (fun _ => False) W w' from keeps_eq_alloc0 h.2))
  have HRo := hide (fun W => (routes_ok c h C T (p + 1) k j W).mono fun e w' h => And.intro (show e = Ending.returned (.int .i64 0) from h.1) (show Keeps (fun _ => False) W w' from keeps_eq_alloc0 h.2))
  have HD0 : Hid (decide (c.queue < 1) = false) := hide (by have := h.queue; simp; omega)
  have HD1 : Hid (decide (64 < c.queue) = false) := hide (by have := h.queue; simp; omega)
  have HD3 : Hid (decide (c.slots < 1) = false) := hide (by have := h.slots; simp; omega)
  have HD4 : Hid (decide (64 < c.slots) = false) := hide (by have := h.slots; simp; omega)
  have HD5 : Hid (decide (c.exact_ < 0) = false) := hide (by have := h.exact_; simp; omega)
  have HD6 : Hid (decide (32 < c.exact_) = false) := hide (by have := h.exact_; simp; omega)
  have HD7 : Hid (decide (c.depth < 1) = false) := hide (by have := h.depth; simp; omega)
  have HD8 : Hid (decide (4 < c.depth) = false) := hide (by have := h.depth; simp; omega)
  have HD9 : Hid (decide (c.width < 1) = false) := hide (by have := h.width; simp; omega)
  have HD10 : Hid (decide (256 < c.width) = false) := hide (by have := h.width; simp; omega)
  have HD11 : Hid (decide (c.top < 1) = false) := hide (by have := h.top; simp; omega)
  have HD12 : Hid (decide (64 < c.top) = false) := hide (by have := h.top; simp; omega)
  have HD13 : Hid (decide (c.key < 1) = false) := hide (by have := h.key; simp; omega)
  have HD14 : Hid (decide (255 < c.key) = false) := hide (by have := h.key; simp; omega)
  have hmx := fun ts t x y z u w => run_max4 (P := Try.prog) ts t x y z u w
  have hmy : decide (d.1 < max (max (max (8 * c.width) 32) 24) c.key) = false := by simp; omega
  have w8 : IntKind.i64.wrap (8 * c.width) = 8 * c.width := IntWalk.i64_in _ (by omega)
  have HMy := hide hmy
  have H6 := hide h6
  have HY := hide (And.intro hm1 (And.intro hm2 hm3))
  clear hr hp hd hlen n0 n1 hb hm1 hm2 hm3 hmy h6 h hl hbd
  have B0 := hide (Blk.new w 28 #[.int .i64 c.length, .int .i64 c.lateness, .int .i64 c.windows, .int .i64 c.shards, .int .i64 c.spread, .int .i64 c.queue, .int .i64 c.mode, .int .i64 c.slots, .int .i64 c.exact_, .int .u64 c.promote, .int .i64 c.depth, .int .i64 c.width, .int .i64 c.top, .int .i64 c.key, .slice C (p + 1) k, .slice T 16 j, .int .u64 c.seed])
  have K0 := hide ((Keeps.refl (fun _ => False) w).alloc (.cells #[.int .i64 c.length, .int .i64 c.lateness, .int .i64 c.windows, .int .i64 c.shards, .int .i64 c.spread, .int .i64 c.queue, .int .i64 c.mode, .int .i64 c.slots, .int .i64 c.exact_, .int .u64 c.promote, .int .i64 c.depth, .int .i64 c.width, .int .i64 c.top, .int .i64 c.key, .slice C (p + 1) k, .slice T 16 j, .int .u64 c.seed] 28))
  go_enter Try.func26, Try.ntmps26
  go_upto_region 1 with fail
  generalize w.alloc _ = w0 at *
  generalize w.heap.size = X at *
  refine wp_region_list ?_
  refine cfg_ld (.tmp 1) rfl B0.out rfl (by kernel_rfl) ?_
  simp only [Act.put, List.setIfInBounds_toArray, List.set_cons_zero, List.set_cons_succ]
  refine wl_want rfl ?_
  go_simp
  refine (HCl.out _).mono ?_
  rintro e w1 ⟨rfl, kk⟩
  have K1 := hide (K0.out.trans kk)
  have B1 := hide (B0.out.kept kk (fun h => h))
  clear kk B0 K0 HCl
  dsimp only
  refine wl_val (v := .bool false) rfl rfl ?_
  simp only [Act.put, List.setIfInBounds_toArray, List.set_cons_zero, List.set_cons_succ]
  refine wl_val rfl rfl ?_
  simp only [Act.put, List.setIfInBounds_toArray, List.set_cons_zero, List.set_cons_succ]
  refine cfg_ld (.tmp 1) rfl B1.out rfl (by kernel_rfl) ?_
  simp only [Act.put, List.setIfInBounds_toArray, List.set_cons_zero, List.set_cons_succ]
  refine wl_want rfl ?_
  go_simp
  refine (HRo.out _).mono ?_
  rintro e w2 ⟨rfl, kk⟩
  have K2 := hide (K1.out.trans kk)
  have B2 := hide (B1.out.kept kk (fun h => h))
  clear kk B1 K1 HRo
  dsimp only
  have f5 : w2.cell? ⟨X, 5, none⟩ = some (.int .i64 c.queue) := B2.out.cell 5
  have f6 : w2.cell? ⟨X, 6, none⟩ = some (.int .i64 c.mode) := B2.out.cell 6
  have f7 : w2.cell? ⟨X, 7, none⟩ = some (.int .i64 c.slots) := B2.out.cell 7
  have f8 : w2.cell? ⟨X, 8, none⟩ = some (.int .i64 c.exact_) := B2.out.cell 8
  have f10 : w2.cell? ⟨X, 10, none⟩ = some (.int .i64 c.depth) := B2.out.cell 10
  have f11 : w2.cell? ⟨X, 11, none⟩ = some (.int .i64 c.width) := B2.out.cell 11
  have f12 : w2.cell? ⟨X, 12, none⟩ = some (.int .i64 c.top) := B2.out.cell 12
  have f13 : w2.cell? ⟨X, 13, none⟩ = some (.int .i64 c.key) := B2.out.cell 13
  have f14 : w2.cell? ⟨X, 14, none⟩ = some (.slice C (p + 1) k) := B2.out.cell 14
  generalize (Value.agg #[.int .i64 c.length, .int .i64 c.lateness, .int .i64 c.windows, .int .i64 c.shards, .int .i64 c.spread, .int .i64 c.queue, .int .i64 c.mode, .int .i64 c.slots, .int .i64 c.exact_, .int .u64 c.promote, .int .i64 c.depth, .int .i64 c.width, .int .i64 c.top, .int .i64 c.key, .slice C (p + 1) k, .slice T 16 j, .int .u64 c.seed]) = V at *
  refine wl_val (v := .bool false) rfl rfl ?_
  simp only [Act.put, List.setIfInBounds_toArray, List.set_cons_zero, List.set_cons_succ]
  refine wl_val (v := .bool false) (by kernel_rfl) (by kernel_rfl) ?_
  simp only [Act.put, List.setIfInBounds_toArray, List.set_cons_zero, List.set_cons_succ]
  refine wl_val (v := .bool false) (by kernel_rfl) (by kernel_rfl) ?_
  simp only [Act.put, List.setIfInBounds_toArray, List.set_cons_zero, List.set_cons_succ]
  refine wl_val (v := .pointer (some ⟨X, 5, none⟩)) (by kernel_rfl) (by kernel_rfl) ?_
  simp only [Act.put, List.setIfInBounds_toArray, List.set_cons_zero, List.set_cons_succ]
  refine wl_ld rfl (by kernel_rfl) rfl f5 ?_
  simp only [Act.put, List.setIfInBounds_toArray, List.set_cons_zero, List.set_cons_succ]
  refine wl_val (v := .bool (decide (c.queue < 1))) (by kernel_rfl) (by kernel_rfl) ?_
  simp only [Act.put, List.setIfInBounds_toArray, List.set_cons_zero, List.set_cons_succ]
  rw [HD0.out]
  refine wl_val (v := .bool false) (by kernel_rfl) (by kernel_rfl) ?_
  simp only [Act.put, List.setIfInBounds_toArray, List.set_cons_zero, List.set_cons_succ]
  refine wl_val (v := .bool false) (by kernel_rfl) (by kernel_rfl) ?_
  simp only [Act.put, List.setIfInBounds_toArray, List.set_cons_zero, List.set_cons_succ]
  refine wl_val (v := .pointer (some ⟨X, 5, none⟩)) (by kernel_rfl) (by kernel_rfl) ?_
  simp only [Act.put, List.setIfInBounds_toArray, List.set_cons_zero, List.set_cons_succ]
  refine wl_ld rfl (by kernel_rfl) rfl f5 ?_
  simp only [Act.put, List.setIfInBounds_toArray, List.set_cons_zero, List.set_cons_succ]
  refine wl_val (v := .bool (decide (64 < c.queue))) (by kernel_rfl) (by kernel_rfl) ?_
  simp only [Act.put, List.setIfInBounds_toArray, List.set_cons_zero, List.set_cons_succ]
  rw [HD1.out]
  refine wl_val (v := .bool false) (by kernel_rfl) (by kernel_rfl) ?_
  simp only [Act.put, List.setIfInBounds_toArray, List.set_cons_zero, List.set_cons_succ]
  refine wl_val (v := .bool false) (by kernel_rfl) (by kernel_rfl) ?_
  simp only [Act.put, List.setIfInBounds_toArray, List.set_cons_zero, List.set_cons_succ]
  refine wl_val (v := .pointer (some ⟨X, 6, none⟩)) (by kernel_rfl) (by kernel_rfl) ?_
  simp only [Act.put, List.setIfInBounds_toArray, List.set_cons_zero, List.set_cons_succ]
  refine wl_ld rfl (by kernel_rfl) rfl f6 ?_
  simp only [Act.put, List.setIfInBounds_toArray, List.set_cons_zero, List.set_cons_succ]
  refine wl_val (v := .bool (c.mode != 1)) (by kernel_rfl) (by kernel_rfl) ?_
  simp only [Act.put, List.setIfInBounds_toArray, List.set_cons_zero, List.set_cons_succ]
  rw [e1]
  refine wl_val (v := .bool false) (by kernel_rfl) (by kernel_rfl) ?_
  simp only [Act.put, List.setIfInBounds_toArray, List.set_cons_zero, List.set_cons_succ]
  refine wl_skip (by kernel_rfl) ?_
  simp only [Act.put, List.setIfInBounds_toArray, List.set_cons_zero, List.set_cons_succ]
  refine wl_skip (by kernel_rfl) ?_
  simp only [Act.put, List.setIfInBounds_toArray, List.set_cons_zero, List.set_cons_succ]
  refine wl_skip (by kernel_rfl) ?_
  simp only [Act.put, List.setIfInBounds_toArray, List.set_cons_zero, List.set_cons_succ]
  refine wl_val (v := .bool false) (by kernel_rfl) (by kernel_rfl) ?_
  simp only [Act.put, List.setIfInBounds_toArray, List.set_cons_zero, List.set_cons_succ]
  refine wl_val (v := .bool false) (by kernel_rfl) (by kernel_rfl) ?_
  simp only [Act.put, List.setIfInBounds_toArray, List.set_cons_zero, List.set_cons_succ]
  refine wl_val (v := .bool false) (by kernel_rfl) (by kernel_rfl) ?_
  simp only [Act.put, List.setIfInBounds_toArray, List.set_cons_zero, List.set_cons_succ]
  refine wl_val (v := .pointer (some ⟨X, 7, none⟩)) (by kernel_rfl) (by kernel_rfl) ?_
  simp only [Act.put, List.setIfInBounds_toArray, List.set_cons_zero, List.set_cons_succ]
  refine wl_ld rfl (by kernel_rfl) rfl f7 ?_
  simp only [Act.put, List.setIfInBounds_toArray, List.set_cons_zero, List.set_cons_succ]
  refine wl_val (v := .bool (decide (c.slots < 1))) (by kernel_rfl) (by kernel_rfl) ?_
  simp only [Act.put, List.setIfInBounds_toArray, List.set_cons_zero, List.set_cons_succ]
  rw [HD3.out]
  refine wl_val (v := .bool false) (by kernel_rfl) (by kernel_rfl) ?_
  simp only [Act.put, List.setIfInBounds_toArray, List.set_cons_zero, List.set_cons_succ]
  refine wl_val (v := .bool false) (by kernel_rfl) (by kernel_rfl) ?_
  simp only [Act.put, List.setIfInBounds_toArray, List.set_cons_zero, List.set_cons_succ]
  refine wl_val (v := .pointer (some ⟨X, 7, none⟩)) (by kernel_rfl) (by kernel_rfl) ?_
  simp only [Act.put, List.setIfInBounds_toArray, List.set_cons_zero, List.set_cons_succ]
  refine wl_ld rfl (by kernel_rfl) rfl f7 ?_
  simp only [Act.put, List.setIfInBounds_toArray, List.set_cons_zero, List.set_cons_succ]
  refine wl_val (v := .bool (decide (64 < c.slots))) (by kernel_rfl) (by kernel_rfl) ?_
  simp only [Act.put, List.setIfInBounds_toArray, List.set_cons_zero, List.set_cons_succ]
  rw [HD4.out]
  refine wl_val (v := .bool false) (by kernel_rfl) (by kernel_rfl) ?_
  simp only [Act.put, List.setIfInBounds_toArray, List.set_cons_zero, List.set_cons_succ]
  refine wl_val (v := .bool false) (by kernel_rfl) (by kernel_rfl) ?_
  simp only [Act.put, List.setIfInBounds_toArray, List.set_cons_zero, List.set_cons_succ]
  refine wl_val (v := .pointer (some ⟨X, 8, none⟩)) (by kernel_rfl) (by kernel_rfl) ?_
  simp only [Act.put, List.setIfInBounds_toArray, List.set_cons_zero, List.set_cons_succ]
  refine wl_ld rfl (by kernel_rfl) rfl f8 ?_
  simp only [Act.put, List.setIfInBounds_toArray, List.set_cons_zero, List.set_cons_succ]
  refine wl_val (v := .bool (decide (c.exact_ < 0))) (by kernel_rfl) (by kernel_rfl) ?_
  simp only [Act.put, List.setIfInBounds_toArray, List.set_cons_zero, List.set_cons_succ]
  rw [HD5.out]
  refine wl_val (v := .bool false) (by kernel_rfl) (by kernel_rfl) ?_
  simp only [Act.put, List.setIfInBounds_toArray, List.set_cons_zero, List.set_cons_succ]
  refine wl_val (v := .bool false) (by kernel_rfl) (by kernel_rfl) ?_
  simp only [Act.put, List.setIfInBounds_toArray, List.set_cons_zero, List.set_cons_succ]
  refine wl_val (v := .pointer (some ⟨X, 8, none⟩)) (by kernel_rfl) (by kernel_rfl) ?_
  simp only [Act.put, List.setIfInBounds_toArray, List.set_cons_zero, List.set_cons_succ]
  refine wl_ld rfl (by kernel_rfl) rfl f8 ?_
  simp only [Act.put, List.setIfInBounds_toArray, List.set_cons_zero, List.set_cons_succ]
  refine wl_val (v := .bool (decide (32 < c.exact_))) (by kernel_rfl) (by kernel_rfl) ?_
  simp only [Act.put, List.setIfInBounds_toArray, List.set_cons_zero, List.set_cons_succ]
  rw [HD6.out]
  refine wl_val (v := .bool false) (by kernel_rfl) (by kernel_rfl) ?_
  simp only [Act.put, List.setIfInBounds_toArray, List.set_cons_zero, List.set_cons_succ]
  refine wl_val (v := .bool false) (by kernel_rfl) (by kernel_rfl) ?_
  simp only [Act.put, List.setIfInBounds_toArray, List.set_cons_zero, List.set_cons_succ]
  refine wl_val (v := .pointer (some ⟨X, 10, none⟩)) (by kernel_rfl) (by kernel_rfl) ?_
  simp only [Act.put, List.setIfInBounds_toArray, List.set_cons_zero, List.set_cons_succ]
  refine wl_ld rfl (by kernel_rfl) rfl f10 ?_
  simp only [Act.put, List.setIfInBounds_toArray, List.set_cons_zero, List.set_cons_succ]
  refine wl_val (v := .bool (decide (c.depth < 1))) (by kernel_rfl) (by kernel_rfl) ?_
  simp only [Act.put, List.setIfInBounds_toArray, List.set_cons_zero, List.set_cons_succ]
  rw [HD7.out]
  refine wl_val (v := .bool false) (by kernel_rfl) (by kernel_rfl) ?_
  simp only [Act.put, List.setIfInBounds_toArray, List.set_cons_zero, List.set_cons_succ]
  refine wl_val (v := .bool false) (by kernel_rfl) (by kernel_rfl) ?_
  simp only [Act.put, List.setIfInBounds_toArray, List.set_cons_zero, List.set_cons_succ]
  refine wl_val (v := .pointer (some ⟨X, 10, none⟩)) (by kernel_rfl) (by kernel_rfl) ?_
  simp only [Act.put, List.setIfInBounds_toArray, List.set_cons_zero, List.set_cons_succ]
  refine wl_ld rfl (by kernel_rfl) rfl f10 ?_
  simp only [Act.put, List.setIfInBounds_toArray, List.set_cons_zero, List.set_cons_succ]
  refine wl_val (v := .bool (decide (4 < c.depth))) (by kernel_rfl) (by kernel_rfl) ?_
  simp only [Act.put, List.setIfInBounds_toArray, List.set_cons_zero, List.set_cons_succ]
  rw [HD8.out]
  refine wl_val (v := .bool false) (by kernel_rfl) (by kernel_rfl) ?_
  simp only [Act.put, List.setIfInBounds_toArray, List.set_cons_zero, List.set_cons_succ]
  refine wl_val (v := .bool false) (by kernel_rfl) (by kernel_rfl) ?_
  simp only [Act.put, List.setIfInBounds_toArray, List.set_cons_zero, List.set_cons_succ]
  refine wl_val (v := .pointer (some ⟨X, 11, none⟩)) (by kernel_rfl) (by kernel_rfl) ?_
  simp only [Act.put, List.setIfInBounds_toArray, List.set_cons_zero, List.set_cons_succ]
  refine wl_ld rfl (by kernel_rfl) rfl f11 ?_
  simp only [Act.put, List.setIfInBounds_toArray, List.set_cons_zero, List.set_cons_succ]
  refine wl_val (v := .bool (decide (c.width < 1))) (by kernel_rfl) (by kernel_rfl) ?_
  simp only [Act.put, List.setIfInBounds_toArray, List.set_cons_zero, List.set_cons_succ]
  rw [HD9.out]
  refine wl_val (v := .bool false) (by kernel_rfl) (by kernel_rfl) ?_
  simp only [Act.put, List.setIfInBounds_toArray, List.set_cons_zero, List.set_cons_succ]
  refine wl_val (v := .bool false) (by kernel_rfl) (by kernel_rfl) ?_
  simp only [Act.put, List.setIfInBounds_toArray, List.set_cons_zero, List.set_cons_succ]
  refine wl_val (v := .pointer (some ⟨X, 11, none⟩)) (by kernel_rfl) (by kernel_rfl) ?_
  simp only [Act.put, List.setIfInBounds_toArray, List.set_cons_zero, List.set_cons_succ]
  refine wl_ld rfl (by kernel_rfl) rfl f11 ?_
  simp only [Act.put, List.setIfInBounds_toArray, List.set_cons_zero, List.set_cons_succ]
  refine wl_val (v := .bool (decide (256 < c.width))) (by kernel_rfl) (by kernel_rfl) ?_
  simp only [Act.put, List.setIfInBounds_toArray, List.set_cons_zero, List.set_cons_succ]
  rw [HD10.out]
  refine wl_val (v := .bool false) (by kernel_rfl) (by kernel_rfl) ?_
  simp only [Act.put, List.setIfInBounds_toArray, List.set_cons_zero, List.set_cons_succ]
  refine wl_val (v := .bool false) (by kernel_rfl) (by kernel_rfl) ?_
  simp only [Act.put, List.setIfInBounds_toArray, List.set_cons_zero, List.set_cons_succ]
  refine wl_val (v := .pointer (some ⟨X, 12, none⟩)) (by kernel_rfl) (by kernel_rfl) ?_
  simp only [Act.put, List.setIfInBounds_toArray, List.set_cons_zero, List.set_cons_succ]
  refine wl_ld rfl (by kernel_rfl) rfl f12 ?_
  simp only [Act.put, List.setIfInBounds_toArray, List.set_cons_zero, List.set_cons_succ]
  refine wl_val (v := .bool (decide (c.top < 1))) (by kernel_rfl) (by kernel_rfl) ?_
  simp only [Act.put, List.setIfInBounds_toArray, List.set_cons_zero, List.set_cons_succ]
  rw [HD11.out]
  refine wl_val (v := .bool false) (by kernel_rfl) (by kernel_rfl) ?_
  simp only [Act.put, List.setIfInBounds_toArray, List.set_cons_zero, List.set_cons_succ]
  refine wl_val (v := .bool false) (by kernel_rfl) (by kernel_rfl) ?_
  simp only [Act.put, List.setIfInBounds_toArray, List.set_cons_zero, List.set_cons_succ]
  refine wl_val (v := .pointer (some ⟨X, 12, none⟩)) (by kernel_rfl) (by kernel_rfl) ?_
  simp only [Act.put, List.setIfInBounds_toArray, List.set_cons_zero, List.set_cons_succ]
  refine wl_ld rfl (by kernel_rfl) rfl f12 ?_
  simp only [Act.put, List.setIfInBounds_toArray, List.set_cons_zero, List.set_cons_succ]
  refine wl_val (v := .bool (decide (64 < c.top))) (by kernel_rfl) (by kernel_rfl) ?_
  simp only [Act.put, List.setIfInBounds_toArray, List.set_cons_zero, List.set_cons_succ]
  rw [HD12.out]
  refine wl_val (v := .bool false) (by kernel_rfl) (by kernel_rfl) ?_
  simp only [Act.put, List.setIfInBounds_toArray, List.set_cons_zero, List.set_cons_succ]
  refine wl_val (v := .bool false) (by kernel_rfl) (by kernel_rfl) ?_
  simp only [Act.put, List.setIfInBounds_toArray, List.set_cons_zero, List.set_cons_succ]
  refine wl_val (v := .pointer (some ⟨X, 13, none⟩)) (by kernel_rfl) (by kernel_rfl) ?_
  simp only [Act.put, List.setIfInBounds_toArray, List.set_cons_zero, List.set_cons_succ]
  refine wl_ld rfl (by kernel_rfl) rfl f13 ?_
  simp only [Act.put, List.setIfInBounds_toArray, List.set_cons_zero, List.set_cons_succ]
  refine wl_val (v := .bool (decide (c.key < 1))) (by kernel_rfl) (by kernel_rfl) ?_
  simp only [Act.put, List.setIfInBounds_toArray, List.set_cons_zero, List.set_cons_succ]
  rw [HD13.out]
  refine wl_val (v := .bool false) (by kernel_rfl) (by kernel_rfl) ?_
  simp only [Act.put, List.setIfInBounds_toArray, List.set_cons_zero, List.set_cons_succ]
  refine wl_val (v := .bool false) (by kernel_rfl) (by kernel_rfl) ?_
  simp only [Act.put, List.setIfInBounds_toArray, List.set_cons_zero, List.set_cons_succ]
  refine wl_val (v := .pointer (some ⟨X, 13, none⟩)) (by kernel_rfl) (by kernel_rfl) ?_
  simp only [Act.put, List.setIfInBounds_toArray, List.set_cons_zero, List.set_cons_succ]
  refine wl_ld rfl (by kernel_rfl) rfl f13 ?_
  simp only [Act.put, List.setIfInBounds_toArray, List.set_cons_zero, List.set_cons_succ]
  refine wl_val (v := .bool (decide (255 < c.key))) (by kernel_rfl) (by kernel_rfl) ?_
  simp only [Act.put, List.setIfInBounds_toArray, List.set_cons_zero, List.set_cons_succ]
  rw [HD14.out]
  refine wl_val (v := .bool false) (by kernel_rfl) (by kernel_rfl) ?_
  simp only [Act.put, List.setIfInBounds_toArray, List.set_cons_zero, List.set_cons_succ]
  refine wl_val (v := .bool false) (by kernel_rfl) (by kernel_rfl) ?_
  simp only [Act.put, List.setIfInBounds_toArray, List.set_cons_zero, List.set_cons_succ]
  refine wl_val (v := .pointer (some ⟨X, 14, none⟩)) (by kernel_rfl) (by kernel_rfl) ?_
  simp only [Act.put, List.setIfInBounds_toArray, List.set_cons_zero, List.set_cons_succ]
  refine wl_ldC rfl (by kernel_rfl) rfl f14 ?_
  simp only [Act.put, List.setIfInBounds_toArray, List.set_cons_zero, List.set_cons_succ]
  refine wl_want rfl ?_
  go_simp
  refine (HCs.out _ K2.out).mono ?_
  rintro e w3 ⟨rfl, kk⟩
  have K3 := hide (K2.out.trans kk)
  have B3 := hide (B2.out.kept kk (fun h => h))
  clear kk B2 K2 HCs
  dsimp only
  trace "CLS"
  refine wl_val (v := .bool false) (by kernel_rfl) (by kernel_rfl) ?_
  simp only [Act.put, List.setIfInBounds_toArray, List.set_cons_zero, List.set_cons_succ]
  refine wl_val (v := .bool false) (by kernel_rfl) (by kernel_rfl) ?_
  simp only [Act.put, List.setIfInBounds_toArray, List.set_cons_zero, List.set_cons_succ]
  refine wl_nil ?_
  have f11 : w3.cell? ⟨X, 11, none⟩ = some (.int .i64 c.width) := B3.out.cell 11
  have f13 : w3.cell? ⟨X, 13, none⟩ = some (.int .i64 c.key) := B3.out.cell 13
  have f14' : w3.cell? ⟨X, 14, none⟩ = some (.slice C (p + 1) k) := B3.out.cell 14
  obtain ⟨b, off, rfl, hbB, hcell⟩ := (HR.out.kept K3.out (fun _ _ h => h)).2 (by omega)
  have f1 := hcell _ _ HD.out
  have h6 := H6.out
  have hmy := HMy.out
  clear B3 f5 f6 f7 f8 f10 f12 f14 hcell
  trace "TAIL"
  go_wp2_with fail
  trace "TAIL2"
  all_goals first
    | (go_ret; exact ⟨rfl, K3.out⟩)
    | (have hy := HY.out; exfalso; omega)
set_option maxRecDepth 1000000 in
set_option maxHeartbeats 1000000 in
theorem config_ok2b (c : Cfg) (h : Fine c) (l : List (Int × Int)) (hl : classesE l = 0) (hm : Room c l) (C T : Option Addr) (n k j B : Nat) (w : World) (hr : Rd w B C 2 n (clv l)) (hB : B ≤ w.heap.size) (e1 : (c.mode != 1) = true) (e2 : (c.mode != 2) = false) :
    Calls Try.prog 26 #[Value.agg #[.int .i64 c.length, .int .i64 c.lateness, .int .i64 c.windows, .int .i64 c.shards, .int .i64 c.spread, .int .i64 c.queue, .int .i64 c.mode, .int .i64 c.slots, .int .i64 c.exact_, .int .u64 c.promote, .int .i64 c.depth, .int .i64 c.width, .int .i64 c.top, .int .i64 c.key, .slice C n k, .slice T 16 j, .int .u64 c.seed]] w fun e w' => e = .returned (.int .i64 0) ∧ Keeps (fun _ => False) w w' := by
  obtain ⟨p, d, hp, hd, hm1, hm2, hm3⟩ := hm
  have hlen : l.length = n := by have := hr.1; rw [clv_len] at this; omega
  obtain ⟨⟨n0, n1⟩, hb⟩ := classes_bd l hl
  have hbd := hb d (List.mem_of_getElem? hd)
  obtain rfl : n = p + 1 := by omega
  have HR := hide hr
  have HD := hide (clv_at l p d hd).1
  have h6 := h.width
  have hp7 : p ≤ 7 := by omega
  have HCs := hide (fun W (kW : Keeps (fun _ => False) w W) => classes_ok l hl C (p + 1) k B W (hr.kept kW (fun _ _ h => h)) (Nat.le_trans hB kW.size))
  have HCl := hide (fun W => (clock_ok c h C T (p + 1) k 16 j W).mono fun e w' h => And.intro (show e = Ending.returned (.int .i64 0) from h.1) (show Keeps (fun _ => False) W w' from keeps_eq_alloc0 h.2))
  have HRo := hide (fun W => (routes_ok c h C T (p + 1) k j W).mono fun e w' h => And.intro (show e = Ending.returned (.int .i64 0) from h.1) (show Keeps (fun _ => False) W w' from keeps_eq_alloc0 h.2))
  have HD0 : Hid (decide (c.queue < 1) = false) := hide (by have := h.queue; simp; omega)
  have HD1 : Hid (decide (64 < c.queue) = false) := hide (by have := h.queue; simp; omega)
  have HD3 : Hid (decide (c.slots < 1) = false) := hide (by have := h.slots; simp; omega)
  have HD4 : Hid (decide (64 < c.slots) = false) := hide (by have := h.slots; simp; omega)
  have HD5 : Hid (decide (c.exact_ < 0) = false) := hide (by have := h.exact_; simp; omega)
  have HD6 : Hid (decide (32 < c.exact_) = false) := hide (by have := h.exact_; simp; omega)
  have HD7 : Hid (decide (c.depth < 1) = false) := hide (by have := h.depth; simp; omega)
  have HD8 : Hid (decide (4 < c.depth) = false) := hide (by have := h.depth; simp; omega)
  have HD9 : Hid (decide (c.width < 1) = false) := hide (by have := h.width; simp; omega)
  have HD10 : Hid (decide (256 < c.width) = false) := hide (by have := h.width; simp; omega)
  have HD11 : Hid (decide (c.top < 1) = false) := hide (by have := h.top; simp; omega)
  have HD12 : Hid (decide (64 < c.top) = false) := hide (by have := h.top; simp; omega)
  have HD13 : Hid (decide (c.key < 1) = false) := hide (by have := h.key; simp; omega)
  have HD14 : Hid (decide (255 < c.key) = false) := hide (by have := h.key; simp; omega)
  have hmx := fun ts t x y z u w => run_max4 (P := Try.prog) ts t x y z u w
  have hmy : decide (d.1 < max (max (max (8 * c.width) 32) 24) c.key) = false := by simp; omega
  have w8 : IntKind.i64.wrap (8 * c.width) = 8 * c.width := IntWalk.i64_in _ (by omega)
  have HMy := hide hmy
  have H6 := hide h6
  have HY := hide (And.intro hm1 (And.intro hm2 hm3))
  clear hr hp hd hlen n0 n1 hb hm1 hm2 hm3 hmy h6 h hl hbd
  have B0 := hide (Blk.new w 28 #[.int .i64 c.length, .int .i64 c.lateness, .int .i64 c.windows, .int .i64 c.shards, .int .i64 c.spread, .int .i64 c.queue, .int .i64 c.mode, .int .i64 c.slots, .int .i64 c.exact_, .int .u64 c.promote, .int .i64 c.depth, .int .i64 c.width, .int .i64 c.top, .int .i64 c.key, .slice C (p + 1) k, .slice T 16 j, .int .u64 c.seed])
  have K0 := hide ((Keeps.refl (fun _ => False) w).alloc (.cells #[.int .i64 c.length, .int .i64 c.lateness, .int .i64 c.windows, .int .i64 c.shards, .int .i64 c.spread, .int .i64 c.queue, .int .i64 c.mode, .int .i64 c.slots, .int .i64 c.exact_, .int .u64 c.promote, .int .i64 c.depth, .int .i64 c.width, .int .i64 c.top, .int .i64 c.key, .slice C (p + 1) k, .slice T 16 j, .int .u64 c.seed] 28))
  go_enter Try.func26, Try.ntmps26
  go_upto_region 1 with fail
  generalize w.alloc _ = w0 at *
  generalize w.heap.size = X at *
  refine wp_region_list ?_
  refine cfg_ld (.tmp 1) rfl B0.out rfl (by kernel_rfl) ?_
  simp only [Act.put, List.setIfInBounds_toArray, List.set_cons_zero, List.set_cons_succ]
  refine wl_want rfl ?_
  go_simp
  refine (HCl.out _).mono ?_
  rintro e w1 ⟨rfl, kk⟩
  have K1 := hide (K0.out.trans kk)
  have B1 := hide (B0.out.kept kk (fun h => h))
  clear kk B0 K0 HCl
  dsimp only
  refine wl_val (v := .bool false) rfl rfl ?_
  simp only [Act.put, List.setIfInBounds_toArray, List.set_cons_zero, List.set_cons_succ]
  refine wl_val rfl rfl ?_
  simp only [Act.put, List.setIfInBounds_toArray, List.set_cons_zero, List.set_cons_succ]
  refine cfg_ld (.tmp 1) rfl B1.out rfl (by kernel_rfl) ?_
  simp only [Act.put, List.setIfInBounds_toArray, List.set_cons_zero, List.set_cons_succ]
  refine wl_want rfl ?_
  go_simp
  refine (HRo.out _).mono ?_
  rintro e w2 ⟨rfl, kk⟩
  have K2 := hide (K1.out.trans kk)
  have B2 := hide (B1.out.kept kk (fun h => h))
  clear kk B1 K1 HRo
  dsimp only
  have f5 : w2.cell? ⟨X, 5, none⟩ = some (.int .i64 c.queue) := B2.out.cell 5
  have f6 : w2.cell? ⟨X, 6, none⟩ = some (.int .i64 c.mode) := B2.out.cell 6
  have f7 : w2.cell? ⟨X, 7, none⟩ = some (.int .i64 c.slots) := B2.out.cell 7
  have f8 : w2.cell? ⟨X, 8, none⟩ = some (.int .i64 c.exact_) := B2.out.cell 8
  have f10 : w2.cell? ⟨X, 10, none⟩ = some (.int .i64 c.depth) := B2.out.cell 10
  have f11 : w2.cell? ⟨X, 11, none⟩ = some (.int .i64 c.width) := B2.out.cell 11
  have f12 : w2.cell? ⟨X, 12, none⟩ = some (.int .i64 c.top) := B2.out.cell 12
  have f13 : w2.cell? ⟨X, 13, none⟩ = some (.int .i64 c.key) := B2.out.cell 13
  have f14 : w2.cell? ⟨X, 14, none⟩ = some (.slice C (p + 1) k) := B2.out.cell 14
  generalize (Value.agg #[.int .i64 c.length, .int .i64 c.lateness, .int .i64 c.windows, .int .i64 c.shards, .int .i64 c.spread, .int .i64 c.queue, .int .i64 c.mode, .int .i64 c.slots, .int .i64 c.exact_, .int .u64 c.promote, .int .i64 c.depth, .int .i64 c.width, .int .i64 c.top, .int .i64 c.key, .slice C (p + 1) k, .slice T 16 j, .int .u64 c.seed]) = V at *
  refine wl_val (v := .bool false) rfl rfl ?_
  simp only [Act.put, List.setIfInBounds_toArray, List.set_cons_zero, List.set_cons_succ]
  refine wl_val (v := .bool false) (by kernel_rfl) (by kernel_rfl) ?_
  simp only [Act.put, List.setIfInBounds_toArray, List.set_cons_zero, List.set_cons_succ]
  refine wl_val (v := .bool false) (by kernel_rfl) (by kernel_rfl) ?_
  simp only [Act.put, List.setIfInBounds_toArray, List.set_cons_zero, List.set_cons_succ]
  refine wl_val (v := .pointer (some ⟨X, 5, none⟩)) (by kernel_rfl) (by kernel_rfl) ?_
  simp only [Act.put, List.setIfInBounds_toArray, List.set_cons_zero, List.set_cons_succ]
  refine wl_ld rfl (by kernel_rfl) rfl f5 ?_
  simp only [Act.put, List.setIfInBounds_toArray, List.set_cons_zero, List.set_cons_succ]
  refine wl_val (v := .bool (decide (c.queue < 1))) (by kernel_rfl) (by kernel_rfl) ?_
  simp only [Act.put, List.setIfInBounds_toArray, List.set_cons_zero, List.set_cons_succ]
  rw [HD0.out]
  refine wl_val (v := .bool false) (by kernel_rfl) (by kernel_rfl) ?_
  simp only [Act.put, List.setIfInBounds_toArray, List.set_cons_zero, List.set_cons_succ]
  refine wl_val (v := .bool false) (by kernel_rfl) (by kernel_rfl) ?_
  simp only [Act.put, List.setIfInBounds_toArray, List.set_cons_zero, List.set_cons_succ]
  refine wl_val (v := .pointer (some ⟨X, 5, none⟩)) (by kernel_rfl) (by kernel_rfl) ?_
  simp only [Act.put, List.setIfInBounds_toArray, List.set_cons_zero, List.set_cons_succ]
  refine wl_ld rfl (by kernel_rfl) rfl f5 ?_
  simp only [Act.put, List.setIfInBounds_toArray, List.set_cons_zero, List.set_cons_succ]
  refine wl_val (v := .bool (decide (64 < c.queue))) (by kernel_rfl) (by kernel_rfl) ?_
  simp only [Act.put, List.setIfInBounds_toArray, List.set_cons_zero, List.set_cons_succ]
  rw [HD1.out]
  refine wl_val (v := .bool false) (by kernel_rfl) (by kernel_rfl) ?_
  simp only [Act.put, List.setIfInBounds_toArray, List.set_cons_zero, List.set_cons_succ]
  refine wl_val (v := .bool false) (by kernel_rfl) (by kernel_rfl) ?_
  simp only [Act.put, List.setIfInBounds_toArray, List.set_cons_zero, List.set_cons_succ]
  refine wl_val (v := .pointer (some ⟨X, 6, none⟩)) (by kernel_rfl) (by kernel_rfl) ?_
  simp only [Act.put, List.setIfInBounds_toArray, List.set_cons_zero, List.set_cons_succ]
  refine wl_ld rfl (by kernel_rfl) rfl f6 ?_
  simp only [Act.put, List.setIfInBounds_toArray, List.set_cons_zero, List.set_cons_succ]
  refine wl_val (v := .bool (c.mode != 1)) (by kernel_rfl) (by kernel_rfl) ?_
  simp only [Act.put, List.setIfInBounds_toArray, List.set_cons_zero, List.set_cons_succ]
  rw [e1]
  refine wl_val (v := .bool true) (by kernel_rfl) (by kernel_rfl) ?_
  simp only [Act.put, List.setIfInBounds_toArray, List.set_cons_zero, List.set_cons_succ]
  refine wl_val (v := .pointer (some ⟨X, 6, none⟩)) (by kernel_rfl) (by kernel_rfl) ?_
  simp only [Act.put, List.setIfInBounds_toArray, List.set_cons_zero, List.set_cons_succ]
  refine wl_ld rfl (by kernel_rfl) rfl f6 ?_
  simp only [Act.put, List.setIfInBounds_toArray, List.set_cons_zero, List.set_cons_succ]
  refine wl_val (v := .bool (c.mode != 2)) (by kernel_rfl) (by kernel_rfl) ?_
  simp only [Act.put, List.setIfInBounds_toArray, List.set_cons_zero, List.set_cons_succ]
  rw [e2]
  refine wl_val (v := .bool false) (by kernel_rfl) (by kernel_rfl) ?_
  simp only [Act.put, List.setIfInBounds_toArray, List.set_cons_zero, List.set_cons_succ]
  refine wl_val (v := .bool false) (by kernel_rfl) (by kernel_rfl) ?_
  simp only [Act.put, List.setIfInBounds_toArray, List.set_cons_zero, List.set_cons_succ]
  refine wl_val (v := .bool false) (by kernel_rfl) (by kernel_rfl) ?_
  simp only [Act.put, List.setIfInBounds_toArray, List.set_cons_zero, List.set_cons_succ]
  refine wl_val (v := .pointer (some ⟨X, 7, none⟩)) (by kernel_rfl) (by kernel_rfl) ?_
  simp only [Act.put, List.setIfInBounds_toArray, List.set_cons_zero, List.set_cons_succ]
  refine wl_ld rfl (by kernel_rfl) rfl f7 ?_
  simp only [Act.put, List.setIfInBounds_toArray, List.set_cons_zero, List.set_cons_succ]
  refine wl_val (v := .bool (decide (c.slots < 1))) (by kernel_rfl) (by kernel_rfl) ?_
  simp only [Act.put, List.setIfInBounds_toArray, List.set_cons_zero, List.set_cons_succ]
  rw [HD3.out]
  refine wl_val (v := .bool false) (by kernel_rfl) (by kernel_rfl) ?_
  simp only [Act.put, List.setIfInBounds_toArray, List.set_cons_zero, List.set_cons_succ]
  refine wl_val (v := .bool false) (by kernel_rfl) (by kernel_rfl) ?_
  simp only [Act.put, List.setIfInBounds_toArray, List.set_cons_zero, List.set_cons_succ]
  refine wl_val (v := .pointer (some ⟨X, 7, none⟩)) (by kernel_rfl) (by kernel_rfl) ?_
  simp only [Act.put, List.setIfInBounds_toArray, List.set_cons_zero, List.set_cons_succ]
  refine wl_ld rfl (by kernel_rfl) rfl f7 ?_
  simp only [Act.put, List.setIfInBounds_toArray, List.set_cons_zero, List.set_cons_succ]
  refine wl_val (v := .bool (decide (64 < c.slots))) (by kernel_rfl) (by kernel_rfl) ?_
  simp only [Act.put, List.setIfInBounds_toArray, List.set_cons_zero, List.set_cons_succ]
  rw [HD4.out]
  refine wl_val (v := .bool false) (by kernel_rfl) (by kernel_rfl) ?_
  simp only [Act.put, List.setIfInBounds_toArray, List.set_cons_zero, List.set_cons_succ]
  refine wl_val (v := .bool false) (by kernel_rfl) (by kernel_rfl) ?_
  simp only [Act.put, List.setIfInBounds_toArray, List.set_cons_zero, List.set_cons_succ]
  refine wl_val (v := .pointer (some ⟨X, 8, none⟩)) (by kernel_rfl) (by kernel_rfl) ?_
  simp only [Act.put, List.setIfInBounds_toArray, List.set_cons_zero, List.set_cons_succ]
  refine wl_ld rfl (by kernel_rfl) rfl f8 ?_
  simp only [Act.put, List.setIfInBounds_toArray, List.set_cons_zero, List.set_cons_succ]
  refine wl_val (v := .bool (decide (c.exact_ < 0))) (by kernel_rfl) (by kernel_rfl) ?_
  simp only [Act.put, List.setIfInBounds_toArray, List.set_cons_zero, List.set_cons_succ]
  rw [HD5.out]
  refine wl_val (v := .bool false) (by kernel_rfl) (by kernel_rfl) ?_
  simp only [Act.put, List.setIfInBounds_toArray, List.set_cons_zero, List.set_cons_succ]
  refine wl_val (v := .bool false) (by kernel_rfl) (by kernel_rfl) ?_
  simp only [Act.put, List.setIfInBounds_toArray, List.set_cons_zero, List.set_cons_succ]
  refine wl_val (v := .pointer (some ⟨X, 8, none⟩)) (by kernel_rfl) (by kernel_rfl) ?_
  simp only [Act.put, List.setIfInBounds_toArray, List.set_cons_zero, List.set_cons_succ]
  refine wl_ld rfl (by kernel_rfl) rfl f8 ?_
  simp only [Act.put, List.setIfInBounds_toArray, List.set_cons_zero, List.set_cons_succ]
  refine wl_val (v := .bool (decide (32 < c.exact_))) (by kernel_rfl) (by kernel_rfl) ?_
  simp only [Act.put, List.setIfInBounds_toArray, List.set_cons_zero, List.set_cons_succ]
  rw [HD6.out]
  refine wl_val (v := .bool false) (by kernel_rfl) (by kernel_rfl) ?_
  simp only [Act.put, List.setIfInBounds_toArray, List.set_cons_zero, List.set_cons_succ]
  refine wl_val (v := .bool false) (by kernel_rfl) (by kernel_rfl) ?_
  simp only [Act.put, List.setIfInBounds_toArray, List.set_cons_zero, List.set_cons_succ]
  refine wl_val (v := .pointer (some ⟨X, 10, none⟩)) (by kernel_rfl) (by kernel_rfl) ?_
  simp only [Act.put, List.setIfInBounds_toArray, List.set_cons_zero, List.set_cons_succ]
  refine wl_ld rfl (by kernel_rfl) rfl f10 ?_
  simp only [Act.put, List.setIfInBounds_toArray, List.set_cons_zero, List.set_cons_succ]
  refine wl_val (v := .bool (decide (c.depth < 1))) (by kernel_rfl) (by kernel_rfl) ?_
  simp only [Act.put, List.setIfInBounds_toArray, List.set_cons_zero, List.set_cons_succ]
  rw [HD7.out]
  refine wl_val (v := .bool false) (by kernel_rfl) (by kernel_rfl) ?_
  simp only [Act.put, List.setIfInBounds_toArray, List.set_cons_zero, List.set_cons_succ]
  refine wl_val (v := .bool false) (by kernel_rfl) (by kernel_rfl) ?_
  simp only [Act.put, List.setIfInBounds_toArray, List.set_cons_zero, List.set_cons_succ]
  refine wl_val (v := .pointer (some ⟨X, 10, none⟩)) (by kernel_rfl) (by kernel_rfl) ?_
  simp only [Act.put, List.setIfInBounds_toArray, List.set_cons_zero, List.set_cons_succ]
  refine wl_ld rfl (by kernel_rfl) rfl f10 ?_
  simp only [Act.put, List.setIfInBounds_toArray, List.set_cons_zero, List.set_cons_succ]
  refine wl_val (v := .bool (decide (4 < c.depth))) (by kernel_rfl) (by kernel_rfl) ?_
  simp only [Act.put, List.setIfInBounds_toArray, List.set_cons_zero, List.set_cons_succ]
  rw [HD8.out]
  refine wl_val (v := .bool false) (by kernel_rfl) (by kernel_rfl) ?_
  simp only [Act.put, List.setIfInBounds_toArray, List.set_cons_zero, List.set_cons_succ]
  refine wl_val (v := .bool false) (by kernel_rfl) (by kernel_rfl) ?_
  simp only [Act.put, List.setIfInBounds_toArray, List.set_cons_zero, List.set_cons_succ]
  refine wl_val (v := .pointer (some ⟨X, 11, none⟩)) (by kernel_rfl) (by kernel_rfl) ?_
  simp only [Act.put, List.setIfInBounds_toArray, List.set_cons_zero, List.set_cons_succ]
  refine wl_ld rfl (by kernel_rfl) rfl f11 ?_
  simp only [Act.put, List.setIfInBounds_toArray, List.set_cons_zero, List.set_cons_succ]
  refine wl_val (v := .bool (decide (c.width < 1))) (by kernel_rfl) (by kernel_rfl) ?_
  simp only [Act.put, List.setIfInBounds_toArray, List.set_cons_zero, List.set_cons_succ]
  rw [HD9.out]
  refine wl_val (v := .bool false) (by kernel_rfl) (by kernel_rfl) ?_
  simp only [Act.put, List.setIfInBounds_toArray, List.set_cons_zero, List.set_cons_succ]
  refine wl_val (v := .bool false) (by kernel_rfl) (by kernel_rfl) ?_
  simp only [Act.put, List.setIfInBounds_toArray, List.set_cons_zero, List.set_cons_succ]
  refine wl_val (v := .pointer (some ⟨X, 11, none⟩)) (by kernel_rfl) (by kernel_rfl) ?_
  simp only [Act.put, List.setIfInBounds_toArray, List.set_cons_zero, List.set_cons_succ]
  refine wl_ld rfl (by kernel_rfl) rfl f11 ?_
  simp only [Act.put, List.setIfInBounds_toArray, List.set_cons_zero, List.set_cons_succ]
  refine wl_val (v := .bool (decide (256 < c.width))) (by kernel_rfl) (by kernel_rfl) ?_
  simp only [Act.put, List.setIfInBounds_toArray, List.set_cons_zero, List.set_cons_succ]
  rw [HD10.out]
  refine wl_val (v := .bool false) (by kernel_rfl) (by kernel_rfl) ?_
  simp only [Act.put, List.setIfInBounds_toArray, List.set_cons_zero, List.set_cons_succ]
  refine wl_val (v := .bool false) (by kernel_rfl) (by kernel_rfl) ?_
  simp only [Act.put, List.setIfInBounds_toArray, List.set_cons_zero, List.set_cons_succ]
  refine wl_val (v := .pointer (some ⟨X, 12, none⟩)) (by kernel_rfl) (by kernel_rfl) ?_
  simp only [Act.put, List.setIfInBounds_toArray, List.set_cons_zero, List.set_cons_succ]
  refine wl_ld rfl (by kernel_rfl) rfl f12 ?_
  simp only [Act.put, List.setIfInBounds_toArray, List.set_cons_zero, List.set_cons_succ]
  refine wl_val (v := .bool (decide (c.top < 1))) (by kernel_rfl) (by kernel_rfl) ?_
  simp only [Act.put, List.setIfInBounds_toArray, List.set_cons_zero, List.set_cons_succ]
  rw [HD11.out]
  refine wl_val (v := .bool false) (by kernel_rfl) (by kernel_rfl) ?_
  simp only [Act.put, List.setIfInBounds_toArray, List.set_cons_zero, List.set_cons_succ]
  refine wl_val (v := .bool false) (by kernel_rfl) (by kernel_rfl) ?_
  simp only [Act.put, List.setIfInBounds_toArray, List.set_cons_zero, List.set_cons_succ]
  refine wl_val (v := .pointer (some ⟨X, 12, none⟩)) (by kernel_rfl) (by kernel_rfl) ?_
  simp only [Act.put, List.setIfInBounds_toArray, List.set_cons_zero, List.set_cons_succ]
  refine wl_ld rfl (by kernel_rfl) rfl f12 ?_
  simp only [Act.put, List.setIfInBounds_toArray, List.set_cons_zero, List.set_cons_succ]
  refine wl_val (v := .bool (decide (64 < c.top))) (by kernel_rfl) (by kernel_rfl) ?_
  simp only [Act.put, List.setIfInBounds_toArray, List.set_cons_zero, List.set_cons_succ]
  rw [HD12.out]
  refine wl_val (v := .bool false) (by kernel_rfl) (by kernel_rfl) ?_
  simp only [Act.put, List.setIfInBounds_toArray, List.set_cons_zero, List.set_cons_succ]
  refine wl_val (v := .bool false) (by kernel_rfl) (by kernel_rfl) ?_
  simp only [Act.put, List.setIfInBounds_toArray, List.set_cons_zero, List.set_cons_succ]
  refine wl_val (v := .pointer (some ⟨X, 13, none⟩)) (by kernel_rfl) (by kernel_rfl) ?_
  simp only [Act.put, List.setIfInBounds_toArray, List.set_cons_zero, List.set_cons_succ]
  refine wl_ld rfl (by kernel_rfl) rfl f13 ?_
  simp only [Act.put, List.setIfInBounds_toArray, List.set_cons_zero, List.set_cons_succ]
  refine wl_val (v := .bool (decide (c.key < 1))) (by kernel_rfl) (by kernel_rfl) ?_
  simp only [Act.put, List.setIfInBounds_toArray, List.set_cons_zero, List.set_cons_succ]
  rw [HD13.out]
  refine wl_val (v := .bool false) (by kernel_rfl) (by kernel_rfl) ?_
  simp only [Act.put, List.setIfInBounds_toArray, List.set_cons_zero, List.set_cons_succ]
  refine wl_val (v := .bool false) (by kernel_rfl) (by kernel_rfl) ?_
  simp only [Act.put, List.setIfInBounds_toArray, List.set_cons_zero, List.set_cons_succ]
  refine wl_val (v := .pointer (some ⟨X, 13, none⟩)) (by kernel_rfl) (by kernel_rfl) ?_
  simp only [Act.put, List.setIfInBounds_toArray, List.set_cons_zero, List.set_cons_succ]
  refine wl_ld rfl (by kernel_rfl) rfl f13 ?_
  simp only [Act.put, List.setIfInBounds_toArray, List.set_cons_zero, List.set_cons_succ]
  refine wl_val (v := .bool (decide (255 < c.key))) (by kernel_rfl) (by kernel_rfl) ?_
  simp only [Act.put, List.setIfInBounds_toArray, List.set_cons_zero, List.set_cons_succ]
  rw [HD14.out]
  refine wl_val (v := .bool false) (by kernel_rfl) (by kernel_rfl) ?_
  simp only [Act.put, List.setIfInBounds_toArray, List.set_cons_zero, List.set_cons_succ]
  refine wl_val (v := .bool false) (by kernel_rfl) (by kernel_rfl) ?_
  simp only [Act.put, List.setIfInBounds_toArray, List.set_cons_zero, List.set_cons_succ]
  refine wl_val (v := .pointer (some ⟨X, 14, none⟩)) (by kernel_rfl) (by kernel_rfl) ?_
  simp only [Act.put, List.setIfInBounds_toArray, List.set_cons_zero, List.set_cons_succ]
  refine wl_ldC rfl (by kernel_rfl) rfl f14 ?_
  simp only [Act.put, List.setIfInBounds_toArray, List.set_cons_zero, List.set_cons_succ]
  refine wl_want rfl ?_
  go_simp
  refine (HCs.out _ K2.out).mono ?_
  rintro e w3 ⟨rfl, kk⟩
  have K3 := hide (K2.out.trans kk)
  have B3 := hide (B2.out.kept kk (fun h => h))
  clear kk B2 K2 HCs
  dsimp only
  trace "CLS"
  refine wl_val (v := .bool false) (by kernel_rfl) (by kernel_rfl) ?_
  simp only [Act.put, List.setIfInBounds_toArray, List.set_cons_zero, List.set_cons_succ]
  refine wl_val (v := .bool false) (by kernel_rfl) (by kernel_rfl) ?_
  simp only [Act.put, List.setIfInBounds_toArray, List.set_cons_zero, List.set_cons_succ]
  refine wl_nil ?_
  have f11 : w3.cell? ⟨X, 11, none⟩ = some (.int .i64 c.width) := B3.out.cell 11
  have f13 : w3.cell? ⟨X, 13, none⟩ = some (.int .i64 c.key) := B3.out.cell 13
  have f14' : w3.cell? ⟨X, 14, none⟩ = some (.slice C (p + 1) k) := B3.out.cell 14
  obtain ⟨b, off, rfl, hbB, hcell⟩ := (HR.out.kept K3.out (fun _ _ h => h)).2 (by omega)
  have f1 := hcell _ _ HD.out
  have h6 := H6.out
  have hmy := HMy.out
  clear B3 f5 f6 f7 f8 f10 f12 f14 hcell
  trace "TAIL"
  go_wp2_with fail
  trace "TAIL2"
  all_goals first
    | (go_ret; exact ⟨rfl, K3.out⟩)
    | (have hy := HY.out; exfalso; omega)
theorem config_ok2 (c : Cfg) (h : Fine c) (l : List (Int × Int)) (hl : classesE l = 0) (hm : Room c l) (C T : Option Addr) (n k j B : Nat) (w : World) (hr : Rd w B C 2 n (clv l)) (hB : B ≤ w.heap.size) :
    Calls Try.prog 26 #[Value.agg #[.int .i64 c.length, .int .i64 c.lateness, .int .i64 c.windows, .int .i64 c.shards, .int .i64 c.spread, .int .i64 c.queue, .int .i64 c.mode, .int .i64 c.slots, .int .i64 c.exact_, .int .u64 c.promote, .int .i64 c.depth, .int .i64 c.width, .int .i64 c.top, .int .i64 c.key, .slice C n k, .slice T 16 j, .int .u64 c.seed]] w fun e w' => e = .returned (.int .i64 0) ∧ Keeps (fun _ => False) w w' := by
  by_cases e : c.mode = 1
  · exact config_ok2a c h l hl hm C T n k j B w hr hB (by simp [e])
  · exact config_ok2b c h l hl hm C T n k j B w hr hB (by simp [e]) (by have := h.mode; simp; omega)
end Go.Proofs.Ytgjlibecgkhocaa
