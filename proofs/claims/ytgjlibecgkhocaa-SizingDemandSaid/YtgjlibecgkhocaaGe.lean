/-
  sizing.Check of any configuration. No conditions beyond those of the statement.
-/
import Derived.Test.YtgjlibecgkhocaaGa
import Derived.Test.YtgjlibecgkhocaaSy
import Derived.Test.YtgjlibecgkhocaaRv
import Derived.Test.YtgjlibecgkhocaaAx
import Derived.Test.YtgjlibecgkhocaaGk
set_option linter.unusedVariables false
set_option linter.unusedSimpArgs false
namespace Go.Proofs.Ytgjlibecgkhocaa
open Go.RowKit Cfp
theorem fine_of {c : Cfg} {q : Nat} (h1 : clockB c = true) (h2 : routeB c q = true) (h3 : numB c = true) (hp : 0 ≤ c.promote ∧ c.promote < 18446744073709551616) (hs : 0 ≤ c.seed ∧ c.seed < 18446744073709551616) : Fine c ∧ q = 16 := by
  unfold clockB at h1
  unfold routeB at h2
  unfold numB at h3
  simp at h1 h2 h3
  exact ⟨⟨by omega, by omega, by omega, by omega, by omega, by omega, by omega, by omega, by omega, hp, by omega, by omega, by omega, by omega, hs⟩, by omega⟩
theorem rtd_of {c : Cfg} {q : Nat} (h2 : routeB c q = true) (hs : 0 ≤ c.seed ∧ c.seed < 18446744073709551616) : Rtd c ∧ q = 16 := by
  unfold routeB at h2
  simp at h2
  exact ⟨⟨by omega, by omega, hs⟩, by omega⟩
theorem bad_of {c : Cfg} {q : Nat} (h2 : routeB c q = false) : Bad c q := by
  unfold routeB at h2
  rw [decide_eq_false_iff_not] at h2
  exact h2
theorem keeps_eq_alloc {W W' : World} {o : Obj} (h : W' = W.alloc o) : Keeps (fun _ => False) W W' := by
  subst h
  exact (Keeps.refl _ _).alloc _
theorem sclock_fine (c : Cfg) (hc : clockB c = true) (C T : Option Addr) (n k m j : Nat) (w : World) :
    Calls Try.prog 47 #[Value.agg #[.int .i64 c.length, .int .i64 c.lateness, .int .i64 c.windows, .int .i64 c.shards, .int .i64 c.spread, .int .i64 c.queue, .int .i64 c.mode, .int .i64 c.slots, .int .i64 c.exact_, .int .u64 c.promote, .int .i64 c.depth, .int .i64 c.width, .int .i64 c.top, .int .i64 c.key, .slice C n k, .slice T m j, .int .u64 c.seed]] w fun e w' => e = .returned (.int .i64 0) ∧ w' = w.alloc (.cells #[.int .i64 c.length, .int .i64 c.lateness, .int .i64 c.windows, .int .i64 c.shards, .int .i64 c.spread, .int .i64 c.queue, .int .i64 c.mode, .int .i64 c.slots, .int .i64 c.exact_, .int .u64 c.promote, .int .i64 c.depth, .int .i64 c.width, .int .i64 c.top, .int .i64 c.key, .slice C n k, .slice T m j, .int .u64 c.seed] 28) := by
  unfold clockB at hc
  simp at hc
  obtain ⟨h1, h2, h3, h4, h5, h6⟩ := hc
  go_enter Try.func47, Try.ntmps47
  go_wp2_with fail
  go_ret
  exact ⟨rfl, rfl⟩
theorem room_of {c : Cfg} {l : List (Int × Int)} (hl : classesE l = 0) (hm : ¬ lastSize l < most c) : Room c l := by
  obtain ⟨⟨n0, n1⟩, _⟩ := classes_bd l hl
  obtain ⟨p, hp⟩ : ∃ p, l.length = p + 1 := ⟨l.length - 1, by omega⟩
  refine ⟨p, l[p]'(by omega), hp, List.getElem?_eq_getElem _, ?_⟩
  have e : lastSize l = (l[p]'(by omega)).1 := by
    unfold lastSize
    rw [List.getLastD_eq_getLast?, List.getLast?_eq_getElem?, show l.length - 1 = p by omega, List.getElem?_eq_getElem (show p < l.length by omega)]
    rfl
  rw [e] at hm
  unfold most at hm
  omega
section
variable (c : Cfg) (C T : Option Addr) (n k q j : Nat) (w : World)
set_option maxRecDepth 100000 in
set_option maxHeartbeats 1500000 in
theorem scheck_b1 (h1 : clockB c = false) : Calls Try.prog 25 #[Value.agg #[.int .i64 c.length, .int .i64 c.lateness, .int .i64 c.windows, .int .i64 c.shards, .int .i64 c.spread, .int .i64 c.queue, .int .i64 c.mode, .int .i64 c.slots, .int .i64 c.exact_, .int .u64 c.promote, .int .i64 c.depth, .int .i64 c.width, .int .i64 c.top, .int .i64 c.key, .slice C n k, .slice T q j, .int .u64 c.seed]] w fun e w' => e = .returned (.int .i64 11) ∧ Keeps (fun _ => False) w w' := by
  have H1 := hide (fun W => sclock_bad c C T n k q j W h1)
  clear h1
  have B0 := hide (Blk.new w 28 #[.int .i64 c.length, .int .i64 c.lateness, .int .i64 c.windows, .int .i64 c.shards, .int .i64 c.spread, .int .i64 c.queue, .int .i64 c.mode, .int .i64 c.slots, .int .i64 c.exact_, .int .u64 c.promote, .int .i64 c.depth, .int .i64 c.width, .int .i64 c.top, .int .i64 c.key, .slice C n k, .slice T q j, .int .u64 c.seed])
  have K0 := hide ((Keeps.refl (fun _ => False) w).alloc (.cells #[.int .i64 c.length, .int .i64 c.lateness, .int .i64 c.windows, .int .i64 c.shards, .int .i64 c.spread, .int .i64 c.queue, .int .i64 c.mode, .int .i64 c.slots, .int .i64 c.exact_, .int .u64 c.promote, .int .i64 c.depth, .int .i64 c.width, .int .i64 c.top, .int .i64 c.key, .slice C n k, .slice T q j, .int .u64 c.seed] 28))
  go_enter Try.func25, Try.ntmps25
  go_wp2_with (refine cfg_ld _ rfl B0.out rfl (by rfl) ?_; simp only [Act.put, List.setIfInBounds_toArray, List.set_cons_zero, List.set_cons_succ])
  refine (H1.out _).mono ?_
  rintro e w1 ⟨rfl, hw⟩
  have kk := keeps_eq_alloc hw
  have K1 := hide (K0.out.trans kk)
  have B1 := hide (B0.out.kept kk (fun h => h))
  clear hw kk K0 B0
  go_wp2_with fail
  go_ret
  exact ⟨rfl, K1.out⟩
set_option maxRecDepth 100000 in
set_option maxHeartbeats 1500000 in
theorem scheck_b2 (h1 : clockB c = true) (h2 : Bad c q) : Calls Try.prog 25 #[Value.agg #[.int .i64 c.length, .int .i64 c.lateness, .int .i64 c.windows, .int .i64 c.shards, .int .i64 c.spread, .int .i64 c.queue, .int .i64 c.mode, .int .i64 c.slots, .int .i64 c.exact_, .int .u64 c.promote, .int .i64 c.depth, .int .i64 c.width, .int .i64 c.top, .int .i64 c.key, .slice C n k, .slice T q j, .int .u64 c.seed]] w fun e w' => e = .returned (.int .i64 11) ∧ Keeps (fun _ => False) w w' := by
  have H1 := hide (fun W => sclock_fine c h1 C T n k q j W)
  have H2 := hide (fun W => rtcheck_bad c C T n k q j W h2)
  clear h1 h2
  have B0 := hide (Blk.new w 28 #[.int .i64 c.length, .int .i64 c.lateness, .int .i64 c.windows, .int .i64 c.shards, .int .i64 c.spread, .int .i64 c.queue, .int .i64 c.mode, .int .i64 c.slots, .int .i64 c.exact_, .int .u64 c.promote, .int .i64 c.depth, .int .i64 c.width, .int .i64 c.top, .int .i64 c.key, .slice C n k, .slice T q j, .int .u64 c.seed])
  have K0 := hide ((Keeps.refl (fun _ => False) w).alloc (.cells #[.int .i64 c.length, .int .i64 c.lateness, .int .i64 c.windows, .int .i64 c.shards, .int .i64 c.spread, .int .i64 c.queue, .int .i64 c.mode, .int .i64 c.slots, .int .i64 c.exact_, .int .u64 c.promote, .int .i64 c.depth, .int .i64 c.width, .int .i64 c.top, .int .i64 c.key, .slice C n k, .slice T q j, .int .u64 c.seed] 28))
  go_enter Try.func25, Try.ntmps25
  go_wp2_with (refine cfg_ld _ rfl B0.out rfl (by rfl) ?_; simp only [Act.put, List.setIfInBounds_toArray, List.set_cons_zero, List.set_cons_succ])
  refine (H1.out _).mono ?_
  rintro e w1 ⟨rfl, hw⟩
  have kk := keeps_eq_alloc hw
  have K1 := hide (K0.out.trans kk)
  have B1 := hide (B0.out.kept kk (fun h => h))
  clear hw kk K0 B0
  go_wp2_with (refine cfg_ld _ rfl B1.out rfl (by rfl) ?_; simp only [Act.put, List.setIfInBounds_toArray, List.set_cons_zero, List.set_cons_succ])
  refine (H2.out _).mono ?_
  rintro e w2 ⟨rfl, hw⟩
  have kk := keeps_eq_alloc hw
  have K2 := hide (K1.out.trans kk)
  have B2 := hide (B1.out.kept kk (fun h => h))
  clear hw kk K1 B1
  go_wp2_with fail
  go_ret
  exact ⟨rfl, K2.out⟩
set_option maxRecDepth 100000 in
set_option maxHeartbeats 1500000 in
theorem scheck_b3 (h1 : clockB c = true) (h2 : Rtd c) (hq : q = 16) (h3 : numB c = false) : Calls Try.prog 25 #[Value.agg #[.int .i64 c.length, .int .i64 c.lateness, .int .i64 c.windows, .int .i64 c.shards, .int .i64 c.spread, .int .i64 c.queue, .int .i64 c.mode, .int .i64 c.slots, .int .i64 c.exact_, .int .u64 c.promote, .int .i64 c.depth, .int .i64 c.width, .int .i64 c.top, .int .i64 c.key, .slice C n k, .slice T q j, .int .u64 c.seed]] w fun e w' => e = .returned (.int .i64 11) ∧ Keeps (fun _ => False) w w' := by
  subst hq
  have H1 := hide (fun W => sclock_fine c h1 C T n k 16 j W)
  have H2 := hide (fun W => rtcheck_ok c h2 C T n k j W)
  have H3 := hide (fun W => numbers_bad c C T n k 16 j W h3)
  obtain ⟨q, hq⟩ : ∃ q, q = 16 := ⟨_, rfl⟩
  rw [← hq] at H1 H2 H3 ⊢
  clear h1 h2 h3 hq
  have B0 := hide (Blk.new w 28 #[.int .i64 c.length, .int .i64 c.lateness, .int .i64 c.windows, .int .i64 c.shards, .int .i64 c.spread, .int .i64 c.queue, .int .i64 c.mode, .int .i64 c.slots, .int .i64 c.exact_, .int .u64 c.promote, .int .i64 c.depth, .int .i64 c.width, .int .i64 c.top, .int .i64 c.key, .slice C n k, .slice T q j, .int .u64 c.seed])
  have K0 := hide ((Keeps.refl (fun _ => False) w).alloc (.cells #[.int .i64 c.length, .int .i64 c.lateness, .int .i64 c.windows, .int .i64 c.shards, .int .i64 c.spread, .int .i64 c.queue, .int .i64 c.mode, .int .i64 c.slots, .int .i64 c.exact_, .int .u64 c.promote, .int .i64 c.depth, .int .i64 c.width, .int .i64 c.top, .int .i64 c.key, .slice C n k, .slice T q j, .int .u64 c.seed] 28))
  go_enter Try.func25, Try.ntmps25
  go_wp2_with (refine cfg_ld _ rfl B0.out rfl (by rfl) ?_; simp only [Act.put, List.setIfInBounds_toArray, List.set_cons_zero, List.set_cons_succ])
  refine (H1.out _).mono ?_
  rintro e w1 ⟨rfl, hw⟩
  have kk := keeps_eq_alloc hw
  have K1 := hide (K0.out.trans kk)
  have B1 := hide (B0.out.kept kk (fun h => h))
  clear hw kk K0 B0
  go_wp2_with (refine cfg_ld _ rfl B1.out rfl (by rfl) ?_; simp only [Act.put, List.setIfInBounds_toArray, List.set_cons_zero, List.set_cons_succ])
  refine (H2.out _).mono ?_
  rintro e w2 ⟨rfl, hw⟩
  have kk := keeps_eq_alloc hw
  have K2 := hide (K1.out.trans kk)
  have B2 := hide (B1.out.kept kk (fun h => h))
  clear hw kk K1 B1
  go_wp2_with (refine cfg_ld _ rfl B2.out rfl (by rfl) ?_; simp only [Act.put, List.setIfInBounds_toArray, List.set_cons_zero, List.set_cons_succ])
  refine (H3.out _).mono ?_
  rintro e w3 ⟨rfl, hw⟩
  have kk := keeps_eq_alloc hw
  have K3 := hide (K2.out.trans kk)
  have B3 := hide (B2.out.kept kk (fun h => h))
  clear hw kk K2 B2
  go_wp2_with fail
  go_ret
  exact ⟨rfl, K3.out⟩
set_option maxRecDepth 100000 in
set_option maxHeartbeats 1500000 in
theorem scheck_b4 (h : Fine c) (hq : q = 16) (l : List (Int × Int)) (hw : Wide l) (h4 : classesE l ≠ 0) (B : Nat) (hr : Rd w B C 2 n (prs l)) (hB : B ≤ w.heap.size) (hn : n ≤ 1000) : Calls Try.prog 25 #[Value.agg #[.int .i64 c.length, .int .i64 c.lateness, .int .i64 c.windows, .int .i64 c.shards, .int .i64 c.spread, .int .i64 c.queue, .int .i64 c.mode, .int .i64 c.slots, .int .i64 c.exact_, .int .u64 c.promote, .int .i64 c.depth, .int .i64 c.width, .int .i64 c.top, .int .i64 c.key, .slice C n k, .slice T q j, .int .u64 c.seed]] w fun e w' => e = .returned (.int .i64 11) ∧ Keeps (fun _ => False) w w' := by
  subst hq
  have H1 := hide (fun W => sclock_ok c h C T n k 16 j W)
  have H2 := hide (fun W => rtcheck_ok c ⟨h.shards, h.spread, h.seed⟩ C T n k j W)
  have H3 := hide (fun W => numbers_ok c h C T n k 16 j W)
  have H4 := hide (fun W h1 h2 => acheck_any l hw C n k B W h1 h2 (by omega))
  obtain ⟨q, hq⟩ : ∃ q, q = 16 := ⟨_, rfl⟩
  rw [← hq] at H1 H2 H3 ⊢
  have HR := hide hr
  obtain ⟨ce, hce⟩ : ∃ ce, ce = classesE l := ⟨_, rfl⟩
  rw [← hce] at H4 h4
  have e4 : (ce == 0) = false := by simpa using h4
  have e4' : (ce != 0) = true := by simpa using h4
  clear h hq hr h4 hce
  have B0 := hide (Blk.new w 28 #[.int .i64 c.length, .int .i64 c.lateness, .int .i64 c.windows, .int .i64 c.shards, .int .i64 c.spread, .int .i64 c.queue, .int .i64 c.mode, .int .i64 c.slots, .int .i64 c.exact_, .int .u64 c.promote, .int .i64 c.depth, .int .i64 c.width, .int .i64 c.top, .int .i64 c.key, .slice C n k, .slice T q j, .int .u64 c.seed])
  have K0 := hide ((Keeps.refl (fun _ => False) w).alloc (.cells #[.int .i64 c.length, .int .i64 c.lateness, .int .i64 c.windows, .int .i64 c.shards, .int .i64 c.spread, .int .i64 c.queue, .int .i64 c.mode, .int .i64 c.slots, .int .i64 c.exact_, .int .u64 c.promote, .int .i64 c.depth, .int .i64 c.width, .int .i64 c.top, .int .i64 c.key, .slice C n k, .slice T q j, .int .u64 c.seed] 28))
  go_enter Try.func25, Try.ntmps25
  go_wp2_with (refine cfg_ld _ rfl B0.out rfl (by rfl) ?_; simp only [Act.put, List.setIfInBounds_toArray, List.set_cons_zero, List.set_cons_succ])
  refine (H1.out _).mono ?_
  rintro e w1 ⟨rfl, hw⟩
  have kk := keeps_eq_alloc hw
  have K1 := hide (K0.out.trans kk)
  have B1 := hide (B0.out.kept kk (fun h => h))
  clear hw kk K0 B0
  go_wp2_with (refine cfg_ld _ rfl B1.out rfl (by rfl) ?_; simp only [Act.put, List.setIfInBounds_toArray, List.set_cons_zero, List.set_cons_succ])
  refine (H2.out _).mono ?_
  rintro e w2 ⟨rfl, hw⟩
  have kk := keeps_eq_alloc hw
  have K2 := hide (K1.out.trans kk)
  have B2 := hide (B1.out.kept kk (fun h => h))
  clear hw kk K1 B1
  go_wp2_with (refine cfg_ld _ rfl B2.out rfl (by rfl) ?_; simp only [Act.put, List.setIfInBounds_toArray, List.set_cons_zero, List.set_cons_succ])
  refine (H3.out _).mono ?_
  rintro e w3 ⟨rfl, hw⟩
  have kk := keeps_eq_alloc hw
  have K3 := hide (K2.out.trans kk)
  have B3 := hide (B2.out.kept kk (fun h => h))
  clear hw kk K2 B2
  have f14 : w3.cell? ⟨w.heap.size, 14, none⟩ = some (.slice C n k) := B3.out.cell 14
  trace "ARENA"
  go_wp2_with fail
  refine (H4.out _ (HR.out.kept K3.out (fun _ _ h => h)) (Nat.le_trans hB K3.out.size)).mono ?_
  rintro e w4 ⟨rfl, k4⟩
  have K4 := hide (K3.out.trans k4)
  clear k4 f14 K3 B3
  go_wp2_with fail
  go_ret
  exact ⟨rfl, K4.out⟩
set_option maxRecDepth 100000 in
set_option maxHeartbeats 1500000 in
theorem scheck_b5 (h : Fine c) (hq : q = 16) (l : List (Int × Int)) (hw : Wide l) (h4 : classesE l = 0) (hm : lastSize l < most c) (B : Nat) (hr : Rd w B C 2 n (prs l)) (hB : B ≤ w.heap.size) (hn : n ≤ 1000) : Calls Try.prog 25 #[Value.agg #[.int .i64 c.length, .int .i64 c.lateness, .int .i64 c.windows, .int .i64 c.shards, .int .i64 c.spread, .int .i64 c.queue, .int .i64 c.mode, .int .i64 c.slots, .int .i64 c.exact_, .int .u64 c.promote, .int .i64 c.depth, .int .i64 c.width, .int .i64 c.top, .int .i64 c.key, .slice C n k, .slice T q j, .int .u64 c.seed]] w fun e w' => e = .returned (.int .i64 4) ∧ Keeps (fun _ => False) w w' := by
  subst hq
  have hlen : l.length = n := by have := hr.1; rw [prs_len] at this; omega
  obtain ⟨⟨n0, n1⟩, hb⟩ := classes_bd l h4
  obtain ⟨p, rfl⟩ : ∃ p, n = p + 1 := ⟨n - 1, by omega⟩
  obtain ⟨d, hd⟩ : ∃ d, l[p]? = some d := ⟨l[p]'(by omega), List.getElem?_eq_getElem _⟩
  have hls : lastSize l = d.1 := by
    unfold lastSize
    rw [List.getLastD_eq_getLast?, List.getLast?_eq_getElem?, hlen]
    simp [hd]
  have h6 := h.width
  have h8 := h.key
  have hp7 : p ≤ 7 := by omega
  have hmx := fun ts t x y z u w => run_max4 (P := Try.prog) ts t x y z u w
  have hmy : decide (d.1 < max (max (max (8 * c.width) 32) 24) c.key) = true := by rw [hls] at hm; unfold most at hm; simpa using hm
  have H1 := hide (fun W => sclock_ok c h C T (p + 1) k 16 j W)
  have H2 := hide (fun W => rtcheck_ok c ⟨h.shards, h.spread, h.seed⟩ C T (p + 1) k j W)
  have H3 := hide (fun W => numbers_ok c h C T (p + 1) k 16 j W)
  have H4 := hide (fun W h1 h2 => acheck_ok l h4 C (p + 1) k B W h1 h2)
  rw [clv_prs] at H4
  have hbd := hb d (List.mem_of_getElem? hd)
  have HR := hide hr
  have HD := hide (clv_at l p d hd).1
  rw [clv_prs] at HD
  have w8 : IntKind.i64.wrap (8 * c.width) = 8 * c.width := IntWalk.i64_in _ (by omega)
  have B0 := hide (Blk.new w 28 #[.int .i64 c.length, .int .i64 c.lateness, .int .i64 c.windows, .int .i64 c.shards, .int .i64 c.spread, .int .i64 c.queue, .int .i64 c.mode, .int .i64 c.slots, .int .i64 c.exact_, .int .u64 c.promote, .int .i64 c.depth, .int .i64 c.width, .int .i64 c.top, .int .i64 c.key, .slice C (p + 1) k, .slice T 16 j, .int .u64 c.seed])
  have K0 := hide ((Keeps.refl (fun _ => False) w).alloc (.cells #[.int .i64 c.length, .int .i64 c.lateness, .int .i64 c.windows, .int .i64 c.shards, .int .i64 c.spread, .int .i64 c.queue, .int .i64 c.mode, .int .i64 c.slots, .int .i64 c.exact_, .int .u64 c.promote, .int .i64 c.depth, .int .i64 c.width, .int .i64 c.top, .int .i64 c.key, .slice C (p + 1) k, .slice T 16 j, .int .u64 c.seed] 28))
  have HMy := hide hmy
  clear h hr h4 hm hls hlen n0 n1 hb hd hmy
  go_enter Try.func25, Try.ntmps25
  go_wp2_with (refine cfg_ld _ rfl B0.out rfl (by rfl) ?_; simp only [Act.put, List.setIfInBounds_toArray, List.set_cons_zero, List.set_cons_succ])
  refine (H1.out _).mono ?_
  rintro e w1 ⟨rfl, hw⟩
  have kk := keeps_eq_alloc hw
  have K1 := hide (K0.out.trans kk)
  have B1 := hide (B0.out.kept kk (fun h => h))
  clear hw kk K0 B0
  go_wp2_with (refine cfg_ld _ rfl B1.out rfl (by rfl) ?_; simp only [Act.put, List.setIfInBounds_toArray, List.set_cons_zero, List.set_cons_succ])
  refine (H2.out _).mono ?_
  rintro e w2 ⟨rfl, hw⟩
  have kk := keeps_eq_alloc hw
  have K2 := hide (K1.out.trans kk)
  have B2 := hide (B1.out.kept kk (fun h => h))
  clear hw kk K1 B1
  go_wp2_with (refine cfg_ld _ rfl B2.out rfl (by rfl) ?_; simp only [Act.put, List.setIfInBounds_toArray, List.set_cons_zero, List.set_cons_succ])
  refine (H3.out _).mono ?_
  rintro e w3 ⟨rfl, hw⟩
  have kk := keeps_eq_alloc hw
  have K3 := hide (K2.out.trans kk)
  have B3 := hide (B2.out.kept kk (fun h => h))
  clear hw kk K2 B2
  have f14 : w3.cell? ⟨w.heap.size, 14, none⟩ = some (.slice C (p + 1) k) := B3.out.cell 14
  trace "ARENA"
  go_wp2_with fail
  refine (H4.out _ (HR.out.kept K3.out (fun _ _ h => h)) (Nat.le_trans hB K3.out.size)).mono ?_
  rintro e w4 ⟨rfl, k4⟩
  have b4 := B3.out.kept k4 (fun h => h)
  have k4 := K3.out.trans k4
  have f11 : w4.cell? ⟨w.heap.size, 11, none⟩ = some (.int .i64 c.width) := b4.cell 11
  have f13 : w4.cell? ⟨w.heap.size, 13, none⟩ = some (.int .i64 c.key) := b4.cell 13
  have f14' : w4.cell? ⟨w.heap.size, 14, none⟩ = some (.slice C (p + 1) k) := b4.cell 14
  have K4 := hide k4
  obtain ⟨b, off, rfl, hbB, hcell⟩ := (HR.out.kept K4.out (fun _ _ h => h)).2 (by omega)
  have f1 := hcell _ _ HD.out
  have hmy := HMy.out
  clear hcell k4 b4 f14 K3 B3
  trace "LAST"
  go_wp2_with fail
  try go_quiet (fail)
  go_wp2_with fail
  all_goals first
    | (go_ret; first | exact ⟨rfl, K4.out⟩ | exact ⟨rfl, K4.out.drewN _⟩ | exact ⟨rfl, K4.out.drew⟩)
    | (have hy := HMy.out; exfalso; simp at hy; omega)
theorem scheck_any (l : List (Int × Int)) (hw : Wide l) (hp : 0 ≤ c.promote ∧ c.promote < 18446744073709551616) (hs : 0 ≤ c.seed ∧ c.seed < 18446744073709551616) (B : Nat) (hr : Rd w B C 2 n (prs l)) (hB : B ≤ w.heap.size) (hn : n ≤ 1000) : Calls Try.prog 25 #[Value.agg #[.int .i64 c.length, .int .i64 c.lateness, .int .i64 c.windows, .int .i64 c.shards, .int .i64 c.spread, .int .i64 c.queue, .int .i64 c.mode, .int .i64 c.slots, .int .i64 c.exact_, .int .u64 c.promote, .int .i64 c.depth, .int .i64 c.width, .int .i64 c.top, .int .i64 c.key, .slice C n k, .slice T q j, .int .u64 c.seed]] w fun e w' => e = .returned (.int .i64 (configE c l q)) ∧ Keeps (fun _ => False) w w' := by
  unfold configE
  rcases h1 : clockB c with _ | _
  · rw [if_pos (.inl rfl)]
    exact scheck_b1 c C T n k q j w h1
  rcases h2 : routeB c q with _ | _
  · rw [if_pos (.inr (.inl rfl))]
    exact scheck_b2 c C T n k q j w h1 (bad_of h2)
  obtain ⟨hr2, hq⟩ := rtd_of h2 hs
  rcases h3 : numB c with _ | _
  · rw [if_pos (.inr (.inr (.inl rfl)))]
    exact scheck_b3 c C T n k q j w h1 hr2 hq h3
  obtain ⟨hf, _⟩ := fine_of h1 h2 h3 hp hs
  by_cases h4 : classesE l = 0
  · rw [if_neg (by simp [h4])]
    by_cases hm : lastSize l < most c
    · rw [if_pos hm]
      exact scheck_b5 c C T n k q j w hf hq l hw h4 hm B hr hB hn
    · rw [if_neg hm]
      subst hq
      exact scheck_ok c hf l h4 (room_of h4 hm) C T n k j B w (by rw [clv_prs]; exact hr) hB
  · rw [if_pos (.inr (.inr (.inr h4)))]
    exact scheck_b4 c C T n k q j w hf hq l hw h4 B hr hB hn
end
end Go.Proofs.Ytgjlibecgkhocaa
