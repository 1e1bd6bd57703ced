/-
  Routing: the reference's Route.
-/
import Derived.Test.YtgjlibecgkhocaaRx
set_option linter.unusedVariables false
set_option linter.unusedSimpArgs false
namespace Go.Proofs.Ytgjlibecgkhocaa
open Go.RowKit Cfp

theorem rroute_bad (c : Cfg) (C T : Option Addr) (n k q j : Nat) (w : World) (hb : Bad c q) (s : ByteArray) (x : Int) :
    Calls Try.prog 22 #[Value.agg #[.int .i64 c.length, .int .i64 c.lateness, .int .i64 c.windows, .int .i64 c.shards, .int .i64 c.spread, .int .i64 c.queue, .int .i64 c.mode, .int .i64 c.slots, .int .i64 c.exact_, .int .u64 c.promote, .int .i64 c.depth, .int .i64 c.width, .int .i64 c.top, .int .i64 c.key, .slice C n k, .slice T q j, .int .u64 c.seed], .string s, .int .i64 x] w fun e w' => e = .returned (.int .i64 0) ∧ Keeps (fun _ => False) w w' := by
  have CH := hide (fun W => rrtcheck_bad c C T n k q j W hb)
  have HH := hide (fun W => rhome_bad c C T n k q j W hb s)
  have bX := hide (Blk.new w 28 #[.int .i64 c.length, .int .i64 c.lateness, .int .i64 c.windows, .int .i64 c.shards, .int .i64 c.spread, .int .i64 c.queue, .int .i64 c.mode, .int .i64 c.slots, .int .i64 c.exact_, .int .u64 c.promote, .int .i64 c.depth, .int .i64 c.width, .int .i64 c.top, .int .i64 c.key, .slice C n k, .slice T q j, .int .u64 c.seed])
  have kX := hide ((Keeps.refl (fun _ => False) w).alloc (.cells #[.int .i64 c.length, .int .i64 c.lateness, .int .i64 c.windows, .int .i64 c.shards, .int .i64 c.spread, .int .i64 c.queue, .int .i64 c.mode, .int .i64 c.slots, .int .i64 c.exact_, .int .u64 c.promote, .int .i64 c.depth, .int .i64 c.width, .int .i64 c.top, .int .i64 c.key, .slice C n k, .slice T q j, .int .u64 c.seed] 28))
  by_cases hx : x < 0
  · go_enter Try.func22, Try.ntmps22
    go_wp2_with (refine cfg_ld _ rfl bX.out rfl (by rfl) ?_; simp only [Act.put, List.setIfInBounds_toArray, List.set_cons_zero, List.set_cons_succ])
    refine (HH.out _).mono ?_
    rintro e w1 ⟨rfl, k1⟩
    have K1 := hide (kX.out.trans k1)
    clear k1
    go_wp2_with fail
    go_ret
    exact ⟨rfl, K1.out⟩
  · go_enter Try.func22, Try.ntmps22
    go_wp2_with (refine cfg_ld _ rfl bX.out rfl (by rfl) ?_; simp only [Act.put, List.setIfInBounds_toArray, List.set_cons_zero, List.set_cons_succ])
    refine (CH.out _).mono ?_
    rintro e w1 ⟨rfl, hw1⟩
    have k1 : Keeps (fun _ => False) (w.alloc (.cells #[.int .i64 c.length, .int .i64 c.lateness, .int .i64 c.windows, .int .i64 c.shards, .int .i64 c.spread, .int .i64 c.queue, .int .i64 c.mode, .int .i64 c.slots, .int .i64 c.exact_, .int .u64 c.promote, .int .i64 c.depth, .int .i64 c.width, .int .i64 c.top, .int .i64 c.key, .slice C n k, .slice T q j, .int .u64 c.seed] 28)) w1 := by rw [hw1]; exact (Keeps.refl _ _).alloc _
    have K1 := hide (kX.out.trans k1)
    have BX1 := hide (bX.out.kept k1 (fun h => h))
    clear k1 hw1
    go_wp2_with (refine cfg_ld _ rfl BX1.out rfl (by rfl) ?_; simp only [Act.put, List.setIfInBounds_toArray, List.set_cons_zero, List.set_cons_succ])
    refine (HH.out _).mono ?_
    rintro e w2 ⟨rfl, k2⟩
    have K2 := hide (K1.out.trans k2)
    clear k2
    go_wp2_with fail
    go_ret
    exact ⟨rfl, K2.out⟩
theorem rroute_neg (c : Cfg) (h : Rtd c) (C T : Option Addr) (n k j B : Nat) (w : World) (zs : List Int) (hz : ∀ z ∈ zs, 0 ≤ z ∧ z < 18446744073709551616) (hr : Rd w B T 1 16 (zs.map (.int .u64))) (s : ByteArray) (hs : s.size ≤ 140737488351232)
    (x : Int) (x0 : x < 0) (x1 : -9223372036854775808 ≤ x) :
    Calls Try.prog 22 #[Value.agg #[.int .i64 c.length, .int .i64 c.lateness, .int .i64 c.windows, .int .i64 c.shards, .int .i64 c.spread, .int .i64 c.queue, .int .i64 c.mode, .int .i64 c.slots, .int .i64 c.exact_, .int .u64 c.promote, .int .i64 c.depth, .int .i64 c.width, .int .i64 c.top, .int .i64 c.key, .slice C n k, .slice T 16 j, .int .u64 c.seed], .string s, .int .i64 x] w fun e w' => e = .returned (.int .i64 (homeOf c zs s)) ∧ Keeps (fun _ => False) w w' := by
  have HH := hide (fun W (hr : Rd W B T 1 16 (zs.map (.int .u64))) => rhome_ok c h C T n k j B W zs hz hr s hs)
  have bX := hide (Blk.new w 28 #[.int .i64 c.length, .int .i64 c.lateness, .int .i64 c.windows, .int .i64 c.shards, .int .i64 c.spread, .int .i64 c.queue, .int .i64 c.mode, .int .i64 c.slots, .int .i64 c.exact_, .int .u64 c.promote, .int .i64 c.depth, .int .i64 c.width, .int .i64 c.top, .int .i64 c.key, .slice C n k, .slice T 16 j, .int .u64 c.seed])
  have kX := hide ((Keeps.refl (fun _ => False) w).alloc (.cells #[.int .i64 c.length, .int .i64 c.lateness, .int .i64 c.windows, .int .i64 c.shards, .int .i64 c.spread, .int .i64 c.queue, .int .i64 c.mode, .int .i64 c.slots, .int .i64 c.exact_, .int .u64 c.promote, .int .i64 c.depth, .int .i64 c.width, .int .i64 c.top, .int .i64 c.key, .slice C n k, .slice T 16 j, .int .u64 c.seed] 28))
  have HR := hide (hr.kept kX.out (fun _ _ h => h))
  clear hr
  go_enter Try.func22, Try.ntmps22
  go_wp2_with (refine cfg_ld _ rfl bX.out rfl (by rfl) ?_; simp only [Act.put, List.setIfInBounds_toArray, List.set_cons_zero, List.set_cons_succ])
  refine (HH.out _ HR.out).mono ?_
  rintro e w1 ⟨rfl, k1⟩
  have K1 := hide (kX.out.trans k1)
  clear k1
  go_wp2_with fail
  go_ret
  exact ⟨rfl, K1.out⟩

set_option maxRecDepth 100000 in
set_option maxHeartbeats 1000000 in
theorem rroute_ok (c : Cfg) (h : Rtd c) (C T : Option Addr) (n k j B : Nat) (w : World) (zs : List Int) (hz : ∀ z ∈ zs, 0 ≤ z ∧ z < 18446744073709551616) (hr : Rd w B T 1 16 (zs.map (.int .u64))) (s : ByteArray) (hs : s.size ≤ 140737488351232)
    (x : Int) (x0 : 0 ≤ x) (x1 : x < 9223372036854775808) :
    Calls Try.prog 22 #[Value.agg #[.int .i64 c.length, .int .i64 c.lateness, .int .i64 c.windows, .int .i64 c.shards, .int .i64 c.spread, .int .i64 c.queue, .int .i64 c.mode, .int .i64 c.slots, .int .i64 c.exact_, .int .u64 c.promote, .int .i64 c.depth, .int .i64 c.width, .int .i64 c.top, .int .i64 c.key, .slice C n k, .slice T 16 j, .int .u64 c.seed], .string s, .int .i64 x] w fun e w' => e = .returned (.int .i64 (routeOf c (homeOf c zs s) x)) ∧ Keeps (fun _ => False) w w' := by
  have h2 := h.spread
  have h1 := h.shards
  have HH := hide (fun W (hr : Rd W B T 1 16 (zs.map (.int .u64))) => rset_ok c h C T n k j B W zs hz hr s hs)
  have CH := hide (fun W => rrtcheck_ok c h C T n k j W)
  obtain ⟨hm, hhm⟩ : ∃ hm, hm = homeOf c zs s := ⟨_, rfl⟩
  rw [← hhm] at HH ⊢
  have HR := hide hr
  obtain ⟨sp, hst⟩ : ∃ sp, sp = c.spread.toNat := ⟨_, rfl⟩
  rw [← hst] at HH
  have hsp : c.spread = (sp : Int) := by omega
  unfold routeOf
  have HS := hide hsp
  rw [hsp] at h2
  have hsl := setOf_len c hm sp
  have hi0 : 0 ≤ x % (sp : Int) := Int.emod_nonneg _ (by omega)
  have hi1 : x % (sp : Int) < (sp : Int) := Int.emod_lt_of_pos _ (by omega)
  have hsg := setOf_get c hm sp (x % (sp : Int)).toNat (by omega)
  rw [Int.toNat_of_nonneg hi0] at hsg
  have HSG := hide hsg
  have HSL := hide hsl
  have HV : Hid ((hm + x % c.spread) % c.shards = (hm + x % (sp : Int)) % c.shards) := by show _ = _; rw [hsp]
  rw [HV.out]
  have bX := hide (Blk.new w 28 #[.int .i64 c.length, .int .i64 c.lateness, .int .i64 c.windows, .int .i64 c.shards, .int .i64 c.spread, .int .i64 c.queue, .int .i64 c.mode, .int .i64 c.slots, .int .i64 c.exact_, .int .u64 c.promote, .int .i64 c.depth, .int .i64 c.width, .int .i64 c.top, .int .i64 c.key, .slice C n k, .slice T 16 j, .int .u64 c.seed])
  have kX := hide ((Keeps.refl (fun _ => False) w).alloc (.cells #[.int .i64 c.length, .int .i64 c.lateness, .int .i64 c.windows, .int .i64 c.shards, .int .i64 c.spread, .int .i64 c.queue, .int .i64 c.mode, .int .i64 c.slots, .int .i64 c.exact_, .int .u64 c.promote, .int .i64 c.depth, .int .i64 c.width, .int .i64 c.top, .int .i64 c.key, .slice C n k, .slice T 16 j, .int .u64 c.seed] 28))
  clear hr hhm hsp hst hsg hsl
  go_enter Try.func22, Try.ntmps22
  go_wp2_with (refine cfg_ld _ rfl bX.out rfl (by rfl) ?_; simp only [Act.put, List.setIfInBounds_toArray, List.set_cons_zero, List.set_cons_succ])
  refine (CH.out _).mono ?_
  rintro e w1 ⟨rfl, hw1⟩
  have k1 : Keeps (fun _ => False) (w.alloc (.cells #[.int .i64 c.length, .int .i64 c.lateness, .int .i64 c.windows, .int .i64 c.shards, .int .i64 c.spread, .int .i64 c.queue, .int .i64 c.mode, .int .i64 c.slots, .int .i64 c.exact_, .int .u64 c.promote, .int .i64 c.depth, .int .i64 c.width, .int .i64 c.top, .int .i64 c.key, .slice C n k, .slice T 16 j, .int .u64 c.seed] 28)) w1 := by rw [hw1]; exact (Keeps.refl _ _).alloc _
  have K1 := hide (kX.out.trans k1)
  have HR1 := hide (HR.out.kept K1.out (fun _ _ h => h))
  have BX1 := hide (bX.out.kept k1 (fun h => h))
  have HFC : Hid (∀ W, Keeps (fun _ => False) w1 W → Blk W w.heap.size 28 #[.int .i64 c.length, .int .i64 c.lateness, .int .i64 c.windows, .int .i64 c.shards, .int .i64 c.spread, .int .i64 c.queue, .int .i64 c.mode, .int .i64 c.slots, .int .i64 c.exact_, .int .u64 c.promote, .int .i64 c.depth, .int .i64 c.width, .int .i64 c.top, .int .i64 c.key, .slice C n k, .slice T 16 j, .int .u64 c.seed] ∧ W.cell? ⟨w.heap.size, 4, none⟩ = some (.int .i64 (sp : Int))) := fun W k =>
    have hb9 := BX1.out.kept k (fun h => h)
    ⟨hb9, by rw [← HS.out]; exact hb9.cell 4⟩
  have k0 : Keeps (fun _ => False) w1 w1 := Keeps.refl _ _
  have e0 : ((sp : Int) == 0) = false := by simp; omega
  have e1 : ¬ sp = 0 := by omega
  obtain ⟨y, hy⟩ : ∃ y : Nat, x % (sp : Int) = (y : Int) := ⟨(x % (sp : Int)).toNat, by omega⟩
  have hrm : x.tmod (sp : Int) = (y : Int) := by rw [Int.tmod_eq_emod_of_nonneg x0, hy]
  have hw : IntKind.i64.wrap (y : Int) = (y : Int) := IntWalk.i64_in _ (by omega)
  have hy1 : (y : Int) < (sp : Int) := by omega
  have hy0 : (0 : Int) ≤ (y : Int) := by omega
  have HY := hide hy
  clear k1 hw1 HR bX hy hi0 hi1
  go_upto_region 3 with fail
  trace "R3"
  refine wp_region_held_drew (S := fun w' => Blk w' w.heap.size 28 #[.int .i64 c.length, .int .i64 c.lateness, .int .i64 c.windows, .int .i64 c.shards, .int .i64 c.spread, .int .i64 c.queue, .int .i64 c.mode, .int .i64 c.slots, .int .i64 c.exact_, .int .u64 c.promote, .int .i64 c.depth, .int .i64 c.width, .int .i64 c.top, .int .i64 c.key, .slice C n k, .slice T 16 j, .int .u64 c.seed] ∧ w'.cell? ⟨w.heap.size, 4, none⟩ = some (.int .i64 (sp : Int))) (by kernel_rfl) (HFC.out _ k0.drew) (fun hHeld => ?_)
  refine wpAnyH_take (i := 0) (v := _) rfl (by kernel_rfl) (by kernel_rfl) (by kernel_rfl) (fun _ _ _ h => h) (cfg_yields (c := c) (C := C) (T := T) (n := n) (k := k) (q := 16) (j := j) (g := w.heap.size) (.tmp 3) rfl (fun _ h => h.1) (by simp [Act.eval, Act.put]) (by kernel_rfl)) (by assumption) ?_
  simp only [Act.put, List.setIfInBounds_toArray, List.set_cons_zero, List.set_cons_succ]
  refine wpAnyH_take (i := 1) (v := ?_) rfl (by kernel_rfl) (by kernel_rfl) (by kernel_rfl) (fun _ _ _ h => h) (Or.inl ⟨by kernel_rfl, ?_⟩) (by assumption) ?_; rotate_left; focus (intro w hSw; (try dsimp only at hSw); go_simp; try (with_reducible rfl)); (try simp only [Act.put, List.setIfInBounds_toArray, List.set_cons_zero, List.set_cons_succ])
  refine wpAnyH_take (i := 3) (v := ?_) rfl (by kernel_rfl) (by kernel_rfl) (by kernel_rfl) (fun _ _ _ h => h) (Or.inl ⟨by kernel_rfl, ?_⟩) (by assumption) ?_; rotate_left; focus (intro w hSw; (try dsimp only at hSw); go_simp; try (with_reducible rfl)); (try simp only [Act.put, List.setIfInBounds_toArray, List.set_cons_zero, List.set_cons_succ])
  refine wpAnyH_take (i := 4) (v := ?_) rfl (by kernel_rfl) (by kernel_rfl) (by kernel_rfl) (fun _ _ _ h => h) (Or.inl ⟨by kernel_rfl, ?_⟩) (by assumption) ?_; rotate_left; focus (intro w hSw; (try dsimp only at hSw); go_simp; try (with_reducible rfl)); (try simp only [Act.put, List.setIfInBounds_toArray, List.set_cons_zero, List.set_cons_succ])
  refine wpAnyH_take (i := 5) (v := ?_) rfl (by kernel_rfl) (by kernel_rfl) (by kernel_rfl) (fun _ _ _ h => h) (Or.inl ⟨by kernel_rfl, ?_⟩) (by assumption) ?_; rotate_left; focus (intro w hSw; (try dsimp only at hSw); obtain ⟨_, hSb⟩ := hSw; go_simp; try (with_reducible rfl)); (try simp only [Act.put, List.setIfInBounds_toArray, List.set_cons_zero, List.set_cons_succ])
  refine wpAnyH_take (i := 6) (v := ?_) rfl (by kernel_rfl) (by kernel_rfl) (by kernel_rfl) (fun _ _ _ h => h) (Or.inl ⟨by kernel_rfl, ?_⟩) (by assumption) ?_; rotate_left; focus (intro w hSw; (try dsimp only at hSw); go_simp; try (with_reducible rfl)); (try simp only [Act.put, List.setIfInBounds_toArray, List.set_cons_zero, List.set_cons_succ])
  refine wpAnyH_ready (rs := [2]) (by kernel_rfl) (by simp) ?_
  refine AllReadyH.cons rfl (fun K hK => ?_) AllReadyH.nil
  go_simp
  go_at_call 20
  refine (HH.out _ HR1.out.drew).mono ?_
  rintro e w3 ⟨A, cc, rfl, lc, cm, rl, k3⟩
  have k3' : Keeps (fun _ => False) w1 w3 := k0.drew.trans k3
  have K3 := hide (K1.out.trans k3')
  obtain ⟨ln, hln⟩ : ∃ ln, ln = (setOf c hm sp).length := ⟨_, rfl⟩
  rw [← hln] at lc rl ⊢
  obtain rfl : ln = sp := by rw [hln, HSL.out]
  obtain ⟨b, off, rfl, hb, hc⟩ := rl.2 (by omega)
  have hcell := hc y (.int .i64 ((hm + x % (ln : Int)) % c.shards)) (by
    have h3 := HSG.out
    rw [HY.out, Int.toNat_natCast] at h3
    have hyl : y < (setOf c hm ln).length := by rw [HSL.out]; omega
    rw [HY.out, ← h3]
    simp [List.getD, hyl])
  obtain ⟨v, hv⟩ : ∃ v, v = (hm + x % (ln : Int)) % c.shards := ⟨_, rfl⟩
  rw [← hv] at hcell
  have HVV := hide hv
  clear hln rl hc hv
  try go_wp2_with fail
  refine hK.out _ _ (HFC.out _ k3') (fun hHeld2 => ?_)
  clear hK K k3 hHeld
  try simp only [Act.put, List.setIfInBounds_toArray, List.set_cons_zero, List.set_cons_succ]
  refine wpAnyH_take (i := 7) (v := ?_) rfl (by kernel_rfl) (by kernel_rfl) (by kernel_rfl) (fun _ _ _ h => h) (Or.inl ⟨by kernel_rfl, ?_⟩) (by assumption) ?_; rotate_left; focus (intro w hSw; (try dsimp only at hSw); go_simp; try (with_reducible rfl)); (try simp only [Act.put, List.setIfInBounds_toArray, List.set_cons_zero, List.set_cons_succ])
  refine wpAnyH_ready (rs := [8]) (by kernel_rfl) (by simp) ?_
  refine AllReadyH.cons rfl (fun K hK => ?_) AllReadyH.nil
  go_simp
  refine hK.out _ _ (HFC.out _ k3') (fun hHeld3 => ?_)
  clear hK K hHeld2
  try simp only [Act.put, List.setIfInBounds_toArray, List.set_cons_zero, List.set_cons_succ]
  refine wpAnyH_take (i := 9) (v := ?_) rfl (by kernel_rfl) (by kernel_rfl) (by kernel_rfl) (fun _ _ _ h => h) (Or.inl ⟨by kernel_rfl, ?_⟩) (by assumption) ?_; rotate_left; focus (intro w hSw; (try dsimp only at hSw); go_simp; try (with_reducible rfl)); (try simp only [Act.put, List.setIfInBounds_toArray, List.set_cons_zero, List.set_cons_succ])
  refine wpAnyH_done (by kernel_rfl) ?_ _
  clear hHeld3 k3' k0
  trace "DONE"
  go_wp2_with fail
  go_ret
  exact ⟨ret_int HVV.out, K3.out⟩
end Go.Proofs.Ytgjlibecgkhocaa
