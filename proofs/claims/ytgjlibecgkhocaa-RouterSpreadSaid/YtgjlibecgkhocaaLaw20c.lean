/-
  RouterSpread: the shards of a set differ and begin with the home, and consecutive numbers lead to all of them; the walk. No conditions beyond those of the statement.
-/
import Derived.Test.YtgjlibecgkhocaaLaw20b
import Derived.Test.YtgjlibecgkhocaaMem2
set_option linter.unusedVariables false
set_option linter.unusedSimpArgs false
namespace Go.Proofs.Ytgjlibecgkhocaa
open Go.RowKit Cfp

namespace routerSpread
theorem elemI : ElemOf Try.prog 22 3 1 8 := ElemOf.mk' (z := .int .i64 0) Try.underlying22 (by kernel_rfl) rfl (by omega)

/-- two shards of a set differ -/
theorem apart (hv sh a b : Int) (ha : 0 ≤ a) (hb : 0 ≤ b) (ha1 : a < sh) (hb1 : b < sh) (h : (hv + a) % sh = (hv + b) % sh) : a = b := by
  have h1 : (hv + a - (hv + b)) % sh = 0 := by rw [Int.sub_emod, h]; simp
  rw [show hv + a - (hv + b) = a - b from by omega] at h1
  have h2 := Int.dvd_of_emod_eq_zero h1
  obtain ⟨k, hk⟩ := h2
  rcases Int.lt_trichotomy k 0 with h3 | h3 | h3
  · have : sh * k ≤ sh * (-1) := Int.mul_le_mul_of_nonneg_left (by omega) (by omega)
    omega
  · subst h3; omega
  · have : sh * 1 ≤ sh * k := Int.mul_le_mul_of_nonneg_left (by omega) (by omega)
    omega
/-- the number whose turn it is -/
def turn (sp : Nat) (x : Int) (i : Nat) : Nat := (((i : Int) - x) % (sp : Int)).toNat
theorem turn_lt (sp : Nat) (x : Int) (i : Nat) (h : 0 < sp) : turn sp x i < sp := by
  have e1 : 0 ≤ ((i : Int) - x) % (sp : Int) := Int.emod_nonneg _ (by omega)
  have e2 : ((i : Int) - x) % (sp : Int) < (sp : Int) := Int.emod_lt_of_pos _ (by omega)
  unfold turn; omega
theorem turn_iff (sp : Nat) (x : Int) (i j : Nat) (hi : i < sp) (hj : j < sp) : (x + (j : Int)) % (sp : Int) = (i : Int) ↔ j = turn sp x i := by
  have e1 : 0 ≤ ((i : Int) - x) % (sp : Int) := Int.emod_nonneg _ (by omega)
  have e2 : ((i : Int) - x) % (sp : Int) < (sp : Int) := Int.emod_lt_of_pos _ (by omega)
  have key : (x + ((turn sp x i : Nat) : Int)) % (sp : Int) = (i : Int) := by
    unfold turn
    rw [Int.toNat_of_nonneg e1, Int.add_emod_emod, show x + ((i : Int) - x) = (i : Int) from by omega]
    exact Int.emod_eq_of_lt (by omega) (by omega)
  constructor
  · intro h
    have := apart x (sp : Int) (j : Int) ((turn sp x i : Nat) : Int) (by omega) (by omega) (by omega) (by have := turn_lt sp x i (by omega); omega) (by rw [h, key])
    omega
  · rintro rfl; exact key
theorem route_iff (c : Cfg) (sp : Nat) (hsp : c.spread = (sp : Int)) (hs : (sp : Int) ≤ c.shards) (hv x : Int) (i j : Nat) (hi : i < sp) (hj : j < sp) :
    routeOf c hv (x + (j : Int)) = (hv + (i : Int)) % c.shards ↔ j = turn sp x i := by
  rw [← turn_iff sp x i j hi hj]
  unfold routeOf
  rw [hsp]
  have e1 : 0 ≤ (x + (j : Int)) % (sp : Int) := Int.emod_nonneg _ (by omega)
  have e2 : (x + (j : Int)) % (sp : Int) < (sp : Int) := Int.emod_lt_of_pos _ (by omega)
  constructor
  · intro h
    exact apart hv c.shards _ _ e1 (by omega) (by omega) (by omega) h
  · intro h; rw [h]
def met (sp : Nat) (x : Int) (i j : Nat) : Int := if turn sp x i < j then 1 else 0

set_option maxRecDepth 100000 in
set_option maxHeartbeats 1500000 in
theorem main (w : World) (A1 : Option Addr) (n1 c1 : Nat) (zs : List Int) (hd : Rd w w.heap.size A1 1 n1 (zs.map (.int .i64))) (hz : ∀ z ∈ zs, -9223372036854775808 ≤ z ∧ z < 9223372036854775808) (hn1 : n1 ≤ 17592186043904)
    (s : ByteArray) (hs : s.size ≤ 140737488351232) (x : Int) (x0 : 0 ≤ x) (x1 : x < 65536) :
    Calls Try.prog 4 #[.slice A1 n1 c1, .string s, .int .u16 x] w fun e w' => e = .returned (.bool true) ∧ Keeps (fun _ => False) w w' := by
  have HD := hide hd
  clear hd
  by_cases h3 : (300 : Int) < (s.size : Int)
  · go_enter Try.func4, Try.ntmps4
    go_wp2_with fail
    refine (awake20 _).mono ?_
    rintro e w1 ⟨rfl, k1⟩
    have K1 := hide k1
    clear k1
    go_wp2_with fail
    go_ret
    exact ⟨rfl, K1.out⟩
  · go_enter Try.func4, Try.ntmps4
    go_wp2_with fail
    refine (new_deck A1 n1 c1 zs _ w (Nat.le_refl _) HD.out hz (by omega)).mono ?_
    rintro e w1 ⟨rfl, d1, k1⟩
    have K1 := hide k1
    clear k1
    go_wp2_with fail
    refine (config_any _ w.heap.size w1 d1).mono ?_
    rintro e w2 ⟨c, l, G, b, ts, rfl, hm, hl, hsn, hG, bG, tl, tb, bt, hb, d2, k2⟩
    have K2 := hide (K1.out.step k2 (fun b hb e => by omega))
    have HM := hide hm
    obtain ⟨nl, hnl⟩ : ∃ nl, nl = l.length := ⟨_, rfl⟩
    rw [← hnl]
    have h1 := hm.fine.shards
    have BX := hide (Blk.new w2 28 #[.int .i64 c.length, .int .i64 c.lateness, .int .i64 c.windows, .int .i64 c.shards, .int .i64 c.spread, .int .i64 c.queue, .int .i64 c.mode, .int .i64 c.slots, .int .i64 c.exact_, .int .u64 c.promote, .int .i64 c.depth, .int .i64 c.width, .int .i64 c.top, .int .i64 c.key, .slice (some ⟨G, 0, none⟩) nl nl, .slice (some ⟨b, 0, none⟩) 16 16, .int .u64 c.seed])
    have kX := (Keeps.refl (fun _ => False) w2).alloc (.cells #[.int .i64 c.length, .int .i64 c.lateness, .int .i64 c.windows, .int .i64 c.shards, .int .i64 c.spread, .int .i64 c.queue, .int .i64 c.mode, .int .i64 c.slots, .int .i64 c.exact_, .int .u64 c.promote, .int .i64 c.depth, .int .i64 c.width, .int .i64 c.top, .int .i64 c.key, .slice (some ⟨G, 0, none⟩) nl nl, .slice (some ⟨b, 0, none⟩) 16 16, .int .u64 c.seed] 28)
    have RT := hide (show Rd (w2.alloc (.cells #[.int .i64 c.length, .int .i64 c.lateness, .int .i64 c.windows, .int .i64 c.shards, .int .i64 c.spread, .int .i64 c.queue, .int .i64 c.mode, .int .i64 c.slots, .int .i64 c.exact_, .int .u64 c.promote, .int .i64 c.depth, .int .i64 c.width, .int .i64 c.top, .int .i64 c.key, .slice (some ⟨G, 0, none⟩) nl nl, .slice (some ⟨b, 0, none⟩) 16 16, .int .u64 c.seed] 28)) w2.heap.size (some ⟨b, 0, none⟩) 1 16 (ts.map (.int .u64)) from (bt.rd (n := 16) (sz := 1) (by simp [tl])).kept kX (fun _ _ h => h))
    have K3 := hide (K2.out.trans kX)
    have hbX : b < w2.heap.size := bt.lt
    have hwX : w.heap.size < w2.heap.size := by have := d2.lt; omega
    clear hl hsn hG bG bt hb d2 k2 hm hnl K2 K1 d1 kX tl
    go_upto_region 4 with fail
    generalize w2.alloc _ = w3 at *
    generalize w2.heap.size = X at *
    trace "SET"
    obtain ⟨hv, hhv⟩ : ∃ hv, hv = homeOf c ts s := ⟨_, rfl⟩
    have R1 : Rtd c := ⟨HM.out.fine.shards, HM.out.fine.spread, HM.out.fine.seed⟩
    have hvb := home_bd _ R1 ts s
    have h2 := HM.out.fine.spread
    obtain ⟨sp, hsp⟩ : ∃ sp : Nat, c.spread = (sp : Int) := ⟨c.spread.toNat, by omega⟩
    have hst : c.spread.toNat = sp := by omega
    have HSET := hide (fun W (hr : Rd W X (some ⟨b, 0, none⟩) 1 16 (ts.map (.int .u64))) => set_ok _ R1 (some ⟨G, 0, none⟩) (some ⟨b, 0, none⟩) nl nl 16 X W ts tb hr s hs)
    have HRO := hide (fun W (hr : Rd W X (some ⟨b, 0, none⟩) 1 16 (ts.map (.int .u64))) y y0 y1 => route_ok _ R1 (some ⟨G, 0, none⟩) (some ⟨b, 0, none⟩) nl nl 16 X W ts tb hr s hs y y0 y1)
    have HHO := hide (fun W (hr : Rd W X (some ⟨b, 0, none⟩) 1 16 (ts.map (.int .u64))) => home_ok _ R1 (some ⟨G, 0, none⟩) (some ⟨b, 0, none⟩) nl nl 16 X W ts tb hr s hs)
    rw [← hhv] at HRO HHO HSET hvb
    rw [hst] at HSET
    have h2s : 1 ≤ sp ∧ (sp : Int) ≤ c.shards := by omega
    have LL := hide (setOf_len c hv sp)
    have LG := hide (fun i (hi : i < sp) => setOf_get c hv sp i hi)
    have LB := hide (fun i => setOf_bd c R1 hv i)
    have hL0 : (setOf c hv sp).getD 0 0 = hv := by
      rw [LG.out 0 (by omega)]
      rw [show hv + ((0 : Nat) : Int) = hv from by omega]
      exact Int.emod_eq_of_lt hvb.1 hvb.2
    have HL0 := hide hL0
    have HSP := hide hsp
    have h0s : (0 : Int) < (sp : Int) := by omega
    have h0n : 0 < sp := by omega
    have hne0 : ((sp : Int) != (sp : Int)) = false := by simp
    have hwx : IntKind.i64.wrap x = x := IntWalk.i64_in _ (by omega)
    obtain ⟨L, hL⟩ : ∃ L, L = setOf c hv sp := ⟨_, rfl⟩
    rw [← hL] at HSET LL LG HL0
    clear hhv hst hL hL0 R1 h2 hsp
    go_wp2_with (refine cfg_ld _ rfl BX.out rfl (by rfl) ?_; simp only [Act.put, List.setIfInBounds_toArray, List.set_cons_zero, List.set_cons_succ])
    refine (HSET.out _ RT.out).mono ?_
    rintro e w9 ⟨A, cc, rfl, lc, cm, rl, k9⟩
    have K9 := hide (K3.out.trans k9)
    have BX9 := hide (BX.out.kept k9 (fun h => h))
    have RT9 := hide (RT.out.kept k9 (fun _ _ h => h))
    rw [LL.out] at lc rl ⊢
    obtain ⟨bb, off, rfl, hbb, hcc⟩ := rl.2 (by omega)
    have HCC : Hid (∀ q, q < sp → w9.cell? ⟨bb, off + q, none⟩ = some (.int .i64 (L.getD q 0))) := fun q hq => hcc q _ (by have := LL.out; simp [List.getD, show q < L.length by omega])
    have HFC : Hid (∀ W, Keeps (fun _ => False) w9 W → Blk W X 28 #[.int .i64 c.length, .int .i64 c.lateness, .int .i64 c.windows, .int .i64 c.shards, .int .i64 c.spread, .int .i64 c.queue, .int .i64 c.mode, .int .i64 c.slots, .int .i64 c.exact_, .int .u64 c.promote, .int .i64 c.depth, .int .i64 c.width, .int .i64 c.top, .int .i64 c.key, .slice (some ⟨G, 0, none⟩) nl nl, .slice (some ⟨b, 0, none⟩) 16 16, .int .u64 c.seed] ∧ W.cell? ⟨X, 4, none⟩ = some (.int .i64 (sp : Int)) ∧ W.cell? ⟨bb, off, none⟩ = some (.int .i64 hv)) := fun W k =>
      have hb9 := BX9.out.kept k (fun h => h)
      ⟨hb9, by rw [← HSP.out]; exact hb9.cell 4, by have := k.cell_some (HCC.out 0 (by omega)) (fun h => h); rw [HL0.out] at this; exact this⟩
    have k0 : Keeps (fun _ => False) w9 w9 := Keeps.refl _ _
    clear k9 BX HSET RT K3 rl hcc
    go_upto_region 5 with fail
    trace "R5"
    refine wp_region_held_drew (S := fun w' => Blk w' X 28 #[.int .i64 c.length, .int .i64 c.lateness, .int .i64 c.windows, .int .i64 c.shards, .int .i64 c.spread, .int .i64 c.queue, .int .i64 c.mode, .int .i64 c.slots, .int .i64 c.exact_, .int .u64 c.promote, .int .i64 c.depth, .int .i64 c.width, .int .i64 c.top, .int .i64 c.key, .slice (some ⟨G, 0, none⟩) nl nl, .slice (some ⟨b, 0, none⟩) 16 16, .int .u64 c.seed] ∧ w'.cell? ⟨X, 4, none⟩ = some (.int .i64 (sp : Int)) ∧ w'.cell? ⟨bb, off, none⟩ = some (.int .i64 hv)) (by kernel_rfl) (HFC.out _ k0.drew) (fun hHeld => ?_)
    refine wpAnyH_take (i := 0) (v := ?_) rfl (by kernel_rfl) (by kernel_rfl) (by kernel_rfl) (fun _ _ _ h => h) (Or.inl ⟨by first | kernel_rfl | rfl, ?_⟩) (by assumption) ?_; rotate_left; focus (intro w hSw; (try dsimp only at hSw); obtain ⟨_, hSb, hSc⟩ := hSw; go_simp; try (with_reducible rfl)); (try simp only [Act.put, List.setIfInBounds_toArray, List.set_cons_zero, List.set_cons_succ])
    refine wpAnyH_take (i := 1) (v := ?_) rfl (by kernel_rfl) (by kernel_rfl) (by kernel_rfl) (fun _ _ _ h => h) (Or.inl ⟨by first | kernel_rfl | rfl, ?_⟩) (by assumption) ?_; rotate_left; focus (intro w hSw; (try dsimp only at hSw); obtain ⟨_, hSb, hSc⟩ := hSw; go_simp; try (with_reducible rfl)); (try simp only [Act.put, List.setIfInBounds_toArray, List.set_cons_zero, List.set_cons_succ])
    refine wpAnyH_take (i := 2) (v := ?_) rfl (by kernel_rfl) (by kernel_rfl) (by kernel_rfl) (fun _ _ _ h => h) (Or.inl ⟨by first | kernel_rfl | rfl, ?_⟩) (by assumption) ?_; rotate_left; focus (intro w hSw; (try dsimp only at hSw); obtain ⟨_, hSb, hSc⟩ := hSw; go_simp; try (with_reducible rfl)); (try simp only [Act.put, List.setIfInBounds_toArray, List.set_cons_zero, List.set_cons_succ])
    refine wpAnyH_take (i := 3) (v := ?_) rfl (by kernel_rfl) (by kernel_rfl) (by kernel_rfl) (fun _ _ _ h => h) (Or.inl ⟨by first | kernel_rfl | rfl, ?_⟩) (by assumption) ?_; rotate_left; focus (intro w hSw; (try dsimp only at hSw); obtain ⟨_, hSb, hSc⟩ := hSw; go_simp; try (with_reducible rfl)); (try simp only [Act.put, List.setIfInBounds_toArray, List.set_cons_zero, List.set_cons_succ])
    refine wpAnyH_take (i := 4) (v := ?_) rfl (by kernel_rfl) (by kernel_rfl) (by kernel_rfl) (fun _ _ _ h => h) (Or.inl ⟨by first | kernel_rfl | rfl, ?_⟩) (by assumption) ?_; rotate_left; focus (intro w hSw; (try dsimp only at hSw); obtain ⟨_, hSb, hSc⟩ := hSw; go_simp; try (with_reducible rfl)); (try simp only [Act.put, List.setIfInBounds_toArray, List.set_cons_zero, List.set_cons_succ])
    refine wpAnyH_take (i := 5) (v := ?_) rfl (by kernel_rfl) (by kernel_rfl) (by kernel_rfl) (fun _ _ _ h => h) (Or.inl ⟨by first | kernel_rfl | rfl, ?_⟩) (by assumption) ?_; rotate_left; focus (intro w hSw; (try dsimp only at hSw); obtain ⟨_, hSb, hSc⟩ := hSw; go_simp; try (with_reducible rfl)); (try simp only [Act.put, List.setIfInBounds_toArray, List.set_cons_zero, List.set_cons_succ])
    refine wpAnyH_take (i := 9) (v := _) rfl (by kernel_rfl) (by kernel_rfl) (by kernel_rfl) (fun _ _ _ h => h) (cfg_yields (c := c) (C := some ⟨G, 0, none⟩) (T := some ⟨b, 0, none⟩) (n := nl) (k := nl) (q := 16) (j := 16) (g := X) (.tmp 7) rfl (fun _ h => h.1) (by simp [Act.eval, Act.put]) ?_) (by assumption) ?_
    focus kernel_rfl
    simp only [Act.put, List.setIfInBounds_toArray, List.set_cons_zero, List.set_cons_succ]
    refine wpAnyH_take (i := 10) (v := ?_) rfl (by kernel_rfl) (by kernel_rfl) (by kernel_rfl) (fun _ _ _ h => h) (Or.inl ⟨by first | kernel_rfl | rfl, ?_⟩) (by assumption) ?_; rotate_left; focus (intro w hSw; (try dsimp only at hSw); obtain ⟨_, hSb, hSc⟩ := hSw; go_simp; try (with_reducible rfl)); (try simp only [Act.put, List.setIfInBounds_toArray, List.set_cons_zero, List.set_cons_succ])
    refine wpAnyH_take (i := 6) (v := ?_) rfl (by kernel_rfl) (by kernel_rfl) (by kernel_rfl) (fun _ _ _ h => h) (Or.inl ⟨by first | kernel_rfl | rfl, ?_⟩) (by assumption) ?_; rotate_left; focus (intro w hSw; (try dsimp only at hSw); obtain ⟨_, hSb, hSc⟩ := hSw; go_simp; try (with_reducible rfl)); (try simp only [Act.put, List.setIfInBounds_toArray, List.set_cons_zero, List.set_cons_succ])
    refine wpAnyH_take (i := 7) (v := ?_) rfl (by kernel_rfl) (by kernel_rfl) (by kernel_rfl) (fun _ _ _ h => h) (Or.inl ⟨by first | kernel_rfl | rfl, ?_⟩) (by assumption) ?_; rotate_left; focus (intro w hSw; (try dsimp only at hSw); obtain ⟨_, hSb, hSc⟩ := hSw; go_simp; try (with_reducible rfl)); (try simp only [Act.put, List.setIfInBounds_toArray, List.set_cons_zero, List.set_cons_succ])
    refine wpAnyH_take (i := 8) (v := ?_) rfl (by kernel_rfl) (by kernel_rfl) (by kernel_rfl) (fun _ _ _ h => h) (Or.inl ⟨by first | kernel_rfl | rfl, ?_⟩) (by assumption) ?_; rotate_left; focus (intro w hSw; (try dsimp only at hSw); obtain ⟨_, hSb, hSc⟩ := hSw; go_simp; try (with_reducible rfl)); (try simp only [Act.put, List.setIfInBounds_toArray, List.set_cons_zero, List.set_cons_succ])
    trace "TAKEN"
    refine wpAnyH_ready (rs := [11]) (by kernel_rfl) (by simp) ?_
    refine AllReadyH.cons rfl (fun K hK => ?_) AllReadyH.nil
    go_simp
    go_at_call 16
    refine (HHO.out _ RT9.out.drew).mono ?_
    rintro e w6 ⟨rfl, k6⟩
    have k6' : Keeps (fun _ => False) w9 w6 := k0.drew.trans k6
    try go_wp2_with fail
    refine hK.out _ _ (HFC.out _ k6') (fun hHeld2 => ?_)
    clear hK K k6 hHeld
    try simp only [Act.put, List.setIfInBounds_toArray, List.set_cons_zero, List.set_cons_succ]
    refine wpAnyH_take (i := 12) (v := ?_) rfl (by kernel_rfl) (by kernel_rfl) (by kernel_rfl) (fun _ _ _ h => h) (Or.inl ⟨by first | kernel_rfl | rfl, ?_⟩) (by assumption) ?_; rotate_left; focus (intro w hSw; (try dsimp only at hSw); obtain ⟨_, hSb, hSc⟩ := hSw; go_simp; try (with_reducible rfl)); (try simp only [Act.put, List.setIfInBounds_toArray, List.set_cons_zero, List.set_cons_succ])
    refine wpAnyH_take (i := 13) (v := ?_) rfl (by kernel_rfl) (by kernel_rfl) (by kernel_rfl) (fun _ _ _ h => h) (Or.inl ⟨by first | kernel_rfl | rfl, ?_⟩) (by assumption) ?_; rotate_left; focus (intro w hSw; (try dsimp only at hSw); obtain ⟨_, hSb, hSc⟩ := hSw; go_simp; try (with_reducible rfl)); (try simp only [Act.put, List.setIfInBounds_toArray, List.set_cons_zero, List.set_cons_succ])
    refine wpAnyH_done (by kernel_rfl) ?_ _
    have K6 := hide k6'
    clear hHeld2 k6' k0 HHO
    trace "R5 DONE"
    go_wp2_with fail
    trace "LOOP"
    go_loopw [9, 10, 11, 12, 14, 41] (fun _ _ _ _ _ iv wr => ∃ i : Nat, i ≤ sp ∧ iv = .int .i64 i ∧ Keeps (fun _ => False) w9 wr) (fun _ _ _ _ _ iv _ => sp - (intOf iv).toNat)
    case atStart => exact ⟨0, by omega, rfl, K6.out⟩
    case round =>
      obtain ⟨i, hi, rfl, kr⟩ := hrel
      have KR := hide kr
      clear kr K6
      by_cases hlt : i < sp
      · have hltI : (i : Int) < (sp : Int) := by omega
        have hc := KR.out.cell_some (HCC.out i hlt) (fun h => h)
        obtain ⟨v, hv'⟩ : ∃ v, v = L.getD i 0 := ⟨_, rfl⟩
        rw [← hv'] at hc
        have hve : v = (hv + (i : Int)) % c.shards := by rw [hv', LG.out i hlt]
        have hvb' := LB.out i
        rw [← hve] at hvb'
        have HVE := hide hve
        clear hv' hve
        go_wp2_with fail
        trace "INNER"
        go_loopw [11, 12] (fun mv jv wr' => ∃ j : Nat, j ≤ sp ∧ jv = .int .i64 j ∧ mv = .int .i64 (met sp x i j) ∧ Keeps (fun _ => False) w9 wr') (fun _ jv _ => sp - (intOf jv).toNat)
        case atStart => exact ⟨0, by omega, rfl, by simp [met], KR.out⟩
        case round =>
          obtain ⟨j, hj, rfl, rfl, kj⟩ := hrel
          have q4 : wr.cell? ⟨X, 4, none⟩ = some (.int .i64 (sp : Int)) := (HFC.out _ kj).2.1
          have BXj := hide (HFC.out _ kj).1
          have RTj := hide (RT9.out.kept kj (fun _ _ h => h))
          have KJ := hide kj
          clear kj hc
          by_cases hjl : j < sp
          · have hjI : (j : Int) < (sp : Int) := by omega
            have hw1 : IntKind.i64.wrap (x + (j : Int)) = x + (j : Int) := IntWalk.i64_in _ (by omega)
            have HIF := hide (route_iff c sp HSP.out h2s.2 hv x i j hlt hjl)
            have HMS : Hid (met sp x i (j + 1) = met sp x i j + if j = turn sp x i then 1 else 0) := by
              show _ = _
              unfold met
              by_cases h1 : turn sp x i < j
              · rw [if_pos (by omega), if_pos h1, if_neg (by omega)]; rfl
              · by_cases h2 : j = turn sp x i
                · rw [if_pos (by omega), if_neg h1, if_pos h2]; rfl
                · rw [if_neg (by omega), if_neg h1, if_neg h2]; rfl
            have hmb : 0 ≤ met sp x i j ∧ met sp x i j ≤ 1 := by unfold met; split <;> omega
            have hwm : IntKind.i64.wrap (met sp x i j + 1) = met sp x i j + 1 := IntWalk.i64_in _ (by omega)
            have HRJ := hide (HRO.out _ RTj.out (x + (j : Int)) (by omega) (by omega))
            obtain ⟨rv, hrv⟩ : ∃ rv, rv = routeOf c hv (x + (j : Int)) := ⟨_, rfl⟩
            rw [← hrv] at HIF HRJ
            rw [← HVE.out] at HIF
            generalize met sp x i j = m at *
            clear hrv
            go_wp2_with (refine cfg_ld _ rfl BXj.out rfl (by rfl) ?_; simp only [Act.put, List.setIfInBounds_toArray, List.set_cons_zero, List.set_cons_succ])
            refine HRJ.out.mono ?_
            rintro e w12 ⟨rfl, k12⟩
            have K12 := hide (KJ.out.trans k12)
            clear k12 HRJ BXj RTj KJ q4
            by_cases hjt : j = turn sp x i
            · have e1 : (rv == v) = true := by simp; exact HIF.out.2 hjt
              have HJT := hide hjt
              clear hjt
              go_wp2_with fail
              trace "TRUE"
              go_roundw
              case rel => exact ⟨j + 1, by omega, by go_num, by rw [HMS.out, if_pos HJT.out], K12.out⟩
              case measure => simp [intOf]; omega
            · have e1 : (rv == v) = false := by simp; exact fun h => hjt (HIF.out.1 h)
              have HJT : Hid (¬ j = turn sp x i) := hjt
              clear hjt
              go_wp2_with fail
              trace "FALSE"
              go_roundw
              case rel => exact ⟨j + 1, by omega, by go_num, by rw [HMS.out, if_neg HJT.out, Int.add_zero], K12.out⟩
              case measure => simp [intOf]; omega
          · obtain rfl : j = sp := by omega
            rw [show met j x i j = 1 from if_pos (turn_lt j x i (by omega))]
            have q3 : wr.cell? ⟨X, 3, none⟩ = some (.int .i64 c.shards) := BXj.out.cell 3
            obtain ⟨P1, s1, r1, _⟩ := sub_hi elemI (some ⟨bb, off, none⟩) j cc .i64 (i : Int) (by omega) (by omega) lc
            rw [Int.toNat_natCast] at s1 r1
            have hLn := LL.out
            have hrd : Rd wr wr.heap.size (some ⟨bb, off, none⟩) 1 j (L.map (.int .i64)) := ⟨by simp [hLn], fun _ => ⟨bb, off, rfl, by have := KJ.out.size; omega, fun q u hq => by
              have hql : q < j := by have := (List.getElem?_eq_some_iff.1 hq).1; simpa [hLn] using this
              rw [KJ.out.cell_some (HCC.out q hql) (fun h => h), ← hq]
              simp [List.getD, show q < L.length by omega]⟩⟩
            have HR1 := hide (r1 _ _ _ hrd)
            clear r1 hrd hLn BXj RTj
            go_wp2_with fail
            trace "LOOP3"
            go_loopw [14, 79] (fun _ qv wq => ∃ q : Nat, q ≤ i ∧ qv = .int .i64 q ∧ wq = wr) (fun _ qv _ => i - (intOf qv).toNat)
            case atStart => exact ⟨0, by omega, rfl, rfl⟩
            case round =>
              obtain ⟨q, hq, rfl, rfl⟩ := hrel
              by_cases hqi : q < i
              · obtain ⟨b1, o1, rfl, _, hc1⟩ := HR1.out.2 (by omega)
                have hLn := LL.out
                have hcq := hc1 q (.int .i64 (L.getD q 0)) (by simp [List.getD, List.getElem?_take, show q < L.length by omega, hqi])
                have hyv := LG.out q (by omega)
                have hne : L.getD q 0 ≠ v := fun he => by
                  have h1 := HVE.out
                  rw [hyv] at he
                  have := apart hv c.shards (q : Int) (i : Int) (by omega) (by omega) (by omega) (by omega) (by rw [he, h1])
                  omega
                obtain ⟨y, hy⟩ : ∃ y, y = L.getD q 0 := ⟨_, rfl⟩
                rw [← hy] at hcq hne
                have e1 : (v == y) = false := by simp; exact fun h => hne h.symm
                have hqI : (q : Int) < (i : Int) := by omega
                clear hc1 hLn hyv hne hy
                go_wp2_with fail
                trace "L3"
                go_roundw
                case rel => exact ⟨q + 1, by omega, by go_num, by trivial⟩
                case measure => simp [intOf]; omega
              · obtain rfl : q = i := by omega
                go_wp2_with fail
                trace "NEXT"
                go_roundw
                case rel => exact ⟨q + 1, by omega, by go_num, KJ.out⟩
                case measure => simp [intOf]; omega
      · obtain rfl : i = sp := by omega
        have K9' := hide (K9.out.trans KR.out)
        go_wp2_with fail
        trace "AWAKE"
        refine (awake20 _).mono ?_
        rintro e w10 ⟨rfl, k10⟩
        have K10 := hide (K9'.out.trans k10)
        clear k10
        go_wp2_with fail
        go_ret
        exact ⟨rfl, K10.out⟩
theorem walk (w : World) (A1 : Option Addr) (n1 c1 : Nat) (z1 : List Int) (r1 : Rd w w.heap.size A1 1 n1 (z1.map (.int .i64))) (b1 : ∀ z ∈ z1, -9223372036854775808 ≤ z ∧ z < 9223372036854775808) (s1 : n1 * 8 ≤ 140737488351232) (l1 : n1 ≤ c1)
    (s : ByteArray) (ws : s.size ≤ maxLen) (hs : s.size ≤ 140737488351232) (x : Int) (x0 : 0 ≤ x) (x1 : x < 65536) :
    Calls Try.prog 4 #[.slice A1 n1 c1, .string s, .int .u16 x] w fun e w' => e = .returned (.bool true) ∧ Below w.heap.size w w' :=
  (main w A1 n1 c1 z1 r1 b1 (by omega) s hs x x0 x1).mono fun e w' ⟨he, hk⟩ => ⟨he, hk.done⟩
end routerSpread
end Go.Proofs.Ytgjlibecgkhocaa
