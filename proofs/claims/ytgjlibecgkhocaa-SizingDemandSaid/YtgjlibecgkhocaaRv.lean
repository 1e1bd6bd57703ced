/-
  Routing: configurations that are refused; the reference's home of a key.
-/
import Derived.Test.YtgjlibecgkhocaaRu
import Derived.Test.YtgjlibecgkhocaaLd
set_option linter.unusedVariables false
set_option linter.unusedSimpArgs false
namespace Go.Proofs.Ytgjlibecgkhocaa
open Go.RowKit Cfp

/-- routing refuses it -/
def Bad (c : Cfg) (q : Nat) : Prop := ¬ (1 ≤ c.shards ∧ c.shards ≤ 8 ∧ 1 ≤ c.spread ∧ c.spread ≤ c.shards ∧ q = 16)
theorem rrtcheck_ok (c : Cfg) (h : Rtd c) (C T : Option Addr) (n k j : Nat) (w : World) :
    Calls Try.prog 15 #[Value.agg #[.int .i64 c.length, .int .i64 c.lateness, .int .i64 c.windows, .int .i64 c.shards, .int .i64 c.spread, .int .i64 c.queue, .int .i64 c.mode, .int .i64 c.slots, .int .i64 c.exact_, .int .u64 c.promote, .int .i64 c.depth, .int .i64 c.width, .int .i64 c.top, .int .i64 c.key, .slice C n k, .slice T 16 j, .int .u64 c.seed]] w fun e w' => e = .returned (.int .i64 0) ∧ w' = w.alloc (.cells #[.int .i64 c.length, .int .i64 c.lateness, .int .i64 c.windows, .int .i64 c.shards, .int .i64 c.spread, .int .i64 c.queue, .int .i64 c.mode, .int .i64 c.slots, .int .i64 c.exact_, .int .u64 c.promote, .int .i64 c.depth, .int .i64 c.width, .int .i64 c.top, .int .i64 c.key, .slice C n k, .slice T 16 j, .int .u64 c.seed] 28) := by
  have h1 := h.shards
  have h2 := h.spread
  go_enter Try.func15, Try.ntmps15
  go_wp2_with (go_at_call 40; refine (Hash.rcheck_16 _ _ _).mono ?_; rintro e w1 ⟨rfl, rfl⟩)
  go_ret
  exact ⟨rfl, rfl⟩
theorem rtcheck_bad (c : Cfg) (C T : Option Addr) (n k q j : Nat) (w : World) (hb : Bad c q) :
    Calls Try.prog 14 #[Value.agg #[.int .i64 c.length, .int .i64 c.lateness, .int .i64 c.windows, .int .i64 c.shards, .int .i64 c.spread, .int .i64 c.queue, .int .i64 c.mode, .int .i64 c.slots, .int .i64 c.exact_, .int .u64 c.promote, .int .i64 c.depth, .int .i64 c.width, .int .i64 c.top, .int .i64 c.key, .slice C n k, .slice T q j, .int .u64 c.seed]] w fun e w' => e = .returned (.int .i64 11) ∧ w' = w.alloc (.cells #[.int .i64 c.length, .int .i64 c.lateness, .int .i64 c.windows, .int .i64 c.shards, .int .i64 c.spread, .int .i64 c.queue, .int .i64 c.mode, .int .i64 c.slots, .int .i64 c.exact_, .int .u64 c.promote, .int .i64 c.depth, .int .i64 c.width, .int .i64 c.top, .int .i64 c.key, .slice C n k, .slice T q j, .int .u64 c.seed] 28) := by
  have HB : Hid (Bad c q) := hb
  clear hb
  by_cases h1 : c.shards < 1
  · go_enter Try.func14, Try.ntmps14
    go_wp2_with fail
    go_ret
    exact ⟨rfl, rfl⟩
  by_cases h2 : 8 < c.shards
  · go_enter Try.func14, Try.ntmps14
    go_wp2_with fail
    go_ret
    exact ⟨rfl, rfl⟩
  by_cases h3 : c.spread < 1
  · go_enter Try.func14, Try.ntmps14
    go_wp2_with fail
    go_ret
    exact ⟨rfl, rfl⟩
  by_cases h4 : c.shards < c.spread
  · go_enter Try.func14, Try.ntmps14
    go_wp2_with fail
    go_ret
    exact ⟨rfl, rfl⟩
  have hq : q ≠ 16 := fun h => HB.out ⟨by omega, by omega, by omega, by omega, h⟩
  have HC := hide (fun w => Hash.check_not T q j hq w)
  clear hq
  go_enter Try.func14, Try.ntmps14
  go_wp2_with (go_at_call 39; refine (HC.out _).mono ?_; rintro e w1 ⟨rfl, rfl⟩)
  go_ret
  exact ⟨rfl, rfl⟩
theorem rrtcheck_bad (c : Cfg) (C T : Option Addr) (n k q j : Nat) (w : World) (hb : Bad c q) :
    Calls Try.prog 15 #[Value.agg #[.int .i64 c.length, .int .i64 c.lateness, .int .i64 c.windows, .int .i64 c.shards, .int .i64 c.spread, .int .i64 c.queue, .int .i64 c.mode, .int .i64 c.slots, .int .i64 c.exact_, .int .u64 c.promote, .int .i64 c.depth, .int .i64 c.width, .int .i64 c.top, .int .i64 c.key, .slice C n k, .slice T q j, .int .u64 c.seed]] w fun e w' => e = .returned (.int .i64 11) ∧ w' = w.alloc (.cells #[.int .i64 c.length, .int .i64 c.lateness, .int .i64 c.windows, .int .i64 c.shards, .int .i64 c.spread, .int .i64 c.queue, .int .i64 c.mode, .int .i64 c.slots, .int .i64 c.exact_, .int .u64 c.promote, .int .i64 c.depth, .int .i64 c.width, .int .i64 c.top, .int .i64 c.key, .slice C n k, .slice T q j, .int .u64 c.seed] 28) := by
  have HB : Hid (Bad c q) := hb
  clear hb
  by_cases h1 : c.shards < 1
  · go_enter Try.func15, Try.ntmps15
    go_wp2_with fail
    go_ret
    exact ⟨rfl, rfl⟩
  by_cases h2 : 8 < c.shards
  · go_enter Try.func15, Try.ntmps15
    go_wp2_with fail
    go_ret
    exact ⟨rfl, rfl⟩
  by_cases h3 : c.spread < 1
  · go_enter Try.func15, Try.ntmps15
    go_wp2_with fail
    go_ret
    exact ⟨rfl, rfl⟩
  by_cases h4 : c.shards < c.spread
  · go_enter Try.func15, Try.ntmps15
    go_wp2_with fail
    go_ret
    exact ⟨rfl, rfl⟩
  have hq : q ≠ 16 := fun h => HB.out ⟨by omega, by omega, by omega, by omega, h⟩
  have HC := hide (fun w => Hash.rcheck_not T q j hq w)
  clear hq
  go_enter Try.func15, Try.ntmps15
  go_wp2_with (go_at_call 40; refine (HC.out _).mono ?_; rintro e w1 ⟨rfl, rfl⟩)
  go_ret
  exact ⟨rfl, rfl⟩

theorem home_bad (c : Cfg) (C T : Option Addr) (n k q j : Nat) (w : World) (hb : Bad c q) (s : ByteArray) :
    Calls Try.prog 16 #[Value.agg #[.int .i64 c.length, .int .i64 c.lateness, .int .i64 c.windows, .int .i64 c.shards, .int .i64 c.spread, .int .i64 c.queue, .int .i64 c.mode, .int .i64 c.slots, .int .i64 c.exact_, .int .u64 c.promote, .int .i64 c.depth, .int .i64 c.width, .int .i64 c.top, .int .i64 c.key, .slice C n k, .slice T q j, .int .u64 c.seed], .string s] w fun e w' => e = .returned (.int .i64 0) ∧ Keeps (fun _ => False) w w' := by
  have CH := hide (fun W => rtcheck_bad c C T n k q j W hb)
  have bX := hide (Blk.new w 28 #[.int .i64 c.length, .int .i64 c.lateness, .int .i64 c.windows, .int .i64 c.shards, .int .i64 c.spread, .int .i64 c.queue, .int .i64 c.mode, .int .i64 c.slots, .int .i64 c.exact_, .int .u64 c.promote, .int .i64 c.depth, .int .i64 c.width, .int .i64 c.top, .int .i64 c.key, .slice C n k, .slice T q j, .int .u64 c.seed])
  have kX := (Keeps.refl (fun _ => False) w).alloc (.cells #[.int .i64 c.length, .int .i64 c.lateness, .int .i64 c.windows, .int .i64 c.shards, .int .i64 c.spread, .int .i64 c.queue, .int .i64 c.mode, .int .i64 c.slots, .int .i64 c.exact_, .int .u64 c.promote, .int .i64 c.depth, .int .i64 c.width, .int .i64 c.top, .int .i64 c.key, .slice C n k, .slice T q j, .int .u64 c.seed] 28)
  go_enter Try.func16, Try.ntmps16
  go_wp2_with (refine cfg_ld _ rfl bX.out rfl (by rfl) ?_; simp only [Act.put, List.setIfInBounds_toArray, List.set_cons_zero, List.set_cons_succ])
  refine (CH.out _).mono ?_
  rintro e w1 ⟨rfl, hw1⟩
  have k1 : Keeps (fun _ => False) w w1 := by rw [hw1]; exact kX.alloc _
  have K1 := hide k1
  clear hw1 k1 kX
  go_wp2_with fail
  go_ret
  exact ⟨rfl, K1.out⟩
theorem rhome_bad (c : Cfg) (C T : Option Addr) (n k q j : Nat) (w : World) (hb : Bad c q) (s : ByteArray) :
    Calls Try.prog 17 #[Value.agg #[.int .i64 c.length, .int .i64 c.lateness, .int .i64 c.windows, .int .i64 c.shards, .int .i64 c.spread, .int .i64 c.queue, .int .i64 c.mode, .int .i64 c.slots, .int .i64 c.exact_, .int .u64 c.promote, .int .i64 c.depth, .int .i64 c.width, .int .i64 c.top, .int .i64 c.key, .slice C n k, .slice T q j, .int .u64 c.seed], .string s] w fun e w' => e = .returned (.int .i64 0) ∧ Keeps (fun _ => False) w w' := by
  have CH := hide (fun W => rrtcheck_bad c C T n k q j W hb)
  have bX := hide (Blk.new w 28 #[.int .i64 c.length, .int .i64 c.lateness, .int .i64 c.windows, .int .i64 c.shards, .int .i64 c.spread, .int .i64 c.queue, .int .i64 c.mode, .int .i64 c.slots, .int .i64 c.exact_, .int .u64 c.promote, .int .i64 c.depth, .int .i64 c.width, .int .i64 c.top, .int .i64 c.key, .slice C n k, .slice T q j, .int .u64 c.seed])
  have kX := (Keeps.refl (fun _ => False) w).alloc (.cells #[.int .i64 c.length, .int .i64 c.lateness, .int .i64 c.windows, .int .i64 c.shards, .int .i64 c.spread, .int .i64 c.queue, .int .i64 c.mode, .int .i64 c.slots, .int .i64 c.exact_, .int .u64 c.promote, .int .i64 c.depth, .int .i64 c.width, .int .i64 c.top, .int .i64 c.key, .slice C n k, .slice T q j, .int .u64 c.seed] 28)
  go_enter Try.func17, Try.ntmps17
  go_wp2_with (refine cfg_ld _ rfl bX.out rfl (by rfl) ?_; simp only [Act.put, List.setIfInBounds_toArray, List.set_cons_zero, List.set_cons_succ])
  refine (CH.out _).mono ?_
  rintro e w1 ⟨rfl, hw1⟩
  have k1 : Keeps (fun _ => False) w w1 := by rw [hw1]; exact kX.alloc _
  have K1 := hide k1
  clear hw1 k1 kX
  go_wp2_with fail
  go_ret
  exact ⟨rfl, K1.out⟩
theorem set_bad (c : Cfg) (C T : Option Addr) (n k q j : Nat) (w : World) (hb : Bad c q) (s : ByteArray) :
    Calls Try.prog 19 #[Value.agg #[.int .i64 c.length, .int .i64 c.lateness, .int .i64 c.windows, .int .i64 c.shards, .int .i64 c.spread, .int .i64 c.queue, .int .i64 c.mode, .int .i64 c.slots, .int .i64 c.exact_, .int .u64 c.promote, .int .i64 c.depth, .int .i64 c.width, .int .i64 c.top, .int .i64 c.key, .slice C n k, .slice T q j, .int .u64 c.seed], .string s] w fun e w' => e = .returned (.slice none 0 0) ∧ Keeps (fun _ => False) w w' := by
  have CH := hide (fun W => rtcheck_bad c C T n k q j W hb)
  have bX := hide (Blk.new w 28 #[.int .i64 c.length, .int .i64 c.lateness, .int .i64 c.windows, .int .i64 c.shards, .int .i64 c.spread, .int .i64 c.queue, .int .i64 c.mode, .int .i64 c.slots, .int .i64 c.exact_, .int .u64 c.promote, .int .i64 c.depth, .int .i64 c.width, .int .i64 c.top, .int .i64 c.key, .slice C n k, .slice T q j, .int .u64 c.seed])
  have kX := (Keeps.refl (fun _ => False) w).alloc (.cells #[.int .i64 c.length, .int .i64 c.lateness, .int .i64 c.windows, .int .i64 c.shards, .int .i64 c.spread, .int .i64 c.queue, .int .i64 c.mode, .int .i64 c.slots, .int .i64 c.exact_, .int .u64 c.promote, .int .i64 c.depth, .int .i64 c.width, .int .i64 c.top, .int .i64 c.key, .slice C n k, .slice T q j, .int .u64 c.seed] 28)
  go_enter Try.func19, Try.ntmps19
  go_wp2_with (refine cfg_ld _ rfl bX.out rfl (by rfl) ?_; simp only [Act.put, List.setIfInBounds_toArray, List.set_cons_zero, List.set_cons_succ])
  refine (CH.out _).mono ?_
  rintro e w1 ⟨rfl, hw1⟩
  have k1 : Keeps (fun _ => False) w w1 := by rw [hw1]; exact kX.alloc _
  have K1 := hide k1
  clear hw1 k1 kX
  go_wp2_with fail
  go_ret
  exact ⟨rfl, K1.out⟩
theorem rset_bad (c : Cfg) (C T : Option Addr) (n k q j : Nat) (w : World) (hb : Bad c q) (s : ByteArray) :
    Calls Try.prog 20 #[Value.agg #[.int .i64 c.length, .int .i64 c.lateness, .int .i64 c.windows, .int .i64 c.shards, .int .i64 c.spread, .int .i64 c.queue, .int .i64 c.mode, .int .i64 c.slots, .int .i64 c.exact_, .int .u64 c.promote, .int .i64 c.depth, .int .i64 c.width, .int .i64 c.top, .int .i64 c.key, .slice C n k, .slice T q j, .int .u64 c.seed], .string s] w fun e w' => e = .returned (.slice none 0 0) ∧ Keeps (fun _ => False) w w' := by
  have CH := hide (fun W => rrtcheck_bad c C T n k q j W hb)
  have bX := hide (Blk.new w 28 #[.int .i64 c.length, .int .i64 c.lateness, .int .i64 c.windows, .int .i64 c.shards, .int .i64 c.spread, .int .i64 c.queue, .int .i64 c.mode, .int .i64 c.slots, .int .i64 c.exact_, .int .u64 c.promote, .int .i64 c.depth, .int .i64 c.width, .int .i64 c.top, .int .i64 c.key, .slice C n k, .slice T q j, .int .u64 c.seed])
  have kX := (Keeps.refl (fun _ => False) w).alloc (.cells #[.int .i64 c.length, .int .i64 c.lateness, .int .i64 c.windows, .int .i64 c.shards, .int .i64 c.spread, .int .i64 c.queue, .int .i64 c.mode, .int .i64 c.slots, .int .i64 c.exact_, .int .u64 c.promote, .int .i64 c.depth, .int .i64 c.width, .int .i64 c.top, .int .i64 c.key, .slice C n k, .slice T q j, .int .u64 c.seed] 28)
  go_enter Try.func20, Try.ntmps20
  go_wp2_with (refine cfg_ld _ rfl bX.out rfl (by rfl) ?_; simp only [Act.put, List.setIfInBounds_toArray, List.set_cons_zero, List.set_cons_succ])
  refine (CH.out _).mono ?_
  rintro e w1 ⟨rfl, hw1⟩
  have k1 : Keeps (fun _ => False) w w1 := by rw [hw1]; exact kX.alloc _
  have K1 := hide k1
  clear hw1 k1 kX
  go_wp2_with fail
  go_ret
  exact ⟨rfl, K1.out⟩

theorem route_bad (c : Cfg) (C T : Option Addr) (n k q j : Nat) (w : World) (hb : Bad c q) (s : ByteArray) (x : Int) :
    Calls Try.prog 21 #[Value.agg #[.int .i64 c.length, .int .i64 c.lateness, .int .i64 c.windows, .int .i64 c.shards, .int .i64 c.spread, .int .i64 c.queue, .int .i64 c.mode, .int .i64 c.slots, .int .i64 c.exact_, .int .u64 c.promote, .int .i64 c.depth, .int .i64 c.width, .int .i64 c.top, .int .i64 c.key, .slice C n k, .slice T q j, .int .u64 c.seed], .string s, .int .i64 x] w fun e w' => e = .returned (.int .i64 0) ∧ Keeps (fun _ => False) w w' := by
  have CH := hide (fun W => set_bad c C T n k q j W hb s)
  have bX := hide (Blk.new w 28 #[.int .i64 c.length, .int .i64 c.lateness, .int .i64 c.windows, .int .i64 c.shards, .int .i64 c.spread, .int .i64 c.queue, .int .i64 c.mode, .int .i64 c.slots, .int .i64 c.exact_, .int .u64 c.promote, .int .i64 c.depth, .int .i64 c.width, .int .i64 c.top, .int .i64 c.key, .slice C n k, .slice T q j, .int .u64 c.seed])
  have kX := hide ((Keeps.refl (fun _ => False) w).alloc (.cells #[.int .i64 c.length, .int .i64 c.lateness, .int .i64 c.windows, .int .i64 c.shards, .int .i64 c.spread, .int .i64 c.queue, .int .i64 c.mode, .int .i64 c.slots, .int .i64 c.exact_, .int .u64 c.promote, .int .i64 c.depth, .int .i64 c.width, .int .i64 c.top, .int .i64 c.key, .slice C n k, .slice T q j, .int .u64 c.seed] 28))
  go_enter Try.func21, Try.ntmps21
  go_wp2_with (refine cfg_ld _ rfl bX.out rfl (by rfl) ?_; simp only [Act.put, List.setIfInBounds_toArray, List.set_cons_zero, List.set_cons_succ])
  refine (CH.out _).mono ?_
  rintro e w1 ⟨rfl, k1⟩
  have K1 := hide (kX.out.trans k1)
  clear k1
  go_wp2_with fail
  go_ret
  exact ⟨rfl, K1.out⟩

/-- the reference's home of a key -/
theorem rhome_ok (c : Cfg) (h : Rtd c) (C T : Option Addr) (n k j B : Nat) (w : World) (zs : List Int) (hz : ∀ z ∈ zs, 0 ≤ z ∧ z < 18446744073709551616) (hr : Rd w B T 1 16 (zs.map (.int .u64))) (s : ByteArray) (hs : s.size ≤ 140737488351232) :
    Calls Try.prog 17 #[Value.agg #[.int .i64 c.length, .int .i64 c.lateness, .int .i64 c.windows, .int .i64 c.shards, .int .i64 c.spread, .int .i64 c.queue, .int .i64 c.mode, .int .i64 c.slots, .int .i64 c.exact_, .int .u64 c.promote, .int .i64 c.depth, .int .i64 c.width, .int .i64 c.top, .int .i64 c.key, .slice C n k, .slice T 16 j, .int .u64 c.seed], .string s] w fun e w' => e = .returned (.int .i64 (homeOf c zs s)) ∧ Keeps (fun _ => False) w w' := by
  have h1 := h.shards
  have kb := key_bd zs c.seed s.data.toList
  have KK := hide (fun W (hr : Rd W B T 1 16 (zs.map (.int .u64))) => Hash.rkey_any zs hz T 16 j B W hr c.seed h.seed.1 h.seed.2 s hs)
  have KS := hide (fun W => Hash.rslot_any (Hash.key zs c.seed s.data.toList) c.shards kb.1 kb.2 (by omega) (by omega) W)
  have CH := hide (fun W => rrtcheck_ok c h C T n k j W)
  unfold homeOf
  obtain ⟨hv, hhv⟩ : ∃ hv, hv = Hash.key zs c.seed s.data.toList := ⟨_, rfl⟩
  rw [← hhv] at KK KS kb ⊢
  obtain ⟨sv, hsv⟩ : ∃ sv, sv = Hash.slot hv c.shards := ⟨_, rfl⟩
  rw [← hsv] at KS ⊢
  have HR := hide hr
  have bX := hide (Blk.new w 28 #[.int .i64 c.length, .int .i64 c.lateness, .int .i64 c.windows, .int .i64 c.shards, .int .i64 c.spread, .int .i64 c.queue, .int .i64 c.mode, .int .i64 c.slots, .int .i64 c.exact_, .int .u64 c.promote, .int .i64 c.depth, .int .i64 c.width, .int .i64 c.top, .int .i64 c.key, .slice C n k, .slice T 16 j, .int .u64 c.seed])
  clear hr hhv hsv
  go_enter Try.func17, Try.ntmps17
  go_wp2_with (refine cfg_ld _ rfl bX.out rfl (by rfl) ?_; simp only [Act.put, List.setIfInBounds_toArray, List.set_cons_zero, List.set_cons_succ])
  refine (CH.out _).mono ?_
  rintro e w1 ⟨rfl, hw1⟩
  have k1 : Keeps (fun _ => False) (w.alloc (.cells #[.int .i64 c.length, .int .i64 c.lateness, .int .i64 c.windows, .int .i64 c.shards, .int .i64 c.spread, .int .i64 c.queue, .int .i64 c.mode, .int .i64 c.slots, .int .i64 c.exact_, .int .u64 c.promote, .int .i64 c.depth, .int .i64 c.width, .int .i64 c.top, .int .i64 c.key, .slice C n k, .slice T 16 j, .int .u64 c.seed] 28)) w1 := by rw [hw1]; exact (Keeps.refl _ _).alloc _
  have K1 := hide (((Keeps.refl (fun _ => False) w).alloc (.cells #[.int .i64 c.length, .int .i64 c.lateness, .int .i64 c.windows, .int .i64 c.shards, .int .i64 c.spread, .int .i64 c.queue, .int .i64 c.mode, .int .i64 c.slots, .int .i64 c.exact_, .int .u64 c.promote, .int .i64 c.depth, .int .i64 c.width, .int .i64 c.top, .int .i64 c.key, .slice C n k, .slice T 16 j, .int .u64 c.seed] 28)).trans k1)
  have HR1 := hide (HR.out.kept K1.out (fun _ _ h => h))
  have HK1 := hide (fun q => KK.out (w1.drewN q) (HR1.out.drewN q))
  have b1 := bX.out.kept k1 (fun h => h)
  have c3 : w1.cell? ⟨w.heap.size, 3, none⟩ = some (.int .i64 c.shards) := b1.cell 3
  have c15 : w1.cell? ⟨w.heap.size, 15, none⟩ = some (.slice T 16 j) := b1.cell 15
  have c16 : w1.cell? ⟨w.heap.size, 16, none⟩ = some (.int .u64 c.seed) := b1.cell 16
  clear b1 k1 hw1 HR KK
  go_wp2_with fail
  go_quiet ((first
    | (go_at_call 44; first | exact quiet_more (HK1.out _) | exact quiet_add (HK1.out _))
    | (go_at_call 43; first | exact quiet_left (KS.out _) | exact quiet_add_left (KS.out _))))
  go_wp2_with fail
  go_ret
  exact ⟨rfl, K1.out.drewN _⟩
end Go.Proofs.Ytgjlibecgkhocaa
