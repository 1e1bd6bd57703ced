/-
  The reference's Bounds: its two regions with calls. No conditions beyond those of the statement. The reference's Bounds by its contract. No conditions beyond those of the statement. SummaryBounds: the region that compares both bounds and both estimates. No conditions beyond those of the statement. SummaryBounds: the loop over the keys. No conditions beyond those of the statement. SummaryBounds: the loop over the summaries. No conditions beyond those of the statement.
-/
import Derived.Test.YtaiopdipldaimaaYj
import Derived.Test.YtaiopdipldaimaaLd
set_option linter.unusedVariables false
set_option linter.unusedSimpArgs false
namespace Go.Proofs.Ytaiopdipldaimaa
open Go.RowKit Cfp
namespace rbd
noncomputable def rg5 : Code := ((Try.f43.body.bind (sbd.findReg 5)).getD .skip)
noncomputable def rg7 : Code := ((Try.f43.body.bind (sbd.findReg 7)).getD .skip)
/-- what the regions read -/
def Rds (X3 X4 X9 : Nat) (cs ss es : Array Value) (w : World) : Prop :=
  Blk w X3 51 cs ∧ (w.cell? ⟨X4, 0, none⟩ = ss[0]? ∧ w.cell? ⟨X4, 1, none⟩ = ss[1]? ∧ w.cell? ⟨X4, 2, none⟩ = ss[2]? ∧ w.cell? ⟨X4, 3, none⟩ = ss[3]?) ∧ (w.cell? ⟨X9, 0, none⟩ = es[0]? ∧ w.cell? ⟨X9, 1, none⟩ = es[1]? ∧ w.cell? ⟨X9, 2, none⟩ = es[2]?)
set_option maxRecDepth 1000000 in
set_option maxHeartbeats 4000000 in
theorem reg5 (w1 : World) (X3 X4 X6 X9 : Nat) (c : Cfg) (C T : Option Addr) (n0 k0 q j : Nat) (tot un : Int) (A R : Option Addr) (n cA m cR : Nat) (k : ByteArray) (x : Ln) (hU : U x.lo ∧ U x.hi) (est : Int)
    (HE : Hid (∀ W, Keeps (fun _ => False) w1 W → Calls Try.prog 45 #[Value.agg #[.int .i64 c.length, .int .i64 c.lateness, .int .i64 c.windows, .int .i64 c.shards, .int .i64 c.spread, .int .i64 c.queue, .int .i64 c.mode, .int .i64 c.slots, .int .i64 c.exact_, .int .u64 c.promote, .int .i64 c.depth, .int .i64 c.width, .int .i64 c.top, .int .i64 c.key, .slice C n0 k0, .slice T q j, .int .u64 c.seed], smV tot A n cA un R m cR, .string k] W fun e w' => e = .returned (.int .u64 est) ∧ Keeps (fun _ => False) W w'))
    (b3 : Blk w1 X3 51 #[.int .i64 c.length, .int .i64 c.lateness, .int .i64 c.windows, .int .i64 c.shards, .int .i64 c.spread, .int .i64 c.queue, .int .i64 c.mode, .int .i64 c.slots, .int .i64 c.exact_, .int .u64 c.promote, .int .i64 c.depth, .int .i64 c.width, .int .i64 c.top, .int .i64 c.key, .slice C n0 k0, .slice T q j, .int .u64 c.seed]) (b4 : Blk w1 X4 45 (smC tot A n cA un R m cR)) (b6 : Blk w1 X6 81 (bndC 0 0)) (b9 : Blk w1 X9 99 #[.string x.key, .int .u64 x.lo, .int .u64 x.hi])
    (hne : X3 ≠ X6 ∧ X4 ≠ X6 ∧ X9 ≠ X6) (s0 s1 s5 s7 s8 s10 s11 s12 s13 s14 s15 s16 s17 s18 s19 s20 s21 s22 s23 s24 s25 s26 s27 s28 s29 s30 s31 s32 s33 s34 s35 s36 : Value) :
    Code.wp Try.prog rg5 (sbd.NormPost fun a' w' => (Blk w' X6 81 (bndC (imin x.lo est) (imin (Sat.add x.lo x.hi) est)) ∧ Keeps (· = X6) w1 w') ∧ (∃ u21 u22 u23 u24 u25 u26 u27 : Value, a' = ⟨#[s0, s1, .string k, .pointer (some ⟨X3, 0, none⟩), .pointer (some ⟨X4, 0, none⟩), s5, .pointer (some ⟨X6, 0, none⟩), .bool true, s8, .pointer (some ⟨X9, 0, none⟩), s10, s11, s12, s13, s14, s15, s16, s17, s18, s19, s20, u21, u22, u23, u24, u25, u26, u27, s28, s29, s30, s31, s32, s33, s34, s35, s36], []⟩)) ⟨#[s0, s1, .string k, .pointer (some ⟨X3, 0, none⟩), .pointer (some ⟨X4, 0, none⟩), s5, .pointer (some ⟨X6, 0, none⟩), s7, s8, .pointer (some ⟨X9, 0, none⟩), s10, s11, s12, s13, s14, s15, s16, s17, s18, s19, s20, s21, s22, s23, s24, s25, s26, s27, s28, s29, s30, s31, s32, s33, s34, s35, s36], []⟩ w1 := by
  have HRd : Hid (∀ W, Keeps (· = X6) w1 W → Rds X3 X4 X9 #[.int .i64 c.length, .int .i64 c.lateness, .int .i64 c.windows, .int .i64 c.shards, .int .i64 c.spread, .int .i64 c.queue, .int .i64 c.mode, .int .i64 c.slots, .int .i64 c.exact_, .int .u64 c.promote, .int .i64 c.depth, .int .i64 c.width, .int .i64 c.top, .int .i64 c.key, .slice C n0 k0, .slice T q j, .int .u64 c.seed] (smC tot A n cA un R m cR) #[.string x.key, .int .u64 x.lo, .int .u64 x.hi] W) := hide (fun W kW => ⟨b3.kept kW hne.1, ⟨(b4.kept kW hne.2.1).cell 0, (b4.kept kW hne.2.1).cell 1, (b4.kept kW hne.2.1).cell 2, (b4.kept kW hne.2.1).cell 3⟩, ⟨(b9.kept kW hne.2.2).cell 0, (b9.kept kW hne.2.2).cell 1, (b9.kept kW hne.2.2).cell 2⟩⟩)
  have B6 := hide b6
  have k0' : Keeps (fun _ => False) w1 w1.drew := (Keeps.refl _ _).drew
  have KK : Hid (∀ W, Keeps (fun _ => False) w1 W → Keeps (· = X6) w1 W) := hide (fun W kW => (Keeps.refl (· = X6) w1).step kW (fun _ _ h => h.elim))
  clear b3 b4 b6 b9
  conv => arg 2; whnf
  dsimp only
  refine wp_region_held_drew (S := Rds X3 X4 X9 #[.int .i64 c.length, .int .i64 c.lateness, .int .i64 c.windows, .int .i64 c.shards, .int .i64 c.spread, .int .i64 c.queue, .int .i64 c.mode, .int .i64 c.slots, .int .i64 c.exact_, .int .u64 c.promote, .int .i64 c.depth, .int .i64 c.width, .int .i64 c.top, .int .i64 c.key, .slice C n0 k0, .slice T q j, .int .u64 c.seed] (smC tot A n cA un R m cR) #[.string x.key, .int .u64 x.lo, .int .u64 x.hi]) (by kernel_rfl) (HRd.out _ (KK.out _ k0')) (fun hHeld => ?_)
  refine wpAnyH_take (i := 0) (v := ?_) rfl (by kernel_rfl) (by kernel_rfl) (by kernel_rfl) (fun _ _ _ h => h) (Or.inl ⟨by kernel_rfl, ?_⟩) (by assumption) ?_; rotate_left; focus (intro w hSw; (try dsimp only at hSw); obtain ⟨h0, ⟨h1, h2, h3, h4⟩, ⟨h5, h6, h7⟩⟩ := hSw; go_simp; try (with_reducible rfl)); (try simp only [Act.put, List.setIfInBounds_toArray, List.set_cons_zero, List.set_cons_succ])
  refine wpAnyH_take (i := 2) (v := _) rfl (by kernel_rfl) (by kernel_rfl) (by kernel_rfl) (fun _ _ _ h => h) (cfg_yields (c := c) (C := C) (T := T) (n := n0) (k := k0) (q := q) (j := j) (g := X3) (.tmp 3) rfl (fun _ h => h.1) (by simp [Act.eval, Act.put]) (by kernel_rfl)) (by assumption) ?_
  (try simp only [Act.put, List.setIfInBounds_toArray, List.set_cons_zero, List.set_cons_succ])
  refine wpAnyH_take (i := 3) (v := ?_) rfl (by kernel_rfl) (by kernel_rfl) (by kernel_rfl) (fun _ _ _ h => h) (Or.inl ⟨by kernel_rfl, ?_⟩) (by assumption) ?_; rotate_left; focus (intro w hSw; (try dsimp only at hSw); obtain ⟨h0, ⟨h1, h2, h3, h4⟩, ⟨h5, h6, h7⟩⟩ := hSw; go_simp; try (with_reducible rfl)); (try simp only [Act.put, List.setIfInBounds_toArray, List.set_cons_zero, List.set_cons_succ])
  refine wpAnyH_take (i := 4) (v := ?_) rfl (by kernel_rfl) (by kernel_rfl) (by kernel_rfl) (fun _ _ _ h => h) (Or.inl ⟨by kernel_rfl, ?_⟩) (by assumption) ?_; rotate_left; focus (intro w hSw; (try dsimp only at hSw); obtain ⟨h0, ⟨h1, h2, h3, h4⟩, ⟨h5, h6, h7⟩⟩ := hSw; go_simp; try (with_reducible rfl)); (try simp only [Act.put, List.setIfInBounds_toArray, List.set_cons_zero, List.set_cons_succ])
  trace "TAKEN"
  refine wpAnyH_ready (rs := [1]) (by kernel_rfl) (by simp) ?_
  refine AllReadyH.cons rfl (fun K hK => ?_) AllReadyH.nil
  go_simp
  go_at_call 80
  refine (rofe_any x.key x.lo x.hi hU.1 hU.2 _).mono ?_
  rintro e W1 ⟨rfl, kk⟩
  have k1 := (k0').trans kk
  try go_wp2_with fail
  refine hK.out _ _ (HRd.out _ (KK.out _ k1)) (fun hHeld => ?_)
  clear hK K kk
  (try simp only [Act.put, List.setIfInBounds_toArray, List.set_cons_zero, List.set_cons_succ])
  trace "OF"
  refine wpAnyH_ready (rs := [5]) (by kernel_rfl) (by simp) ?_
  refine AllReadyH.cons rfl (fun K hK => ?_) AllReadyH.nil
  go_simp
  go_at_call 45
  refine (HE.out _ k1).mono ?_
  rintro e W2 ⟨rfl, kk⟩
  have k2 := (k1).trans kk
  try go_wp2_with fail
  refine hK.out _ _ (HRd.out _ (KK.out _ k2)) (fun hHeld => ?_)
  clear hK K kk
  (try simp only [Act.put, List.setIfInBounds_toArray, List.set_cons_zero, List.set_cons_succ])
  trace "EST"
  refine wpAnyH_ready (rs := [6]) (by kernel_rfl) (by simp) ?_
  refine AllReadyH.cons rfl (fun K hK => ?_) AllReadyH.nil
  go_simp
  go_at_call 79
  refine (rcap_any x.lo (Sat.add x.lo x.hi) est W2).mono ?_
  rintro e W3 ⟨rfl, kk⟩
  have k3 := (k2).trans kk
  try go_wp2_with fail
  refine hK.out _ _ (HRd.out _ (KK.out _ k3)) (fun hHeld => ?_)
  clear hK K kk
  (try simp only [Act.put, List.setIfInBounds_toArray, List.set_cons_zero, List.set_cons_succ])
  trace "CAP"
  have B6 := hide (B6.out.kept k3 (fun h => h))
  have q0 := B6.out.cell 0
  have q1 := B6.out.cell 1
  have f0 := B6.out.frozen 0
  have f1 := B6.out.frozen 1
  have hw2 := KK.out _ k3
  refine wpAnyH_ready (rs := [7]) (by kernel_rfl) (by simp) ?_
  refine AllReadyH.cons rfl (fun K hK => ?_) AllReadyH.nil
  go_simp
  have kS : Keeps (· = X6) W3 ((W3.setCell ⟨X6, 0, none⟩ (.int .u64 (imin x.lo est))).setCell ⟨X6, 1, none⟩ (.int .u64 (imin (Sat.add x.lo x.hi) est))) := Keeps.setCell (S := (· = X6)) (p := ⟨X6, 1, none⟩) (Keeps.setCell (S := (· = X6)) (p := ⟨X6, 0, none⟩) (Keeps.refl _ _) (.inl rfl) _) (.inl rfl) _
  have bS := (B6.out.set 0 (.int .u64 (imin x.lo est))).set 1 (.int .u64 (imin (Sat.add x.lo x.hi) est))
  have kT := hw2.trans kS
  refine hK.out _ _ (HRd.out _ kT) (fun hHeld => ?_)
  clear hK K
  (try simp only [Act.put, List.setIfInBounds_toArray, List.set_cons_zero, List.set_cons_succ])
  refine wpAnyH_take (i := 8) (v := ?_) rfl (by kernel_rfl) (by kernel_rfl) (by kernel_rfl) (fun _ _ _ h => h) (Or.inl ⟨by kernel_rfl, ?_⟩) (by assumption) ?_; rotate_left; focus (intro w hSw; (try dsimp only at hSw); obtain ⟨h0, ⟨h1, h2, h3, h4⟩, ⟨h5, h6, h7⟩⟩ := hSw; go_simp; try (with_reducible rfl)); (try simp only [Act.put, List.setIfInBounds_toArray, List.set_cons_zero, List.set_cons_succ])
  refine wpAnyH_done (by kernel_rfl) ?_ _
  refine ⟨⟨bS, kT⟩, ⟨_, _, _, _, _, _, _, rfl⟩⟩
set_option maxRecDepth 1000000 in
set_option maxHeartbeats 4000000 in
theorem reg7 (w1 : World) (X3 X4 X6 : Nat) (c : Cfg) (C T : Option Addr) (n0 k0 q j : Nat) (tot un : Int) (A R : Option Addr) (n cA m cR : Nat) (k : ByteArray) (est : Int)
    (HE : Hid (∀ W, Keeps (fun _ => False) w1 W → Calls Try.prog 45 #[Value.agg #[.int .i64 c.length, .int .i64 c.lateness, .int .i64 c.windows, .int .i64 c.shards, .int .i64 c.spread, .int .i64 c.queue, .int .i64 c.mode, .int .i64 c.slots, .int .i64 c.exact_, .int .u64 c.promote, .int .i64 c.depth, .int .i64 c.width, .int .i64 c.top, .int .i64 c.key, .slice C n0 k0, .slice T q j, .int .u64 c.seed], smV tot A n cA un R m cR, .string k] W fun e w' => e = .returned (.int .u64 est) ∧ Keeps (fun _ => False) W w'))
    (b3 : Blk w1 X3 51 #[.int .i64 c.length, .int .i64 c.lateness, .int .i64 c.windows, .int .i64 c.shards, .int .i64 c.spread, .int .i64 c.queue, .int .i64 c.mode, .int .i64 c.slots, .int .i64 c.exact_, .int .u64 c.promote, .int .i64 c.depth, .int .i64 c.width, .int .i64 c.top, .int .i64 c.key, .slice C n0 k0, .slice T q j, .int .u64 c.seed]) (b4 : Blk w1 X4 45 (smC tot A n cA un R m cR)) (b6 : Blk w1 X6 81 (bndC 0 0))
    (hne : X3 ≠ X6 ∧ X4 ≠ X6) (s0 s1 s5 s7 s8 s9 s10 s11 s12 s13 s14 s15 s16 s17 s18 s19 s20 s21 s22 s23 s24 s25 s26 s27 s28 s29 s30 s31 s32 s33 s34 s35 s36 : Value) :
    Code.wp Try.prog rg7 (sbd.NormPost fun a' w' => (Blk w' X6 81 (bndC (imin 0 est) (imin un est)) ∧ Keeps (· = X6) w1 w') ∧ (∃ u29 u30 u31 u32 u33 u34 u35 u36 : Value, a' = ⟨#[s0, s1, .string k, .pointer (some ⟨X3, 0, none⟩), .pointer (some ⟨X4, 0, none⟩), s5, .pointer (some ⟨X6, 0, none⟩), .bool false, s8, s9, s10, s11, s12, s13, s14, s15, s16, s17, s18, s19, s20, s21, s22, s23, s24, s25, s26, s27, s28, u29, u30, u31, u32, u33, u34, u35, u36], []⟩)) ⟨#[s0, s1, .string k, .pointer (some ⟨X3, 0, none⟩), .pointer (some ⟨X4, 0, none⟩), s5, .pointer (some ⟨X6, 0, none⟩), s7, s8, s9, s10, s11, s12, s13, s14, s15, s16, s17, s18, s19, s20, s21, s22, s23, s24, s25, s26, s27, s28, s29, s30, s31, s32, s33, s34, s35, s36], []⟩ w1 := by
  have HRd : Hid (∀ W, Keeps (· = X6) w1 W → Rds X3 X4 X4 #[.int .i64 c.length, .int .i64 c.lateness, .int .i64 c.windows, .int .i64 c.shards, .int .i64 c.spread, .int .i64 c.queue, .int .i64 c.mode, .int .i64 c.slots, .int .i64 c.exact_, .int .u64 c.promote, .int .i64 c.depth, .int .i64 c.width, .int .i64 c.top, .int .i64 c.key, .slice C n0 k0, .slice T q j, .int .u64 c.seed] (smC tot A n cA un R m cR) (smC tot A n cA un R m cR) W) := hide (fun W kW => ⟨b3.kept kW hne.1, ⟨(b4.kept kW hne.2).cell 0, (b4.kept kW hne.2).cell 1, (b4.kept kW hne.2).cell 2, (b4.kept kW hne.2).cell 3⟩, ⟨(b4.kept kW hne.2).cell 0, (b4.kept kW hne.2).cell 1, (b4.kept kW hne.2).cell 2⟩⟩)
  have B6 := hide b6
  have k0' : Keeps (fun _ => False) w1 w1.drew := (Keeps.refl _ _).drew
  have KK : Hid (∀ W, Keeps (fun _ => False) w1 W → Keeps (· = X6) w1 W) := hide (fun W kW => (Keeps.refl (· = X6) w1).step kW (fun _ _ h => h.elim))
  clear b3 b4 b6
  conv => arg 2; whnf
  dsimp only
  refine wp_region_held_drew (S := Rds X3 X4 X4 #[.int .i64 c.length, .int .i64 c.lateness, .int .i64 c.windows, .int .i64 c.shards, .int .i64 c.spread, .int .i64 c.queue, .int .i64 c.mode, .int .i64 c.slots, .int .i64 c.exact_, .int .u64 c.promote, .int .i64 c.depth, .int .i64 c.width, .int .i64 c.top, .int .i64 c.key, .slice C n0 k0, .slice T q j, .int .u64 c.seed] (smC tot A n cA un R m cR) (smC tot A n cA un R m cR)) (by kernel_rfl) (HRd.out _ (KK.out _ k0')) (fun hHeld => ?_)
  refine wpAnyH_take (i := 0) (v := ?_) rfl (by kernel_rfl) (by kernel_rfl) (by kernel_rfl) (fun _ _ _ h => h) (Or.inl ⟨by kernel_rfl, ?_⟩) (by assumption) ?_; rotate_left; focus (intro w hSw; (try dsimp only at hSw); obtain ⟨h0, ⟨h1, h2, h3, h4⟩, ⟨h5, h6, h7⟩⟩ := hSw; go_simp; try (with_reducible rfl)); (try simp only [Act.put, List.setIfInBounds_toArray, List.set_cons_zero, List.set_cons_succ])
  refine wpAnyH_take (i := 1) (v := ?_) rfl (by kernel_rfl) (by kernel_rfl) (by kernel_rfl) (fun _ _ _ h => h) (Or.inl ⟨by kernel_rfl, ?_⟩) (by assumption) ?_; rotate_left; focus (intro w hSw; (try dsimp only at hSw); obtain ⟨h0, ⟨h1, h2, h3, h4⟩, ⟨h5, h6, h7⟩⟩ := hSw; go_simp; try (with_reducible rfl)); (try simp only [Act.put, List.setIfInBounds_toArray, List.set_cons_zero, List.set_cons_succ])
  refine wpAnyH_take (i := 2) (v := ?_) rfl (by kernel_rfl) (by kernel_rfl) (by kernel_rfl) (fun _ _ _ h => h) (Or.inl ⟨by kernel_rfl, ?_⟩) (by assumption) ?_; rotate_left; focus (intro w hSw; (try dsimp only at hSw); obtain ⟨h0, ⟨h1, h2, h3, h4⟩, ⟨h5, h6, h7⟩⟩ := hSw; go_simp; try (with_reducible rfl)); (try simp only [Act.put, List.setIfInBounds_toArray, List.set_cons_zero, List.set_cons_succ])
  refine wpAnyH_take (i := 3) (v := _) rfl (by kernel_rfl) (by kernel_rfl) (by kernel_rfl) (fun _ _ _ h => h) (cfg_yields (c := c) (C := C) (T := T) (n := n0) (k := k0) (q := q) (j := j) (g := X3) (.tmp 3) rfl (fun _ h => h.1) (by simp [Act.eval, Act.put]) (by kernel_rfl)) (by assumption) ?_
  (try simp only [Act.put, List.setIfInBounds_toArray, List.set_cons_zero, List.set_cons_succ])
  refine wpAnyH_take (i := 4) (v := ?_) rfl (by kernel_rfl) (by kernel_rfl) (by kernel_rfl) (fun _ _ _ h => h) (Or.inl ⟨by kernel_rfl, ?_⟩) (by assumption) ?_; rotate_left; focus (intro w hSw; (try dsimp only at hSw); obtain ⟨h0, ⟨h1, h2, h3, h4⟩, ⟨h5, h6, h7⟩⟩ := hSw; go_simp; try (with_reducible rfl)); (try simp only [Act.put, List.setIfInBounds_toArray, List.set_cons_zero, List.set_cons_succ])
  refine wpAnyH_take (i := 5) (v := ?_) rfl (by kernel_rfl) (by kernel_rfl) (by kernel_rfl) (fun _ _ _ h => h) (Or.inl ⟨by kernel_rfl, ?_⟩) (by assumption) ?_; rotate_left; focus (intro w hSw; (try dsimp only at hSw); obtain ⟨h0, ⟨h1, h2, h3, h4⟩, ⟨h5, h6, h7⟩⟩ := hSw; go_simp; try (with_reducible rfl)); (try simp only [Act.put, List.setIfInBounds_toArray, List.set_cons_zero, List.set_cons_succ])
  trace "TAKEN"
  refine wpAnyH_ready (rs := [6]) (by kernel_rfl) (by simp) ?_
  refine AllReadyH.cons rfl (fun K hK => ?_) AllReadyH.nil
  go_simp
  go_at_call 45
  refine (HE.out _ k0').mono ?_
  rintro e W2 ⟨rfl, kk⟩
  have k2 := (k0').trans kk
  try go_wp2_with fail
  refine hK.out _ _ (HRd.out _ (KK.out _ k2)) (fun hHeld => ?_)
  clear hK K kk
  (try simp only [Act.put, List.setIfInBounds_toArray, List.set_cons_zero, List.set_cons_succ])
  trace "EST"
  refine wpAnyH_ready (rs := [7]) (by kernel_rfl) (by simp) ?_
  refine AllReadyH.cons rfl (fun K hK => ?_) AllReadyH.nil
  go_simp
  go_at_call 79
  refine (rcap_any 0 un est W2).mono ?_
  rintro e W3 ⟨rfl, kk⟩
  have k3 := (k2).trans kk
  try go_wp2_with fail
  refine hK.out _ _ (HRd.out _ (KK.out _ k3)) (fun hHeld => ?_)
  clear hK K kk
  (try simp only [Act.put, List.setIfInBounds_toArray, List.set_cons_zero, List.set_cons_succ])
  trace "CAP"
  have B6 := hide (B6.out.kept k3 (fun h => h))
  have q0 := B6.out.cell 0
  have q1 := B6.out.cell 1
  have f0 := B6.out.frozen 0
  have f1 := B6.out.frozen 1
  have hw2 := KK.out _ k3
  refine wpAnyH_ready (rs := [8]) (by kernel_rfl) (by simp) ?_
  refine AllReadyH.cons rfl (fun K hK => ?_) AllReadyH.nil
  go_simp
  have kS : Keeps (· = X6) W3 ((W3.setCell ⟨X6, 0, none⟩ (.int .u64 (imin 0 est))).setCell ⟨X6, 1, none⟩ (.int .u64 (imin un est))) := Keeps.setCell (S := (· = X6)) (p := ⟨X6, 1, none⟩) (Keeps.setCell (S := (· = X6)) (p := ⟨X6, 0, none⟩) (Keeps.refl _ _) (.inl rfl) _) (.inl rfl) _
  have bS := (B6.out.set 0 (.int .u64 (imin 0 est))).set 1 (.int .u64 (imin un est))
  have kT := hw2.trans kS
  refine hK.out _ _ (HRd.out _ kT) (fun hHeld => ?_)
  clear hK K
  (try simp only [Act.put, List.setIfInBounds_toArray, List.set_cons_zero, List.set_cons_succ])
  refine wpAnyH_take (i := 9) (v := ?_) rfl (by kernel_rfl) (by kernel_rfl) (by kernel_rfl) (fun _ _ _ h => h) (Or.inl ⟨by kernel_rfl, ?_⟩) (by assumption) ?_; rotate_left; focus (intro w hSw; (try dsimp only at hSw); obtain ⟨h0, ⟨h1, h2, h3, h4⟩, ⟨h5, h6, h7⟩⟩ := hSw; go_simp; try (with_reducible rfl)); (try simp only [Act.put, List.setIfInBounds_toArray, List.set_cons_zero, List.set_cons_succ])
  refine wpAnyH_done (by kernel_rfl) ?_ _
  refine ⟨⟨bS, kT⟩, ⟨_, _, _, _, _, _, _, _, rfl⟩⟩
end rbd
end Go.Proofs.Ytaiopdipldaimaa

set_option linter.unusedVariables false
set_option linter.unusedSimpArgs false
namespace Go.Proofs.Ytaiopdipldaimaa
open Go.RowKit Cfp
set_option maxRecDepth 100000 in
set_option maxHeartbeats 1000000 in
theorem rbounds_any (w : World) (B : Nat) (c : Cfg) (C T : Option Addr) (n0 k0 q j : Nat) (zs : List Int) (ht : Rd w B T 1 q (zs.map (.int .u64))) (hzb : ∀ z ∈ zs, 0 ≤ z ∧ z < 18446744073709551616) (hs : 0 ≤ c.seed ∧ c.seed < 18446744073709551616)
    (tot un : Int) (A R : Option Addr) (n cA m cR : Nat) (l : List Ln) (F : RowsF) (h : SmIn w B A n l R m F) (hB : B ≤ w.heap.size) (k : ByteArray) (hk : k.size ≤ 140737488351232) :
    Calls Try.prog 43 #[Value.agg #[.int .i64 c.length, .int .i64 c.lateness, .int .i64 c.windows, .int .i64 c.shards, .int .i64 c.spread, .int .i64 c.queue, .int .i64 c.mode, .int .i64 c.slots, .int .i64 c.exact_, .int .u64 c.promote, .int .i64 c.depth, .int .i64 c.width, .int .i64 c.top, .int .i64 c.key, .slice C n0 k0, .slice T q j, .int .u64 c.seed], smV tot A n cA un R m cR, .string k] w fun e w' => e = .returned (.tuple #[bnd (imin (loS l k) (estS tot m F zs c.seed k.data.toList)) (imin (hiS l un k) (estS tot m F zs c.seed k.data.toList)), .bool (decide (keyAt l k < n))]) ∧ Keeps (fun _ => False) w w' := by
  obtain ⟨w4, hw4⟩ : ∃ w4, w4 = ((w.alloc (.cells #[.int .i64 c.length, .int .i64 c.lateness, .int .i64 c.windows, .int .i64 c.shards, .int .i64 c.spread, .int .i64 c.queue, .int .i64 c.mode, .int .i64 c.slots, .int .i64 c.exact_, .int .u64 c.promote, .int .i64 c.depth, .int .i64 c.width, .int .i64 c.top, .int .i64 c.key, .slice C n0 k0, .slice T q j, .int .u64 c.seed] 51)).alloc (.cells (smC tot A n cA un R m cR) 45)).alloc (.cells (bndC 0 0) 81) := ⟨_, rfl⟩
  obtain ⟨g, hg⟩ : ∃ g, g = w.heap.size := ⟨_, rfl⟩
  have k4 : Keeps (fun _ => False) w w4 := by rw [hw4]; exact (((Keeps.refl _ _).alloc _).alloc _).alloc _
  have b3 : Blk w4 g 51 #[.int .i64 c.length, .int .i64 c.lateness, .int .i64 c.windows, .int .i64 c.shards, .int .i64 c.spread, .int .i64 c.queue, .int .i64 c.mode, .int .i64 c.slots, .int .i64 c.exact_, .int .u64 c.promote, .int .i64 c.depth, .int .i64 c.width, .int .i64 c.top, .int .i64 c.key, .slice C n0 k0, .slice T q j, .int .u64 c.seed] := by rw [hw4, hg]; exact ((Blk.new _ _ _).alloc _).alloc _
  have b4 : Blk w4 (g + 1) 45 (smC tot A n cA un R m cR) := by rw [hw4, hg]; exact (Blk.new_at _ _ _ _ (by simp)).alloc _
  have b6 : Blk w4 (g + 1 + 1) 81 (bndC 0 0) := by rw [hw4, hg]; exact Blk.new_at _ _ _ _ (by simp)
  have h4 := h.kept k4 (fun _ _ h => h)
  have t4 := ht.kept k4 (fun _ _ h => h)
  have HE := hide (fun W (kW : Keeps (fun _ => False) w4 W) => rest_any W B c C T n0 k0 q j zs (t4.kept kW (fun _ _ h => h)) hzb hs tot un A R n cA m cR l F (h4.kept kW (fun _ _ h => h)) k hk)
  obtain ⟨est, hest⟩ : ∃ est, est = estS tot m F zs c.seed k.data.toList := ⟨_, rfl⟩
  rw [← hest] at HE ⊢
  obtain ⟨LO, hLO⟩ : ∃ v, v = loS l k := ⟨_, rfl⟩
  obtain ⟨HI, hHI⟩ : ∃ v, v = hiS l un k := ⟨_, rfl⟩
  obtain ⟨FB, hFB⟩ : ∃ v, v = decide (keyAt l k < n) := ⟨_, rfl⟩
  rw [← hLO, ← hHI, ← hFB]
  have HLO := hide hLO
  have HHI := hide hHI
  have HFB := hide hFB
  clear hLO hHI hFB
  have B3 := hide b3
  have B4 := hide b4
  have B6 := hide b6
  have K4 := hide k4
  have H4 := hide h4
  have hX6 := b6.lt
  have c41 : w4.cell? ⟨g + 1, 1, none⟩ = some (.slice A n cA) := b4.cell 1
  have HW4 := hide hw4
  have HG := hide hg
  clear hw4 b3 b4 b6 k4 h4 t4 h ht hzb hest hg
  go_enter Try.func43, Try.ntmps43
  go_upto_region 1 with fail
  rw [← HW4.out]
  trace "R1"
  have HGs : Hid (w.heap.size = g) := hide HG.out.symm
  clear HW4 HG
  generalize hgs : w.heap.size = gs at *
  obtain rfl : gs = g := HGs.out
  clear HGs
  have hn1 := H4.out.n1
  go_wp2_with fail
  trace "LOOP"
  go_loopw [9, 13] (fun _ iv wr => ∃ i : Nat, i ≤ n ∧ iv = .int .i64 i ∧ Hid (∀ (j : Nat) (d : Ln), j < i → l[j]? = some d → (d.key.toList == k.toList) = false) ∧ Hid (Keeps (fun _ => False) w4 wr)) (fun _ iv _ => n - (intOf iv).toNat)
  case atStart => exact ⟨0, by omega, rfl, hide (fun j d h => by omega), hide (Keeps.refl _ _)⟩
  case round =>
    obtain ⟨i, hi, rfl, HJ, KR⟩ := hrel
    have hsr := KR.out.size
    have H4r := hide (H4.out.kept KR.out (fun _ _ h => h))
    have B3r := hide (B3.out.kept KR.out (fun h => h))
    have B4r := hide (B4.out.kept KR.out (fun h => h))
    have B6r := hide (B6.out.kept KR.out (fun h => h))
    by_cases hlt : i < n
    · have HLT : Hid (i + 1 ≤ n) := hlt
      have hil : i < l.length := by rw [H4.out.len]; exact hlt
      obtain ⟨x, hx⟩ : ∃ x, l[i]? = some x := ⟨l[i]'hil, by simp⟩
      obtain ⟨b, off, rfl, hbB, c0, c1, c2⟩ := lnRd_at H4r.out.ents hx (by omega)
      have hiI : (i : Int) < (n : Int) := by omega
      have hi0 : (0 : Int) ≤ (i : Int) := by omega
      have HU := hide (H4.out.num x (List.mem_of_getElem? hx))
      have HX := hide hx
      have b9 := Blk.new wr 99 #[.string x.key, .int .u64 x.lo, .int .u64 x.hi]
      have kN := (Keeps.refl (fun _ => False) wr).alloc (.cells #[.string x.key, .int .u64 x.lo, .int .u64 x.hi] 99)
      have d0 : (wr.alloc (.cells #[.string x.key, .int .u64 x.lo, .int .u64 x.hi] 99)).cell? ⟨wr.heap.size, 0, none⟩ = some (.string x.key) := b9.cell 0
      have B9 := hide b9
      have KN := hide (KR.out.trans kN)
      have KN1 := hide kN
      clear hil hx b9 kN
      by_cases hs : (x.key.toList == k.toList) = true
      · have hp : keyAt l k = i := keyAt_lt HX.out hs HJ.out
        have HLO' : Hid (LO = x.lo) := hide (by have := HLO.out; unfold loS at this; rw [hp, HX.out] at this; exact this)
        have HHI' : Hid (HI = Sat.add x.lo x.hi) := hide (by have := HHI.out; unfold hiS at this; rw [hp, HX.out] at this; exact this)
        have HFB' : Hid (FB = true) := hide (by rw [HFB.out, hp]; simp [hlt])
        clear hp
        go_upto_region 5 with fail
        trace "R5"
        have B3n := hide (B3r.out.kept KN1.out (fun h => h))
        have B4n := hide (B4r.out.kept KN1.out (fun h => h))
        have B6n := hide (B6r.out.kept KN1.out (fun h => h))
        have HEn := hide (fun W (kW : Keeps (fun _ => False) _ W) => HE.out W (KN.out.trans kW))
        have KW : Hid (Keeps (· = gs + 1 + 1) w _) := hide ((Keeps.refl (· = gs + 1 + 1) w).step (K4.out.trans KN.out) (fun _ _ h => h.elim))
        refine Code.wp_mono ?_ (rbd.reg5 _ gs (gs + 1) (gs + 1 + 1) wr.heap.size c C T n0 k0 q j tot un _ R n cA m cR k x ⟨HU.out.1, HU.out.2.1⟩ est HEn B3n.out B4n.out B6n.out B9.out (by omega) _ _ _ _ _ _ _ _ _ _ _ _ _ _ _ _ _ _ _ _ _ _ _ _ _ _ _ _ _ _ _ _)
        intro e a' w9 hex
        cases e <;> (first | exact hex.elim | skip)
        obtain ⟨⟨b6, k9⟩, ⟨u21, u22, u23, u24, u25, u26, u27, rfl⟩⟩ := hex
        have q0 := b6.cell 0
        have q1 := b6.cell 1
        have K9 := hide ((KW.out).step k9 (fun _ _ e => e))
        clear b6 k9
        dsimp only
        trace "LAST"
        go_wp2_with fail
        refine bodyPost_ret (v := .tuple #[bnd (imin LO est) (imin HI est), .bool FB]) (by rw [HLO'.out, HHI'.out, HFB'.out]; simp [results, Try.results43, go_sem, q0, q1]) rfl ⟨rfl, ?_⟩
        exact (Keeps.refl (fun _ => False) w).step K9.out (fun b hb e => by omega)
      · have hs : (x.key.toList == k.toList) = false := by simpa using hs
        have HS := hide hs
        go_wp2_with fail
        go_roundw
        case rel =>
          refine ⟨i + 1, HLT.out, by go_num, hide (fun j d hj hd => ?_), KN⟩
          rcases Nat.lt_or_ge j i with h | h
          · exact HJ.out j d h hd
          · obtain rfl : j = i := by omega
            rw [HX.out] at hd; injection hd with hd; subst hd; exact HS.out
        case measure => have := HLT.out; simp [intOf]; omega
    · obtain rfl : i = n := by omega
      have hp : keyAt l k = l.length := keyAt_no (fun j d hd => HJ.out j d (by rw [← H4.out.len]; exact (List.getElem?_eq_some_iff.1 hd).1) hd)
      have HLO' : Hid (LO = 0) := hide (by have := HLO.out; unfold loS at this; rw [hp, List.getElem?_eq_none (by omega)] at this; exact this)
      have HHI' : Hid (HI = un) := hide (by have := HHI.out; unfold hiS at this; rw [hp, List.getElem?_eq_none (by omega)] at this; exact this)
      have HFB' : Hid (FB = false) := hide (by rw [HFB.out, hp, H4.out.len]; simp)
      clear hp
      go_upto_region 7 with fail
      trace "R7"
      have HEn := hide (fun W (kW : Keeps (fun _ => False) wr W) => HE.out W (KR.out.trans kW))
      have KW : Hid (Keeps (· = gs + 1 + 1) w wr) := hide ((Keeps.refl (· = gs + 1 + 1) w).step (K4.out.trans KR.out) (fun _ _ h => h.elim))
      refine Code.wp_mono ?_ (rbd.reg7 _ gs (gs + 1) (gs + 1 + 1) c C T n0 k0 q j tot un _ R _ cA m cR k est HEn B3r.out B4r.out B6r.out (by omega) _ _ _ _ _ _ _ _ _ _ _ _ _ _ _ _ _ _ _ _ _ _ _ _ _ _ _ _ _ _ _ _ _)
      intro e a' w9 hex
      cases e <;> (first | exact hex.elim | skip)
      obtain ⟨⟨b6, k9⟩, ⟨u29, u30, u31, u32, u33, u34, u35, u36, rfl⟩⟩ := hex
      have q0 := b6.cell 0
      have q1 := b6.cell 1
      have K9 := hide ((KW.out).step k9 (fun _ _ e => e))
      clear b6 k9
      dsimp only
      trace "LAST"
      go_wp2_with fail
      refine bodyPost_ret (v := .tuple #[bnd (imin LO est) (imin HI est), .bool FB]) (by rw [HLO'.out, HHI'.out, HFB'.out]; simp [results, Try.results43, go_sem, q0, q1]) rfl ⟨rfl, ?_⟩
      exact (Keeps.refl (fun _ => False) w).step K9.out (fun b hb e => by omega)
end Go.Proofs.Ytaiopdipldaimaa

set_option linter.unusedVariables false
set_option linter.unusedSimpArgs false
namespace Go.Proofs.Ytaiopdipldaimaa
open Go.RowKit Cfp
namespace sbounds
noncomputable def rg14 : Code := ((Try.f11.body.bind (sbd.findReg 14)).getD .skip)
def Rds (X12 X15 X18 X20 : Nat) (cs ss bs : Array Value) (w : World) : Prop :=
  Blk w X12 51 cs ∧ (w.cell? ⟨X15, 0, none⟩ = ss[0]? ∧ w.cell? ⟨X15, 1, none⟩ = ss[1]? ∧ w.cell? ⟨X15, 2, none⟩ = ss[2]? ∧ w.cell? ⟨X15, 3, none⟩ = ss[3]?) ∧ (w.cell? ⟨X18, 0, none⟩ = bs[0]? ∧ w.cell? ⟨X18, 1, none⟩ = bs[1]? ∧ w.cell? ⟨X20, 0, none⟩ = bs[0]? ∧ w.cell? ⟨X20, 1, none⟩ = bs[1]?)
set_option maxRecDepth 1000000 in
set_option maxHeartbeats 4000000 in
theorem reg14 (w1 : World) (X12 X15 X18 X20 : Nat) (c : Cfg) (C T : Option Addr) (n0 k0 q j : Nat) (tot un : Int) (A R : Option Addr) (n cA m cR : Nat) (k : ByteArray) (lo hi est : Int) (f : Bool)
    (H1 : Hid (∀ W, Keeps (fun _ => False) w1 W → Calls Try.prog 44 #[Value.agg #[.int .i64 c.length, .int .i64 c.lateness, .int .i64 c.windows, .int .i64 c.shards, .int .i64 c.spread, .int .i64 c.queue, .int .i64 c.mode, .int .i64 c.slots, .int .i64 c.exact_, .int .u64 c.promote, .int .i64 c.depth, .int .i64 c.width, .int .i64 c.top, .int .i64 c.key, .slice C n0 k0, .slice T q j, .int .u64 c.seed], smV tot A n cA un R m cR, .string k] W fun e w' => e = .returned (.int .u64 est) ∧ Keeps (fun _ => False) W w'))
    (H2 : Hid (∀ W, Keeps (fun _ => False) w1 W → Calls Try.prog 45 #[Value.agg #[.int .i64 c.length, .int .i64 c.lateness, .int .i64 c.windows, .int .i64 c.shards, .int .i64 c.spread, .int .i64 c.queue, .int .i64 c.mode, .int .i64 c.slots, .int .i64 c.exact_, .int .u64 c.promote, .int .i64 c.depth, .int .i64 c.width, .int .i64 c.top, .int .i64 c.key, .slice C n0 k0, .slice T q j, .int .u64 c.seed], smV tot A n cA un R m cR, .string k] W fun e w' => e = .returned (.int .u64 est) ∧ Keeps (fun _ => False) W w'))
    (b12 : Blk w1 X12 51 #[.int .i64 c.length, .int .i64 c.lateness, .int .i64 c.windows, .int .i64 c.shards, .int .i64 c.spread, .int .i64 c.queue, .int .i64 c.mode, .int .i64 c.slots, .int .i64 c.exact_, .int .u64 c.promote, .int .i64 c.depth, .int .i64 c.width, .int .i64 c.top, .int .i64 c.key, .slice C n0 k0, .slice T q j, .int .u64 c.seed]) (b15 : Blk w1 X15 45 (smC tot A n cA un R m cR)) (b18 : Blk w1 X18 81 (bndC lo hi)) (b20 : Blk w1 X20 81 (bndC lo hi)) (s0 s1 s2 s3 s4 s5 s6 s7 s8 s9 s10 s11 s13 s14 s16 s22 s23 s24 s25 s26 s27 s28 s29 s30 s31 s32 s33 s34 s35 s36 s37 s38 s39 s40 s41 s42 s43 s44 s45 s46 s47 s48 s49 s50 s51 s52 s53 s54 s55 s56 s57 s58 s59 s60 s61 s62 s63 s64 s65 s66 s67 s68 s69 s70 s71 s72 s73 s74 s75 s76 s77 s78 s79 s80 s81 s82 s83 s84 s85 s86 s87 s88 s89 s90 s91 s92 : Value) :
    Code.wp Try.prog rg14 (sbd.NormPost fun a' w' => Keeps (fun _ => False) w1 w' ∧ (∃ u71 u72 u73 u74 u75 u76 u77 u78 u79 u80 u81 u82 u83 u84 u85 u86 u87 u88 : Value, a' = ⟨#[s0, s1, s2, s3, s4, s5, s6, s7, s8, s9, s10, s11, .pointer (some ⟨X12, 0, none⟩), s13, s14, .pointer (some ⟨X15, 0, none⟩), s16, .string k, .pointer (some ⟨X18, 0, none⟩), .bool f, .pointer (some ⟨X20, 0, none⟩), .bool f, s22, s23, s24, s25, s26, s27, s28, s29, s30, s31, s32, s33, s34, s35, s36, s37, s38, s39, s40, s41, s42, s43, s44, s45, s46, s47, s48, s49, s50, s51, s52, s53, s54, s55, s56, s57, s58, s59, s60, s61, s62, s63, s64, s65, s66, s67, s68, s69, s70, u71, u72, u73, u74, u75, u76, u77, u78, u79, u80, u81, u82, u83, u84, u85, u86, u87, u88, .bool false, s90, s91, s92], []⟩)) ⟨#[s0, s1, s2, s3, s4, s5, s6, s7, s8, s9, s10, s11, .pointer (some ⟨X12, 0, none⟩), s13, s14, .pointer (some ⟨X15, 0, none⟩), s16, .string k, .pointer (some ⟨X18, 0, none⟩), .bool f, .pointer (some ⟨X20, 0, none⟩), .bool f, s22, s23, s24, s25, s26, s27, s28, s29, s30, s31, s32, s33, s34, s35, s36, s37, s38, s39, s40, s41, s42, s43, s44, s45, s46, s47, s48, s49, s50, s51, s52, s53, s54, s55, s56, s57, s58, s59, s60, s61, s62, s63, s64, s65, s66, s67, s68, s69, s70, s71, s72, s73, s74, s75, s76, s77, s78, s79, s80, s81, s82, s83, s84, s85, s86, s87, s88, s89, s90, s91, s92], []⟩ w1 := by
  have HRd : Hid (∀ W, Keeps (fun _ => False) w1 W → Rds X12 X15 X18 X20 #[.int .i64 c.length, .int .i64 c.lateness, .int .i64 c.windows, .int .i64 c.shards, .int .i64 c.spread, .int .i64 c.queue, .int .i64 c.mode, .int .i64 c.slots, .int .i64 c.exact_, .int .u64 c.promote, .int .i64 c.depth, .int .i64 c.width, .int .i64 c.top, .int .i64 c.key, .slice C n0 k0, .slice T q j, .int .u64 c.seed] (smC tot A n cA un R m cR) (bndC lo hi) W) := hide (fun W kW => ⟨b12.kept kW (fun h => h), ⟨(b15.kept kW (fun h => h)).cell 0, (b15.kept kW (fun h => h)).cell 1, (b15.kept kW (fun h => h)).cell 2, (b15.kept kW (fun h => h)).cell 3⟩, ⟨(b18.kept kW (fun h => h)).cell 0, (b18.kept kW (fun h => h)).cell 1, (b20.kept kW (fun h => h)).cell 0, (b20.kept kW (fun h => h)).cell 1⟩⟩)
  have kd : Keeps (fun _ => False) w1 w1.drew := (Keeps.refl _ _).drew
  have g1 : (lo == lo) = true := by simp
  have g2 : (hi == hi) = true := by simp
  have g3 : (est == est) = true := by simp
  have g4 : (f == f) = true := by simp
  clear b12 b15 b18 b20
  conv => arg 2; whnf
  dsimp only
  refine wp_region_held_drew (S := Rds X12 X15 X18 X20 #[.int .i64 c.length, .int .i64 c.lateness, .int .i64 c.windows, .int .i64 c.shards, .int .i64 c.spread, .int .i64 c.queue, .int .i64 c.mode, .int .i64 c.slots, .int .i64 c.exact_, .int .u64 c.promote, .int .i64 c.depth, .int .i64 c.width, .int .i64 c.top, .int .i64 c.key, .slice C n0 k0, .slice T q j, .int .u64 c.seed] (smC tot A n cA un R m cR) (bndC lo hi)) (by kernel_rfl) (HRd.out _ kd) (fun hHeld => ?_)
  refine wpAnyH_take (i := 0) (v := ?_) rfl (by kernel_rfl) (by kernel_rfl) (by kernel_rfl) (fun _ _ _ h => h) (Or.inl ⟨by kernel_rfl, ?_⟩) (by assumption) ?_; rotate_left; focus (intro w hSw; (try dsimp only at hSw); obtain ⟨h0, ⟨h1, h2, h3, h4⟩, ⟨h5, h6, h7, h8⟩⟩ := hSw; go_simp; try (with_reducible rfl)); (try simp only [Act.put, List.setIfInBounds_toArray, List.set_cons_zero, List.set_cons_succ])
  refine wpAnyH_take (i := 1) (v := ?_) rfl (by kernel_rfl) (by kernel_rfl) (by kernel_rfl) (fun _ _ _ h => h) (Or.inl ⟨by kernel_rfl, ?_⟩) (by assumption) ?_; rotate_left; focus (intro w hSw; (try dsimp only at hSw); obtain ⟨h0, ⟨h1, h2, h3, h4⟩, ⟨h5, h6, h7, h8⟩⟩ := hSw; go_simp; try (with_reducible rfl)); (try simp only [Act.put, List.setIfInBounds_toArray, List.set_cons_zero, List.set_cons_succ])
  trace "A"
  refine wpAnyH_take (i := 2) (v := ?_) rfl (by kernel_rfl) (by kernel_rfl) (by kernel_rfl) (fun _ _ _ h => h) (Or.inl ⟨by kernel_rfl, ?_⟩) (by assumption) ?_; rotate_left; focus (intro w hSw; (try dsimp only at hSw); obtain ⟨h0, ⟨h1, h2, h3, h4⟩, ⟨h5, h6, h7, h8⟩⟩ := hSw; go_simp; try (with_reducible rfl)); (try simp only [Act.put, List.setIfInBounds_toArray, List.set_cons_zero, List.set_cons_succ])
  trace "B"
  refine wpAnyH_take (i := 3) (v := ?_) rfl (by kernel_rfl) (by kernel_rfl) (by kernel_rfl) (fun _ _ _ h => h) (Or.inl ⟨by kernel_rfl, ?_⟩) (by assumption) ?_; rotate_left; focus (intro w hSw; (try dsimp only at hSw); obtain ⟨h0, ⟨h1, h2, h3, h4⟩, ⟨h5, h6, h7, h8⟩⟩ := hSw; go_simp; try (with_reducible rfl)); (try simp only [Act.put, List.setIfInBounds_toArray, List.set_cons_zero, List.set_cons_succ])
  refine wpAnyH_take (i := 4) (v := ?_) rfl (by kernel_rfl) (by kernel_rfl) (by kernel_rfl) (fun _ _ _ h => h) (Or.inl ⟨by kernel_rfl, ?_⟩) (by assumption) ?_; rotate_left; focus (intro w hSw; (try dsimp only at hSw); obtain ⟨h0, ⟨h1, h2, h3, h4⟩, ⟨h5, h6, h7, h8⟩⟩ := hSw; go_simp; try (with_reducible rfl)); (try simp only [Act.put, List.setIfInBounds_toArray, List.set_cons_zero, List.set_cons_succ])
  refine wpAnyH_take (i := 5) (v := ?_) rfl (by kernel_rfl) (by kernel_rfl) (by kernel_rfl) (fun _ _ _ h => h) (Or.inl ⟨by kernel_rfl, ?_⟩) (by assumption) ?_; rotate_left; focus (intro w hSw; (try dsimp only at hSw); obtain ⟨h0, ⟨h1, h2, h3, h4⟩, ⟨h5, h6, h7, h8⟩⟩ := hSw; go_simp; try (with_reducible rfl)); (try simp only [Act.put, List.setIfInBounds_toArray, List.set_cons_zero, List.set_cons_succ])
  refine wpAnyH_take (i := 6) (v := ?_) rfl (by kernel_rfl) (by kernel_rfl) (by kernel_rfl) (fun _ _ _ h => h) (Or.inl ⟨by kernel_rfl, ?_⟩) (by assumption) ?_; rotate_left; focus (intro w hSw; (try dsimp only at hSw); obtain ⟨h0, ⟨h1, h2, h3, h4⟩, ⟨h5, h6, h7, h8⟩⟩ := hSw; go_simp; try (with_reducible rfl)); (try simp only [Act.put, List.setIfInBounds_toArray, List.set_cons_zero, List.set_cons_succ])
  trace "C"
  refine wpAnyH_take (i := 7) (v := ?_) rfl (by kernel_rfl) (by kernel_rfl) (by kernel_rfl) (fun _ _ _ h => h) (Or.inl ⟨by kernel_rfl, ?_⟩) (by assumption) ?_; rotate_left; focus (intro w hSw; (try dsimp only at hSw); obtain ⟨h0, ⟨h1, h2, h3, h4⟩, ⟨h5, h6, h7, h8⟩⟩ := hSw; go_simp; try (with_reducible rfl)); (try simp only [Act.put, List.setIfInBounds_toArray, List.set_cons_zero, List.set_cons_succ])
  refine wpAnyH_take (i := 8) (v := ?_) rfl (by kernel_rfl) (by kernel_rfl) (by kernel_rfl) (fun _ _ _ h => h) (Or.inl ⟨by kernel_rfl, ?_⟩) (by assumption) ?_; rotate_left; focus (intro w hSw; (try dsimp only at hSw); obtain ⟨h0, ⟨h1, h2, h3, h4⟩, ⟨h5, h6, h7, h8⟩⟩ := hSw; go_simp; try (with_reducible rfl)); (try simp only [Act.put, List.setIfInBounds_toArray, List.set_cons_zero, List.set_cons_succ])
  refine wpAnyH_take (i := 9) (v := _) rfl (by kernel_rfl) (by kernel_rfl) (by kernel_rfl) (fun _ _ _ h => h) (cfg_yields (c := c) (C := C) (T := T) (n := n0) (k := k0) (q := q) (j := j) (g := X12) (.tmp 12) rfl (fun _ h => h.1) (by simp [Act.eval, Act.put]) (by kernel_rfl)) (by assumption) ?_
  (try simp only [Act.put, List.setIfInBounds_toArray, List.set_cons_zero, List.set_cons_succ])
  refine wpAnyH_take (i := 10) (v := ?_) rfl (by kernel_rfl) (by kernel_rfl) (by kernel_rfl) (fun _ _ _ h => h) (Or.inl ⟨by kernel_rfl, ?_⟩) (by assumption) ?_; rotate_left; focus (intro w hSw; (try dsimp only at hSw); obtain ⟨h0, ⟨h1, h2, h3, h4⟩, ⟨h5, h6, h7, h8⟩⟩ := hSw; go_simp; try (with_reducible rfl)); (try simp only [Act.put, List.setIfInBounds_toArray, List.set_cons_zero, List.set_cons_succ])
  refine wpAnyH_take (i := 11) (v := ?_) rfl (by kernel_rfl) (by kernel_rfl) (by kernel_rfl) (fun _ _ _ h => h) (Or.inl ⟨by kernel_rfl, ?_⟩) (by assumption) ?_; rotate_left; focus (intro w hSw; (try dsimp only at hSw); obtain ⟨h0, ⟨h1, h2, h3, h4⟩, ⟨h5, h6, h7, h8⟩⟩ := hSw; go_simp; try (with_reducible rfl)); (try simp only [Act.put, List.setIfInBounds_toArray, List.set_cons_zero, List.set_cons_succ])
  refine wpAnyH_take (i := 13) (v := _) rfl (by kernel_rfl) (by kernel_rfl) (by kernel_rfl) (fun _ _ _ h => h) (cfg_yields (c := c) (C := C) (T := T) (n := n0) (k := k0) (q := q) (j := j) (g := X12) (.tmp 12) rfl (fun _ h => h.1) (by simp [Act.eval, Act.put]) (by kernel_rfl)) (by assumption) ?_
  (try simp only [Act.put, List.setIfInBounds_toArray, List.set_cons_zero, List.set_cons_succ])
  refine wpAnyH_take (i := 14) (v := ?_) rfl (by kernel_rfl) (by kernel_rfl) (by kernel_rfl) (fun _ _ _ h => h) (Or.inl ⟨by kernel_rfl, ?_⟩) (by assumption) ?_; rotate_left; focus (intro w hSw; (try dsimp only at hSw); obtain ⟨h0, ⟨h1, h2, h3, h4⟩, ⟨h5, h6, h7, h8⟩⟩ := hSw; go_simp; try (with_reducible rfl)); (try simp only [Act.put, List.setIfInBounds_toArray, List.set_cons_zero, List.set_cons_succ])
  refine wpAnyH_take (i := 15) (v := ?_) rfl (by kernel_rfl) (by kernel_rfl) (by kernel_rfl) (fun _ _ _ h => h) (Or.inl ⟨by kernel_rfl, ?_⟩) (by assumption) ?_; rotate_left; focus (intro w hSw; (try dsimp only at hSw); obtain ⟨h0, ⟨h1, h2, h3, h4⟩, ⟨h5, h6, h7, h8⟩⟩ := hSw; go_simp; try (with_reducible rfl)); (try simp only [Act.put, List.setIfInBounds_toArray, List.set_cons_zero, List.set_cons_succ])
  trace "D"
  refine wpAnyH_ready (rs := [12]) (by kernel_rfl) (by simp) ?_
  refine AllReadyH.cons rfl (fun K hK => ?_) AllReadyH.nil
  go_simp
  go_at_call 44
  refine (H1.out _ kd).mono ?_
  rintro e W1 ⟨rfl, kk⟩
  have k1 : Keeps (fun _ => False) w1 W1 := (kd).trans kk
  try go_wp2_with fail
  refine hK.out _ _ (HRd.out _ k1) (fun hHeld => ?_)
  clear hK K kk
  (try simp only [Act.put, List.setIfInBounds_toArray, List.set_cons_zero, List.set_cons_succ])
  refine wpAnyH_ready (rs := [16]) (by kernel_rfl) (by simp) ?_
  refine AllReadyH.cons rfl (fun K hK => ?_) AllReadyH.nil
  go_simp
  go_at_call 45
  refine (H2.out _ k1).mono ?_
  rintro e W2 ⟨rfl, kk⟩
  have k2 : Keeps (fun _ => False) w1 W2 := (k1).trans kk
  try go_wp2_with fail
  refine hK.out _ _ (HRd.out _ k2) (fun hHeld => ?_)
  clear hK K kk
  (try simp only [Act.put, List.setIfInBounds_toArray, List.set_cons_zero, List.set_cons_succ])
  trace "E"
  refine wpAnyH_take (i := 17) (v := ?_) rfl (by kernel_rfl) (by kernel_rfl) (by kernel_rfl) (fun _ _ _ h => h) (Or.inl ⟨by kernel_rfl, ?_⟩) (by assumption) ?_; rotate_left; focus (intro w hSw; (try dsimp only at hSw); obtain ⟨h0, ⟨h1, h2, h3, h4⟩, ⟨h5, h6, h7, h8⟩⟩ := hSw; go_simp; try (with_reducible rfl)); (try simp only [Act.put, List.setIfInBounds_toArray, List.set_cons_zero, List.set_cons_succ])
  refine wpAnyH_take (i := 18) (v := ?_) rfl (by kernel_rfl) (by kernel_rfl) (by kernel_rfl) (fun _ _ _ h => h) (Or.inl ⟨by kernel_rfl, ?_⟩) (by assumption) ?_; rotate_left; focus (intro w hSw; (try dsimp only at hSw); obtain ⟨h0, ⟨h1, h2, h3, h4⟩, ⟨h5, h6, h7, h8⟩⟩ := hSw; go_simp; try (with_reducible rfl)); (try simp only [Act.put, List.setIfInBounds_toArray, List.set_cons_zero, List.set_cons_succ])
  refine wpAnyH_done (by kernel_rfl) ?_ _
  refine ⟨k2, ⟨_, _, _, _, _, _, _, _, _, _, _, _, _, _, _, _, _, _, rfl⟩⟩
end sbounds
end Go.Proofs.Ytaiopdipldaimaa

set_option linter.unusedVariables false
set_option linter.unusedSimpArgs false
namespace Go.Proofs.Ytaiopdipldaimaa
open Go.RowKit Cfp
namespace sbounds
def firstLoop : Code → Option Code
  | .loop c => some c
  | .seq a b => match firstLoop a with
    | some c => some c
    | none => firstLoop b
  | .block _ c => firstLoop c
  | .scope c => firstLoop c
  | .cond _ a b => match firstLoop a with
    | some c => some c
    | none => firstLoop b
  | _ => none
def LoopPostK (k : Nat) (W : Act → World → Prop) : Exit → Act → World → Prop
  | .exit i, a, w => i = k ∧ W a w
  | _, _, _ => False
noncomputable def oloop : Code := ((Try.f11.body.bind firstLoop).getD .skip)
noncomputable def iloop : Code := (((Try.f11.body.bind firstLoop).bind firstLoop).getD .skip)
/-- both packages answer alike on a key, in any world kept behind this one -/
def Agree (w1 : World) (cv sv : Value) (k : ByteArray) : Prop := ∃ (lo hi est : Int) (f : Bool),
  (∀ W, Keeps (fun _ => False) w1 W → Calls Try.prog 42 #[cv, sv, .string k] W fun e w' => e = .returned (.tuple #[bnd lo hi, .bool f]) ∧ Keeps (fun _ => False) W w') ∧
  (∀ W, Keeps (fun _ => False) w1 W → Calls Try.prog 43 #[cv, sv, .string k] W fun e w' => e = .returned (.tuple #[bnd lo hi, .bool f]) ∧ Keeps (fun _ => False) W w') ∧
  (∀ W, Keeps (fun _ => False) w1 W → Calls Try.prog 44 #[cv, sv, .string k] W fun e w' => e = .returned (.int .u64 est) ∧ Keeps (fun _ => False) W w') ∧
  (∀ W, Keeps (fun _ => False) w1 W → Calls Try.prog 45 #[cv, sv, .string k] W fun e w' => e = .returned (.int .u64 est) ∧ Keeps (fun _ => False) W w')
theorem Agree.kept {w1 w2 : World} {cv sv : Value} {k : ByteArray} (h : Agree w1 cv sv k) (kk : Keeps (fun _ => False) w1 w2) : Agree w2 cv sv k := by
  obtain ⟨lo, hi, est, f, h1, h2, h3, h4⟩ := h
  exact ⟨lo, hi, est, f, fun W kW => h1 W (kk.trans kW), fun W kW => h2 W (kk.trans kW), fun W kW => h3 W (kk.trans kW), fun W kW => h4 W (kk.trans kW)⟩
set_option maxRecDepth 1000000 in
set_option maxHeartbeats 4000000 in
theorem inner (w6 : World) (X12 X15 GK : Nat) (c : Cfg) (C T : Option Addr) (n0 k0 q j : Nat) (tot un : Int) (A R : Option Addr) (n cA m cR : Nat) (ks : List ByteArray) (hl : ks.length = 3)
    (hF : ∀ k ∈ ks, Agree w6 (Value.agg #[.int .i64 c.length, .int .i64 c.lateness, .int .i64 c.windows, .int .i64 c.shards, .int .i64 c.spread, .int .i64 c.queue, .int .i64 c.mode, .int .i64 c.slots, .int .i64 c.exact_, .int .u64 c.promote, .int .i64 c.depth, .int .i64 c.width, .int .i64 c.top, .int .i64 c.key, .slice C n0 k0, .slice T q j, .int .u64 c.seed]) (smV tot A n cA un R m cR) k)
    (b12 : Blk w6 X12 51 #[.int .i64 c.length, .int .i64 c.lateness, .int .i64 c.windows, .int .i64 c.shards, .int .i64 c.spread, .int .i64 c.queue, .int .i64 c.mode, .int .i64 c.slots, .int .i64 c.exact_, .int .u64 c.promote, .int .i64 c.depth, .int .i64 c.width, .int .i64 c.top, .int .i64 c.key, .slice C n0 k0, .slice T q j, .int .u64 c.seed]) (b15 : Blk w6 X15 45 (smC tot A n cA un R m cR)) (bG : Blk w6 GK 9 (ks.map Value.string).toArray) (s0 s1 s2 s3 s4 s5 s6 s7 s8 s9 s10 s11 s13 s14 s16 s17 s18 s19 s20 s21 s22 s23 s24 s25 s26 s27 s28 s29 s30 s31 s32 s33 s34 s35 s36 s37 s38 s39 s40 s41 s42 s43 s44 s45 s46 s47 s48 s49 s50 s54 s55 s56 s57 s58 s59 s60 s61 s62 s63 s64 s65 s66 s67 s68 s69 s70 s71 s72 s73 s74 s75 s76 s77 s78 s79 s80 s81 s82 s83 s84 s85 s86 s87 s88 s89 s90 s91 s92 : Value) :
    Code.wp Try.prog (Code.loop iloop) (LoopPostK 2 fun a' w' => (∃ u10 u17 u18 u19 u20 u21 u53 u54 u55 u56 u57 u58 u59 u60 u61 u62 u63 u64 u65 u66 u67 u68 u69 u70 u71 u72 u73 u74 u75 u76 u77 u78 u79 u80 u81 u82 u83 u84 u85 u86 u87 u88 u89 u90 : Value, a' = ⟨#[s0, s1, s2, s3, s4, s5, s6, s7, s8, s9, u10, s11, .pointer (some ⟨X12, 0, none⟩), s13, s14, .pointer (some ⟨X15, 0, none⟩), s16, u17, u18, u19, u20, u21, s22, s23, s24, s25, s26, s27, s28, s29, s30, s31, s32, s33, s34, s35, s36, s37, s38, s39, s40, s41, s42, s43, s44, s45, s46, s47, s48, s49, s50, .slice (some ⟨GK, 0, none⟩) 3 3, .int .i64 3, u53, u54, u55, u56, u57, u58, u59, u60, u61, u62, u63, u64, u65, u66, u67, u68, u69, u70, u71, u72, u73, u74, u75, u76, u77, u78, u79, u80, u81, u82, u83, u84, u85, u86, u87, u88, u89, u90, s91, s92], []⟩) ∧ Keeps (fun _ => False) w6 w') ⟨#[s0, s1, s2, s3, s4, s5, s6, s7, s8, s9, s10, s11, .pointer (some ⟨X12, 0, none⟩), s13, s14, .pointer (some ⟨X15, 0, none⟩), s16, s17, s18, s19, s20, s21, s22, s23, s24, s25, s26, s27, s28, s29, s30, s31, s32, s33, s34, s35, s36, s37, s38, s39, s40, s41, s42, s43, s44, s45, s46, s47, s48, s49, s50, .slice (some ⟨GK, 0, none⟩) 3 3, .int .i64 3, .int .i64 0, s54, s55, s56, s57, s58, s59, s60, s61, s62, s63, s64, s65, s66, s67, s68, s69, s70, s71, s72, s73, s74, s75, s76, s77, s78, s79, s80, s81, s82, s83, s84, s85, s86, s87, s88, s89, s90, s91, s92], []⟩ w6 := by
  have HF := hide hF
  have BX := hide b12
  have BS := hide b15
  have BG := hide bG
  have HL := hide hl
  clear hF b12 b15 bG hl
  conv => arg 2; arg 1; whnf
  dsimp only
  go_loopw [53] (fun iv wr => ∃ i : Nat, i ≤ 3 ∧ iv = .int .i64 i ∧ Hid (Keeps (fun _ => False) w6 wr)) (fun iv _ => 3 - (intOf iv).toNat)
  case atStart => exact ⟨0, by omega, rfl, hide (Keeps.refl _ _)⟩
  case round =>
    obtain ⟨i, hi, rfl, KR⟩ := hrel
    by_cases hlt : i < 3
    · have HLT : Hid (i + 1 ≤ 3) := hlt
      obtain ⟨k, hk⟩ : ∃ k, ks[i]? = some k := ⟨ks[i]'(by rw [HL.out]; exact hlt), List.getElem?_eq_getElem _⟩
      have hk0 : wr.cell? ⟨GK, i, none⟩ = some (.string k) := by rw [(BG.out.kept KR.out (fun h => h)).cell]; simp [hk]
      obtain ⟨lo, hh, est, f, h1, h2, h3, h4⟩ := HF.out k (List.mem_of_getElem? hk)
      have H1 := hide h1
      have H2 := hide h2
      have H3 := hide h3
      have H4 := hide h4
      have hiI : (i : Int) < 3 := by omega
      have hi0 : (0 : Int) ≤ (i : Int) := by omega
      have bxr := hide (BX.out.kept KR.out (fun h => h))
      have bsr := hide (BS.out.kept KR.out (fun h => h))
      have y0 : wr.cell? ⟨X15, 0, none⟩ = some (.int .u64 tot) := bsr.out.cell 0
      have y1 : wr.cell? ⟨X15, 1, none⟩ = some (.slice A n cA) := bsr.out.cell 1
      have y2 : wr.cell? ⟨X15, 2, none⟩ = some (.int .u64 un) := bsr.out.cell 2
      have y3 : wr.cell? ⟨X15, 3, none⟩ = some (.slice R m cR) := bsr.out.cell 3
      clear hk h1 h2 h3 h4
      go_wp2_with (refine cfg_ld _ rfl bxr.out rfl (by rfl) ?_; simp only [Act.put, List.setIfInBounds_toArray, List.set_cons_zero, List.set_cons_succ])
      trace "B1"
      refine (H1.out _ KR.out).mono ?_
      rintro e w7 ⟨rfl, k7⟩
      have K7 := hide (KR.out.trans k7)
      have b18 := Blk.new w7 81 (bndC lo hh)
      have kA := (Keeps.refl (fun _ => False) w7).alloc (.cells (bndC lo hh) 81)
      have K8 := hide (K7.out.trans kA)
      have B18 := hide b18
      clear k7 b18 kA y0 y1 y2 y3 hk0 bxr bsr
      go_upto_region 13 with fail
      trace "R13"
      generalize w7.alloc _ = w8 at *
      generalize w7.heap.size = X18 at *
      have bxr := hide (BX.out.kept K8.out (fun h => h))
      have bsr := hide (BS.out.kept K8.out (fun h => h))
      have y0 : w8.cell? ⟨X15, 0, none⟩ = some (.int .u64 tot) := bsr.out.cell 0
      have y1 : w8.cell? ⟨X15, 1, none⟩ = some (.slice A n cA) := bsr.out.cell 1
      have y2 : w8.cell? ⟨X15, 2, none⟩ = some (.int .u64 un) := bsr.out.cell 2
      have y3 : w8.cell? ⟨X15, 3, none⟩ = some (.slice R m cR) := bsr.out.cell 3
      go_wp2_with (refine cfg_ld _ rfl bxr.out rfl (by rfl) ?_; simp only [Act.put, List.setIfInBounds_toArray, List.set_cons_zero, List.set_cons_succ])
      trace "B2"
      refine (H2.out _ K8.out).mono ?_
      rintro e w9 ⟨rfl, k9⟩
      have b20 := Blk.new w9 81 (bndC lo hh)
      have kA := (Keeps.refl (fun _ => False) w9).alloc (.cells (bndC lo hh) 81)
      have K10 := hide ((K8.out.trans k9).trans kA)
      have B20 := hide b20
      have B18 := hide (B18.out.kept (k9.trans kA) (fun h => h))
      clear k9 b20 kA y0 y1 y2 y3 bxr bsr
      go_upto_region 14 with fail
      trace "R14"
      generalize w9.alloc _ = w10 at *
      generalize w9.heap.size = X20 at *
      have H3n := hide (fun W (kW : Keeps (fun _ => False) w10 W) => H3.out W (K10.out.trans kW))
      have H4n := hide (fun W (kW : Keeps (fun _ => False) w10 W) => H4.out W (K10.out.trans kW))
      refine Code.wp_mono ?_ (reg14 w10 X12 X15 X18 X20 c C T n0 k0 q j tot un A R n cA m cR k lo hh est f H3n H4n (BX.out.kept K10.out (fun h => h)) (BS.out.kept K10.out (fun h => h)) B18.out B20.out _ _ _ _ _ _ _ _ _ _ _ _ _ _ _ _ _ _ _ _ _ _ _ _ _ _ _ _ _ _ _ _ _ _ _ _ _ _ _ _ _ _ _ _ _ _ _ _ _ _ _ _ _ _ _ _ _ _ _ _ _ _ _ _ _ _ _ _ _ _ _ _ _ _ _ _ _ _ _ _ _ _ _ _ _ _)
      intro e a' w'' hex
      cases e <;> (first | exact hex.elim | skip)
      obtain ⟨k15, ⟨u71, u72, u73, u74, u75, u76, u77, u78, u79, u80, u81, u82, u83, u84, u85, u86, u87, u88, rfl⟩⟩ := hex
      have K15 := hide (K10.out.trans k15)
      clear k15
      dsimp only
      go_wp2_with fail
      go_roundw
      case rel => exact ⟨i + 1, HLT.out, by go_num, K15⟩
      case measure => have := HLT.out; simp [intOf]; omega
    · obtain rfl : i = 3 := by omega
      go_wp2_with fail
      trace "END"
      refine ⟨rfl, ⟨_, _, _, _, _, _, _, _, _, _, _, _, _, _, _, _, _, _, _, _, _, _, _, _, _, _, _, _, _, _, _, _, _, _, _, _, _, _, _, _, _, _, _, _, rfl⟩, KR.out⟩
end sbounds
end Go.Proofs.Ytaiopdipldaimaa

set_option linter.unusedVariables false
set_option linter.unusedSimpArgs false
namespace Go.Proofs.Ytaiopdipldaimaa
open Go.RowKit Cfp
namespace sbounds
/-- a summary as an element -/
structure Sm where
  tot : Int
  un : Int
  A : Option Addr
  R : Option Addr
  n : Nat
  cA : Nat
  m : Nat
  cR : Nat
def Sm.cells (x : Sm) : List Value := [.int .u64 x.tot, .slice x.A x.n x.cA, .int .u64 x.un, .slice x.R x.m x.cR]
theorem sm_get : ∀ (xs : List Sm) (i : Nat) (x : Sm), xs[i]? = some x → ∀ (t : Nat) (v : Value), x.cells[t]? = some v → (xs.flatMap Sm.cells)[i * 4 + t]? = some v
  | [], i, x, h, t, v, hv => by simp at h
  | y :: xs, 0, x, h, t, v, hv => by
    obtain rfl : y = x := by simpa using h
    have h17 : t < y.cells.length := (List.getElem?_eq_some_iff.1 hv).1
    rw [List.flatMap_cons, Nat.zero_mul, Nat.zero_add, List.getElem?_append_left h17]
    exact hv
  | y :: xs, i + 1, x, h, t, v, hv => by
    have hl : y.cells.length = 4 := rfl
    rw [List.flatMap_cons, List.getElem?_append_right (by rw [hl]; omega), hl, show (i + 1) * 4 + t - 4 = i * 4 + t from by omega]
    exact sm_get xs i x (by simpa using h) t v hv
set_option maxRecDepth 1000000 in
set_option maxHeartbeats 4000000 in
theorem outer (w6 : World) (X12 GS : Nat) (c : Cfg) (C T : Option Addr) (n0 k0 q j : Nat) (xs : List Sm) (hl : xs.length = 3) (key : ByteArray)
    (hF : ∀ x ∈ xs, ∀ k ∈ [key, ⟨#[98]⟩, ⟨#[100]⟩], Agree w6 (Value.agg #[.int .i64 c.length, .int .i64 c.lateness, .int .i64 c.windows, .int .i64 c.shards, .int .i64 c.spread, .int .i64 c.queue, .int .i64 c.mode, .int .i64 c.slots, .int .i64 c.exact_, .int .u64 c.promote, .int .i64 c.depth, .int .i64 c.width, .int .i64 c.top, .int .i64 c.key, .slice C n0 k0, .slice T q j, .int .u64 c.seed]) (smV x.tot x.A x.n x.cA x.un x.R x.m x.cR) k)
    (b12 : Blk w6 X12 51 #[.int .i64 c.length, .int .i64 c.lateness, .int .i64 c.windows, .int .i64 c.shards, .int .i64 c.spread, .int .i64 c.queue, .int .i64 c.mode, .int .i64 c.slots, .int .i64 c.exact_, .int .u64 c.promote, .int .i64 c.depth, .int .i64 c.width, .int .i64 c.top, .int .i64 c.key, .slice C n0 k0, .slice T q j, .int .u64 c.seed]) (bG : Blk w6 GS 45 (xs.flatMap Sm.cells).toArray) (s0 s1 s2 s3 s5 s6 s7 s8 s9 s10 s11 s13 s14 s15 s16 s17 s18 s19 s20 s21 s22 s23 s24 s25 s26 s27 s28 s29 s30 s31 s32 s33 s34 s35 s36 s37 s38 s39 s40 s41 s42 s43 s47 s48 s49 s50 s51 s52 s53 s54 s55 s56 s57 s58 s59 s60 s61 s62 s63 s64 s65 s66 s67 s68 s69 s70 s71 s72 s73 s74 s75 s76 s77 s78 s79 s80 s81 s82 s83 s84 s85 s86 s87 s88 s89 s90 s91 s92 : Value) :
    Code.wp Try.prog (Code.loop oloop) (LoopPostK 0 fun a' w' => (∃ u10 u15 u17 u18 u19 u20 u21 u46 u47 u48 u49 u50 u51 u52 u53 u54 u55 u56 u57 u58 u59 u60 u61 u62 u63 u64 u65 u66 u67 u68 u69 u70 u71 u72 u73 u74 u75 u76 u77 u78 u79 u80 u81 u82 u83 u84 u85 u86 u87 u88 u89 u90 u91 : Value, a' = ⟨#[s0, s1, s2, s3, .string key, s5, s6, s7, s8, s9, u10, s11, .pointer (some ⟨X12, 0, none⟩), s13, s14, u15, s16, u17, u18, u19, u20, u21, s22, s23, s24, s25, s26, s27, s28, s29, s30, s31, s32, s33, s34, s35, s36, s37, s38, s39, s40, s41, s42, s43, .slice (some ⟨GS, 0, none⟩) 3 3, .int .i64 3, u46, u47, u48, u49, u50, u51, u52, u53, u54, u55, u56, u57, u58, u59, u60, u61, u62, u63, u64, u65, u66, u67, u68, u69, u70, u71, u72, u73, u74, u75, u76, u77, u78, u79, u80, u81, u82, u83, u84, u85, u86, u87, u88, u89, u90, u91, s92], []⟩) ∧ Keeps (fun _ => False) w6 w') ⟨#[s0, s1, s2, s3, .string key, s5, s6, s7, s8, s9, s10, s11, .pointer (some ⟨X12, 0, none⟩), s13, s14, s15, s16, s17, s18, s19, s20, s21, s22, s23, s24, s25, s26, s27, s28, s29, s30, s31, s32, s33, s34, s35, s36, s37, s38, s39, s40, s41, s42, s43, .slice (some ⟨GS, 0, none⟩) 3 3, .int .i64 3, .int .i64 0, s47, s48, s49, s50, s51, s52, s53, s54, s55, s56, s57, s58, s59, s60, s61, s62, s63, s64, s65, s66, s67, s68, s69, s70, s71, s72, s73, s74, s75, s76, s77, s78, s79, s80, s81, s82, s83, s84, s85, s86, s87, s88, s89, s90, s91, s92], []⟩ w6 := by
  have HF := hide hF
  have BX := hide b12
  have BG := hide bG
  have HL := hide hl
  clear hF b12 bG hl
  conv => arg 2; arg 1; whnf
  dsimp only
  go_loopw [46] (fun iv wr => ∃ i : Nat, i ≤ 3 ∧ iv = .int .i64 i ∧ Hid (Keeps (fun _ => False) w6 wr)) (fun iv _ => 3 - (intOf iv).toNat)
  case atStart => exact ⟨0, by omega, rfl, hide (Keeps.refl _ _)⟩
  case round =>
    obtain ⟨i, hi, rfl, KR⟩ := hrel
    by_cases hlt : i < 3
    · have HLT : Hid (i + 1 ≤ 3) := hlt
      obtain ⟨x, hx⟩ : ∃ x, xs[i]? = some x := ⟨xs[i]'(by rw [HL.out]; exact hlt), List.getElem?_eq_getElem _⟩
      have HFx := hide (fun k hk => (HF.out x (List.mem_of_getElem? hx) k hk).kept KR.out)
      have hc0 := sm_get xs i x hx
      obtain ⟨tot, un, A, R, n, cA, m, cR⟩ := x
      have hO : ∀ (t : Nat) (v : Value), (Sm.cells ⟨tot, un, A, R, n, cA, m, cR⟩)[t]? = some v → wr.cell? ⟨GS, i * 4 + t, none⟩ = some v := fun t v hv => by
        rw [(BG.out.kept KR.out (fun h => h)).cell, List.getElem?_toArray]
        exact hc0 t v hv
      have y0 : wr.cell? ⟨GS, i * 4, none⟩ = some (.int .u64 tot) := hO 0 _ rfl
      have y1 : wr.cell? ⟨GS, i * 4 + 1, none⟩ = some (.slice A n cA) := hO 1 _ rfl
      have y2 : wr.cell? ⟨GS, i * 4 + 2, none⟩ = some (.int .u64 un) := hO 2 _ rfl
      have y3 : wr.cell? ⟨GS, i * 4 + 3, none⟩ = some (.slice R m cR) := hO 3 _ rfl
      have hi0 : (0 : Int) ≤ (i : Int) := by omega
      have hiI : (i : Int) < 3 := by omega
      have b15 := Blk.new wr 45 (smC tot A n cA un R m cR)
      have kA := (Keeps.refl (fun _ => False) wr).alloc (.cells (smC tot A n cA un R m cR) 45)
      have BS := hide b15
      have KA := hide kA
      clear hx hc0 hO b15 kA
      go_upto_region 9 with fail
      trace "R9"
      generalize wr.alloc _ = w7 at *
      generalize wr.heap.size = X15 at *
      have bG := Blk.new w7 9 ([key, ⟨#[98]⟩, ⟨#[100]⟩].map Value.string).toArray
      have kB := (Keeps.refl (fun _ => False) w7).alloc (.cells ([key, ⟨#[98]⟩, ⟨#[100]⟩].map Value.string).toArray 9)
      have BK := hide bG
      have HW := hide (show w7.alloc (.cells ([key, ⟨#[98]⟩, ⟨#[100]⟩].map Value.string).toArray 9) = w7.alloc (.cells #[.string key, .string ⟨#[98]⟩, .string ⟨#[100]⟩] 9) from rfl)
      have KB := hide (KA.out.trans kB)
      have BS8 := hide (BS.out.kept kB (fun h => h))
      have K8 := hide (KR.out.trans KB.out)
      clear bG kB y0 y1 y2 y3
      go_wp2_with fail
      rw [← HW.out]
      clear HW
      generalize w7.alloc _ = w8 at *
      generalize w7.heap.size = GK at *
      trace "INNER"
      refine Code.wp_mono ?_ (inner w8 X12 X15 GK c C T n0 k0 q j tot un A R n cA m cR [key, ⟨#[98]⟩, ⟨#[100]⟩] rfl (fun k hk => (HFx.out k hk).kept KB.out) (BX.out.kept K8.out (fun h => h)) BS8.out BK.out _ _ _ _ _ _ _ _ _ _ _ _ _ _ _ _ _ _ _ _ _ _ _ _ _ _ _ _ _ _ _ _ _ _ _ _ _ _ _ _ _ _ _ _ _ _ _ _ _ _ _ _ _ _ _ _ _ _ _ _ _ _ _ _ _ _ _ _ _ _ _ _ _ _ _ _ _ _ _ _ _ _ _ _ _ _ _ _)
      intro e a' w'' hex
      cases e <;> (first | exact hex.elim | skip)
      obtain ⟨rfl, ⟨u10, u17, u18, u19, u20, u21, u53, u54, u55, u56, u57, u58, u59, u60, u61, u62, u63, u64, u65, u66, u67, u68, u69, u70, u71, u72, u73, u74, u75, u76, u77, u78, u79, u80, u81, u82, u83, u84, u85, u86, u87, u88, u89, u90, rfl⟩, k15⟩ := hex
      have K15 := hide (K8.out.trans k15)
      clear k15
      dsimp only
      go_wp2_with fail
      go_roundw
      case rel => exact ⟨i + 1, HLT.out, by go_num, K15⟩
      case measure => have := HLT.out; simp [intOf]; omega
    · obtain rfl : i = 3 := by omega
      go_wp2_with fail
      trace "END"
      refine ⟨rfl, ⟨_, _, _, _, _, _, _, _, _, _, _, _, _, _, _, _, _, _, _, _, _, _, _, _, _, _, _, _, _, _, _, _, _, _, _, _, _, _, _, _, _, _, _, _, _, _, _, _, _, _, _, _, _, rfl⟩, KR.out⟩
end sbounds
end Go.Proofs.Ytaiopdipldaimaa
