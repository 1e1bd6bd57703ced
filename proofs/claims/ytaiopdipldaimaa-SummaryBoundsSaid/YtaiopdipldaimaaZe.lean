/-
  The reference's Bounds: its two regions with calls. No conditions beyond those of the statement.
-/
import Derived.Test.YtaiopdipldaimaaYj
set_option linter.unusedVariables false
set_option linter.unusedSimpArgs false
namespace Go.Proofs.Ytaiopdipldaimaa
open Go.RowKit Cfp
namespace rbd
noncomputable def rg5 : Code := ((Try.f43.body.bind (sbd.findReg 5)).getD .skip)
noncomputable def rg7 : Code := ((Try.f43.body.bind (sbd.findReg 7)).getD .skip)
/-- what the regions read -/
def Rds (X3 X4 X9 : Nat) (cs ss es : Array Value) (w : World) : Prop :=
  Blk w X3 51 cs ∧ (w.cell? ⟨X4, 0, none⟩ = ss[0]? ∧ w.cell? ⟨X4, 1, none⟩ = ss[1]? ∧ w.cell? ⟨X4, 2, none⟩ = ss[2]? ∧ w.cell? ⟨X4, 3, none⟩ = ss[3]?) ∧ (w.cell? ⟨X9, 0, none⟩ = es[0]? ∧ w.cell? ⟨X9, 1, none⟩ = es[1]? ∧ w.cell? ⟨X9, 2, none⟩ = es[2]?)
set_option maxRecDepth 1000000 in
set_option maxHeartbeats 4000000 in
theorem reg5 (w1 : World) (X3 X4 X6 X9 : Nat) (c : Cfg) (C T : Option Addr) (n0 k0 q j : Nat) (tot un : Int) (A R : Option Addr) (n cA m cR : Nat) (k : ByteArray) (x : Ln) (hU : U x.lo ∧ U x.hi) (est : Int)
    (HE : Hid (∀ W, Keeps (fun _ => False) w1 W → Calls Try.prog 45 #[Value.agg #[.int .i64 c.length, .int .i64 c.lateness, .int .i64 c.windows, .int .i64 c.shards, .int .i64 c.spread, .int .i64 c.queue, .int .i64 c.mode, .int .i64 c.slots, .int .i64 c.exact_, .int .u64 c.promote, .int .i64 c.depth, .int .i64 c.width, .int .i64 c.top, .int .i64 c.key, .slice C n0 k0, .slice T q j, .int .u64 c.seed], smV tot A n cA un R m cR, .string k] W fun e w' => e = .returned (.int .u64 est) ∧ Keeps (fun _ => False) W w'))
    (b3 : Blk w1 X3 51 #[.int .i64 c.length, .int .i64 c.lateness, .int .i64 c.windows, .int .i64 c.shards, .int .i64 c.spread, .int .i64 c.queue, .int .i64 c.mode, .int .i64 c.slots, .int .i64 c.exact_, .int .u64 c.promote, .int .i64 c.depth, .int .i64 c.width, .int .i64 c.top, .int .i64 c.key, .slice C n0 k0, .slice T q j, .int .u64 c.seed]) (b4 : Blk w1 X4 45 (smC tot A n cA un R m cR)) (b6 : Blk w1 X6 81 (bndC 0 0)) (b9 : Blk w1 X9 99 #[.string x.key, .int .u64 x.lo, .int .u64 x.hi])
    (hne : X3 ≠ X6 ∧ X4 ≠ X6 ∧ X9 ≠ X6) (s0 s1 s5 s7 s8 s10 s11 s12 s13 s14 s15 s16 s17 s18 s19 s20 s21 s22 s23 s24 s25 s26 s27 s28 s29 s30 s31 s32 s33 s34 s35 s36 : Value) :
    Code.wp Try.prog rg5 (sbd.NormPost fun a' w' => (Blk w' X6 81 (bndC (imin x.lo est) (imin (Sat.add x.lo x.hi) est)) ∧ Keeps (· = X6) w1 w') ∧ (∃ u21 u22 u23 u24 u25 u26 u27 : Value, a' = ⟨#[s0, s1, .string k, .pointer (some ⟨X3, 0, none⟩), .pointer (some ⟨X4, 0, none⟩), s5, .pointer (some ⟨X6, 0, none⟩), .bool true, s8, .pointer (some ⟨X9, 0, none⟩), s10, s11, s12, s13, s14, s15, s16, s17, s18, s19, s20, u21, u22, u23, u24, u25, u26, u27, s28, s29, s30, s31, s32, s33, s34, s35, s36], []⟩)) ⟨#[s0, s1, .string k, .pointer (some ⟨X3, 0, none⟩), .pointer (some ⟨X4, 0, none⟩), s5, .pointer (some ⟨X6, 0, none⟩), s7, s8, .pointer (some ⟨X9, 0, none⟩), s10, s11, s12, s13, s14, s15, s16, s17, s18, s19, s20, s21, s22, s23, s24, s25, s26, s27, s28, s29, s30, s31, s32, s33, s34, s35, s36], []⟩ w1 := by
  have HRd : Hid (∀ W, Keeps (· = X6) w1 W → Rds X3 X4 X9 #[.int .i64 c.length, .int .i64 c.lateness, .int .i64 c.windows, .int .i64 c.shards, .int .i64 c.spread, .int .i64 c.queue, .int .i64 c.mode, .int .i64 c.slots, .int .i64 c.exact_, .int .u64 c.promote, .int .i64 c.depth, .int .i64 c.width, .int .i64 c.top, .int .i64 c.key, .slice C n0 k0, .slice T q j, .int .u64 c.seed] (smC tot A n cA un R m cR) #[.string x.key, .int .u64 x.lo, .int .u64 x.hi] W) := hide (fun W kW => ⟨b3.kept kW hne.1, ⟨(b4.kept kW hne.2.1).cell 0, (b4.kept kW hne.2.1).cell 1, (b4.kept kW hne.2.1).cell 2, (b4.kept kW hne.2.1).cell 3⟩, ⟨(b9.kept kW hne.2.2).cell 0, (b9.kept kW hne.2.2).cell 1, (b9.kept kW hne.2.2).cell 2⟩⟩)
  have B6 := hide b6
  have k0' : Keeps (fun _ => False) w1 w1.drew := (Keeps.refl _ _).drew
  have KK : Hid (∀ W, Keeps (fun _ => False) w1 W → Keeps (· = X6) w1 W) := hide (fun W kW => (Keeps.refl (· = X6) w1).step kW (fun _ _ h => h.elim))
  clear b3 b4 b6 b9
  conv => arg 2; whnf
  dsimp only
  refine wp_region_held_drew (S := Rds X3 X4 X9 #[.int .i64 c.length, .int .i64 c.lateness, .int .i64 c.windows, .int .i64 c.shards, .int .i64 c.spread, .int .i64 c.queue, .int .i64 c.mode, .int .i64 c.slots, .int .i64 c.exact_, .int .u64 c.promote, .int .i64 c.depth, .int .i64 c.width, .int .i64 c.top, .int .i64 c.key, .slice C n0 k0, .slice T q j, .int .u64 c.seed] (smC tot A n cA un R m cR) #[.string x.key, .int .u64 x.lo, .int .u64 x.hi]) (by kernel_rfl) (HRd.out _ (KK.out _ k0')) (fun hHeld => ?_)
  refine wpAnyH_take (i := 0) (v := ?_) rfl (by kernel_rfl) (by kernel_rfl) (by kernel_rfl) (fun _ _ _ h => h) (Or.inl ⟨by kernel_rfl, ?_⟩) (by assumption) ?_; rotate_left; focus (intro w hSw; (try dsimp only at hSw); obtain ⟨h0, ⟨h1, h2, h3, h4⟩, ⟨h5, h6, h7⟩⟩ := hSw; go_simp; try (with_reducible rfl)); (try simp only [Act.put, List.setIfInBounds_toArray, List.set_cons_zero, List.set_cons_succ])
  refine wpAnyH_take (i := 2) (v := _) rfl (by kernel_rfl) (by kernel_rfl) (by kernel_rfl) (fun _ _ _ h => h) (cfg_yields (c := c) (C := C) (T := T) (n := n0) (k := k0) (q := q) (j := j) (g := X3) (.tmp 3) rfl (fun _ h => h.1) (by simp [Act.eval, Act.put]) (by kernel_rfl)) (by assumption) ?_
  (try simp only [Act.put, List.setIfInBounds_toArray, List.set_cons_zero, List.set_cons_succ])
  refine wpAnyH_take (i := 3) (v := ?_) rfl (by kernel_rfl) (by kernel_rfl) (by kernel_rfl) (fun _ _ _ h => h) (Or.inl ⟨by kernel_rfl, ?_⟩) (by assumption) ?_; rotate_left; focus (intro w hSw; (try dsimp only at hSw); obtain ⟨h0, ⟨h1, h2, h3, h4⟩, ⟨h5, h6, h7⟩⟩ := hSw; go_simp; try (with_reducible rfl)); (try simp only [Act.put, List.setIfInBounds_toArray, List.set_cons_zero, List.set_cons_succ])
  refine wpAnyH_take (i := 4) (v := ?_) rfl (by kernel_rfl) (by kernel_rfl) (by kernel_rfl) (fun _ _ _ h => h) (Or.inl ⟨by kernel_rfl, ?_⟩) (by assumption) ?_; rotate_left; focus (intro w hSw; (try dsimp only at hSw); obtain ⟨h0, ⟨h1, h2, h3, h4⟩, ⟨h5, h6, h7⟩⟩ := hSw; go_simp; try (with_reducible rfl)); (try simp only [Act.put, List.setIfInBounds_toArray, List.set_cons_zero, List.set_cons_succ])
  trace "TAKEN"
  refine wpAnyH_ready (rs := [1]) (by kernel_rfl) (by simp) ?_
  refine AllReadyH.cons rfl (fun K hK => ?_) AllReadyH.nil
  go_simp
  go_at_call 80
  refine (rofe_any x.key x.lo x.hi hU.1 hU.2 _).mono ?_
  rintro e W1 ⟨rfl, kk⟩
  have k1 := (k0').trans kk
  try go_wp2_with fail
  refine hK.out _ _ (HRd.out _ (KK.out _ k1)) (fun hHeld => ?_)
  clear hK K kk
  (try simp only [Act.put, List.setIfInBounds_toArray, List.set_cons_zero, List.set_cons_succ])
  trace "OF"
  refine wpAnyH_ready (rs := [5]) (by kernel_rfl) (by simp) ?_
  refine AllReadyH.cons rfl (fun K hK => ?_) AllReadyH.nil
  go_simp
  go_at_call 45
  refine (HE.out _ k1).mono ?_
  rintro e W2 ⟨rfl, kk⟩
  have k2 := (k1).trans kk
  try go_wp2_with fail
  refine hK.out _ _ (HRd.out _ (KK.out _ k2)) (fun hHeld => ?_)
  clear hK K kk
  (try simp only [Act.put, List.setIfInBounds_toArray, List.set_cons_zero, List.set_cons_succ])
  trace "EST"
  refine wpAnyH_ready (rs := [6]) (by kernel_rfl) (by simp) ?_
  refine AllReadyH.cons rfl (fun K hK => ?_) AllReadyH.nil
  go_simp
  go_at_call 79
  refine (rcap_any x.lo (Sat.add x.lo x.hi) est W2).mono ?_
  rintro e W3 ⟨rfl, kk⟩
  have k3 := (k2).trans kk
  try go_wp2_with fail
  refine hK.out _ _ (HRd.out _ (KK.out _ k3)) (fun hHeld => ?_)
  clear hK K kk
  (try simp only [Act.put, List.setIfInBounds_toArray, List.set_cons_zero, List.set_cons_succ])
  trace "CAP"
  have B6 := hide (B6.out.kept k3 (fun h => h))
  have q0 := B6.out.cell 0
  have q1 := B6.out.cell 1
  have f0 := B6.out.frozen 0
  have f1 := B6.out.frozen 1
  have hw2 := KK.out _ k3
  refine wpAnyH_ready (rs := [7]) (by kernel_rfl) (by simp) ?_
  refine AllReadyH.cons rfl (fun K hK => ?_) AllReadyH.nil
  go_simp
  have kS : Keeps (· = X6) W3 ((W3.setCell ⟨X6, 0, none⟩ (.int .u64 (imin x.lo est))).setCell ⟨X6, 1, none⟩ (.int .u64 (imin (Sat.add x.lo x.hi) est))) := Keeps.setCell (S := (· = X6)) (p := ⟨X6, 1, none⟩) (Keeps.setCell (S := (· = X6)) (p := ⟨X6, 0, none⟩) (Keeps.refl _ _) (.inl rfl) _) (.inl rfl) _
  have bS := (B6.out.set 0 (.int .u64 (imin x.lo est))).set 1 (.int .u64 (imin (Sat.add x.lo x.hi) est))
  have kT := hw2.trans kS
  refine hK.out _ _ (HRd.out _ kT) (fun hHeld => ?_)
  clear hK K
  (try simp only [Act.put, List.setIfInBounds_toArray, List.set_cons_zero, List.set_cons_succ])
  refine wpAnyH_take (i := 8) (v := ?_) rfl (by kernel_rfl) (by kernel_rfl) (by kernel_rfl) (fun _ _ _ h => h) (Or.inl ⟨by kernel_rfl, ?_⟩) (by assumption) ?_; rotate_left; focus (intro w hSw; (try dsimp only at hSw); obtain ⟨h0, ⟨h1, h2, h3, h4⟩, ⟨h5, h6, h7⟩⟩ := hSw; go_simp; try (with_reducible rfl)); (try simp only [Act.put, List.setIfInBounds_toArray, List.set_cons_zero, List.set_cons_succ])
  refine wpAnyH_done (by kernel_rfl) ?_ _
  refine ⟨⟨bS, kT⟩, ⟨_, _, _, _, _, _, _, rfl⟩⟩
set_option maxRecDepth 1000000 in
set_option maxHeartbeats 4000000 in
theorem reg7 (w1 : World) (X3 X4 X6 : Nat) (c : Cfg) (C T : Option Addr) (n0 k0 q j : Nat) (tot un : Int) (A R : Option Addr) (n cA m cR : Nat) (k : ByteArray) (est : Int)
    (HE : Hid (∀ W, Keeps (fun _ => False) w1 W → Calls Try.prog 45 #[Value.agg #[.int .i64 c.length, .int .i64 c.lateness, .int .i64 c.windows, .int .i64 c.shards, .int .i64 c.spread, .int .i64 c.queue, .int .i64 c.mode, .int .i64 c.slots, .int .i64 c.exact_, .int .u64 c.promote, .int .i64 c.depth, .int .i64 c.width, .int .i64 c.top, .int .i64 c.key, .slice C n0 k0, .slice T q j, .int .u64 c.seed], smV tot A n cA un R m cR, .string k] W fun e w' => e = .returned (.int .u64 est) ∧ Keeps (fun _ => False) W w'))
    (b3 : Blk w1 X3 51 #[.int .i64 c.length, .int .i64 c.lateness, .int .i64 c.windows, .int .i64 c.shards, .int .i64 c.spread, .int .i64 c.queue, .int .i64 c.mode, .int .i64 c.slots, .int .i64 c.exact_, .int .u64 c.promote, .int .i64 c.depth, .int .i64 c.width, .int .i64 c.top, .int .i64 c.key, .slice C n0 k0, .slice T q j, .int .u64 c.seed]) (b4 : Blk w1 X4 45 (smC tot A n cA un R m cR)) (b6 : Blk w1 X6 81 (bndC 0 0))
    (hne : X3 ≠ X6 ∧ X4 ≠ X6) (s0 s1 s5 s7 s8 s9 s10 s11 s12 s13 s14 s15 s16 s17 s18 s19 s20 s21 s22 s23 s24 s25 s26 s27 s28 s29 s30 s31 s32 s33 s34 s35 s36 : Value) :
    Code.wp Try.prog rg7 (sbd.NormPost fun a' w' => (Blk w' X6 81 (bndC (imin 0 est) (imin un est)) ∧ Keeps (· = X6) w1 w') ∧ (∃ u29 u30 u31 u32 u33 u34 u35 u36 : Value, a' = ⟨#[s0, s1, .string k, .pointer (some ⟨X3, 0, none⟩), .pointer (some ⟨X4, 0, none⟩), s5, .pointer (some ⟨X6, 0, none⟩), .bool false, s8, s9, s10, s11, s12, s13, s14, s15, s16, s17, s18, s19, s20, s21, s22, s23, s24, s25, s26, s27, s28, u29, u30, u31, u32, u33, u34, u35, u36], []⟩)) ⟨#[s0, s1, .string k, .pointer (some ⟨X3, 0, none⟩), .pointer (some ⟨X4, 0, none⟩), s5, .pointer (some ⟨X6, 0, none⟩), s7, s8, s9, s10, s11, s12, s13, s14, s15, s16, s17, s18, s19, s20, s21, s22, s23, s24, s25, s26, s27, s28, s29, s30, s31, s32, s33, s34, s35, s36], []⟩ w1 := by
  have HRd : Hid (∀ W, Keeps (· = X6) w1 W → Rds X3 X4 X4 #[.int .i64 c.length, .int .i64 c.lateness, .int .i64 c.windows, .int .i64 c.shards, .int .i64 c.spread, .int .i64 c.queue, .int .i64 c.mode, .int .i64 c.slots, .int .i64 c.exact_, .int .u64 c.promote, .int .i64 c.depth, .int .i64 c.width, .int .i64 c.top, .int .i64 c.key, .slice C n0 k0, .slice T q j, .int .u64 c.seed] (smC tot A n cA un R m cR) (smC tot A n cA un R m cR) W) := hide (fun W kW => ⟨b3.kept kW hne.1, ⟨(b4.kept kW hne.2).cell 0, (b4.kept kW hne.2).cell 1, (b4.kept kW hne.2).cell 2, (b4.kept kW hne.2).cell 3⟩, ⟨(b4.kept kW hne.2).cell 0, (b4.kept kW hne.2).cell 1, (b4.kept kW hne.2).cell 2⟩⟩)
  have B6 := hide b6
  have k0' : Keeps (fun _ => False) w1 w1.drew := (Keeps.refl _ _).drew
  have KK : Hid (∀ W, Keeps (fun _ => False) w1 W → Keeps (· = X6) w1 W) := hide (fun W kW => (Keeps.refl (· = X6) w1).step kW (fun _ _ h => h.elim))
  clear b3 b4 b6
  conv => arg 2; whnf
  dsimp only
  refine wp_region_held_drew (S := Rds X3 X4 X4 #[.int .i64 c.length, .int .i64 c.lateness, .int .i64 c.windows, .int .i64 c.shards, .int .i64 c.spread, .int .i64 c.queue, .int .i64 c.mode, .int .i64 c.slots, .int .i64 c.exact_, .int .u64 c.promote, .int .i64 c.depth, .int .i64 c.width, .int .i64 c.top, .int .i64 c.key, .slice C n0 k0, .slice T q j, .int .u64 c.seed] (smC tot A n cA un R m cR) (smC tot A n cA un R m cR)) (by kernel_rfl) (HRd.out _ (KK.out _ k0')) (fun hHeld => ?_)
  refine wpAnyH_take (i := 0) (v := ?_) rfl (by kernel_rfl) (by kernel_rfl) (by kernel_rfl) (fun _ _ _ h => h) (Or.inl ⟨by kernel_rfl, ?_⟩) (by assumption) ?_; rotate_left; focus (intro w hSw; (try dsimp only at hSw); obtain ⟨h0, ⟨h1, h2, h3, h4⟩, ⟨h5, h6, h7⟩⟩ := hSw; go_simp; try (with_reducible rfl)); (try simp only [Act.put, List.setIfInBounds_toArray, List.set_cons_zero, List.set_cons_succ])
  refine wpAnyH_take (i := 1) (v := ?_) rfl (by kernel_rfl) (by kernel_rfl) (by kernel_rfl) (fun _ _ _ h => h) (Or.inl ⟨by kernel_rfl, ?_⟩) (by assumption) ?_; rotate_left; focus (intro w hSw; (try dsimp only at hSw); obtain ⟨h0, ⟨h1, h2, h3, h4⟩, ⟨h5, h6, h7⟩⟩ := hSw; go_simp; try (with_reducible rfl)); (try simp only [Act.put, List.setIfInBounds_toArray, List.set_cons_zero, List.set_cons_succ])
  refine wpAnyH_take (i := 2) (v := ?_) rfl (by kernel_rfl) (by kernel_rfl) (by kernel_rfl) (fun _ _ _ h => h) (Or.inl ⟨by kernel_rfl, ?_⟩) (by assumption) ?_; rotate_left; focus (intro w hSw; (try dsimp only at hSw); obtain ⟨h0, ⟨h1, h2, h3, h4⟩, ⟨h5, h6, h7⟩⟩ := hSw; go_simp; try (with_reducible rfl)); (try simp only [Act.put, List.setIfInBounds_toArray, List.set_cons_zero, List.set_cons_succ])
  refine wpAnyH_take (i := 3) (v := _) rfl (by kernel_rfl) (by kernel_rfl) (by kernel_rfl) (fun _ _ _ h => h) (cfg_yields (c := c) (C := C) (T := T) (n := n0) (k := k0) (q := q) (j := j) (g := X3) (.tmp 3) rfl (fun _ h => h.1) (by simp [Act.eval, Act.put]) (by kernel_rfl)) (by assumption) ?_
  (try simp only [Act.put, List.setIfInBounds_toArray, List.set_cons_zero, List.set_cons_succ])
  refine wpAnyH_take (i := 4) (v := ?_) rfl (by kernel_rfl) (by kernel_rfl) (by kernel_rfl) (fun _ _ _ h => h) (Or.inl ⟨by kernel_rfl, ?_⟩) (by assumption) ?_; rotate_left; focus (intro w hSw; (try dsimp only at hSw); obtain ⟨h0, ⟨h1, h2, h3, h4⟩, ⟨h5, h6, h7⟩⟩ := hSw; go_simp; try (with_reducible rfl)); (try simp only [Act.put, List.setIfInBounds_toArray, List.set_cons_zero, List.set_cons_succ])
  refine wpAnyH_take (i := 5) (v := ?_) rfl (by kernel_rfl) (by kernel_rfl) (by kernel_rfl) (fun _ _ _ h => h) (Or.inl ⟨by kernel_rfl, ?_⟩) (by assumption) ?_; rotate_left; focus (intro w hSw; (try dsimp only at hSw); obtain ⟨h0, ⟨h1, h2, h3, h4⟩, ⟨h5, h6, h7⟩⟩ := hSw; go_simp; try (with_reducible rfl)); (try simp only [Act.put, List.setIfInBounds_toArray, List.set_cons_zero, List.set_cons_succ])
  trace "TAKEN"
  refine wpAnyH_ready (rs := [6]) (by kernel_rfl) (by simp) ?_
  refine AllReadyH.cons rfl (fun K hK => ?_) AllReadyH.nil
  go_simp
  go_at_call 45
  refine (HE.out _ k0').mono ?_
  rintro e W2 ⟨rfl, kk⟩
  have k2 := (k0').trans kk
  try go_wp2_with fail
  refine hK.out _ _ (HRd.out _ (KK.out _ k2)) (fun hHeld => ?_)
  clear hK K kk
  (try simp only [Act.put, List.setIfInBounds_toArray, List.set_cons_zero, List.set_cons_succ])
  trace "EST"
  refine wpAnyH_ready (rs := [7]) (by kernel_rfl) (by simp) ?_
  refine AllReadyH.cons rfl (fun K hK => ?_) AllReadyH.nil
  go_simp
  go_at_call 79
  refine (rcap_any 0 un est W2).mono ?_
  rintro e W3 ⟨rfl, kk⟩
  have k3 := (k2).trans kk
  try go_wp2_with fail
  refine hK.out _ _ (HRd.out _ (KK.out _ k3)) (fun hHeld => ?_)
  clear hK K kk
  (try simp only [Act.put, List.setIfInBounds_toArray, List.set_cons_zero, List.set_cons_succ])
  trace "CAP"
  have B6 := hide (B6.out.kept k3 (fun h => h))
  have q0 := B6.out.cell 0
  have q1 := B6.out.cell 1
  have f0 := B6.out.frozen 0
  have f1 := B6.out.frozen 1
  have hw2 := KK.out _ k3
  refine wpAnyH_ready (rs := [8]) (by kernel_rfl) (by simp) ?_
  refine AllReadyH.cons rfl (fun K hK => ?_) AllReadyH.nil
  go_simp
  have kS : Keeps (· = X6) W3 ((W3.setCell ⟨X6, 0, none⟩ (.int .u64 (imin 0 est))).setCell ⟨X6, 1, none⟩ (.int .u64 (imin un est))) := Keeps.setCell (S := (· = X6)) (p := ⟨X6, 1, none⟩) (Keeps.setCell (S := (· = X6)) (p := ⟨X6, 0, none⟩) (Keeps.refl _ _) (.inl rfl) _) (.inl rfl) _
  have bS := (B6.out.set 0 (.int .u64 (imin 0 est))).set 1 (.int .u64 (imin un est))
  have kT := hw2.trans kS
  refine hK.out _ _ (HRd.out _ kT) (fun hHeld => ?_)
  clear hK K
  (try simp only [Act.put, List.setIfInBounds_toArray, List.set_cons_zero, List.set_cons_succ])
  refine wpAnyH_take (i := 9) (v := ?_) rfl (by kernel_rfl) (by kernel_rfl) (by kernel_rfl) (fun _ _ _ h => h) (Or.inl ⟨by kernel_rfl, ?_⟩) (by assumption) ?_; rotate_left; focus (intro w hSw; (try dsimp only at hSw); obtain ⟨h0, ⟨h1, h2, h3, h4⟩, ⟨h5, h6, h7⟩⟩ := hSw; go_simp; try (with_reducible rfl)); (try simp only [Act.put, List.setIfInBounds_toArray, List.set_cons_zero, List.set_cons_succ])
  refine wpAnyH_done (by kernel_rfl) ?_ _
  refine ⟨⟨bS, kT⟩, ⟨_, _, _, _, _, _, _, _, rfl⟩⟩
end rbd
end Go.Proofs.Ytaiopdipldaimaa
