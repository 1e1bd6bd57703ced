/-
  SummaryBounds: the region that compares both bounds and both estimates. No conditions beyond those of the statement.
-/
import Derived.Test.YtaiopdipldaimaaZf
import Derived.Test.YtaiopdipldaimaaLd
set_option linter.unusedVariables false
set_option linter.unusedSimpArgs false
namespace Go.Proofs.Ytaiopdipldaimaa
open Go.RowKit Cfp
namespace sbounds
noncomputable def rg14 : Code := ((Try.f11.body.bind (sbd.findReg 14)).getD .skip)
def Rds (X12 X15 X18 X20 : Nat) (cs ss bs : Array Value) (w : World) : Prop :=
  Blk w X12 51 cs ∧ (w.cell? ⟨X15, 0, none⟩ = ss[0]? ∧ w.cell? ⟨X15, 1, none⟩ = ss[1]? ∧ w.cell? ⟨X15, 2, none⟩ = ss[2]? ∧ w.cell? ⟨X15, 3, none⟩ = ss[3]?) ∧ (w.cell? ⟨X18, 0, none⟩ = bs[0]? ∧ w.cell? ⟨X18, 1, none⟩ = bs[1]? ∧ w.cell? ⟨X20, 0, none⟩ = bs[0]? ∧ w.cell? ⟨X20, 1, none⟩ = bs[1]?)
set_option maxRecDepth 1000000 in
set_option maxHeartbeats 4000000 in
theorem reg14 (w1 : World) (X12 X15 X18 X20 : Nat) (c : Cfg) (C T : Option Addr) (n0 k0 q j : Nat) (tot un : Int) (A R : Option Addr) (n cA m cR : Nat) (k : ByteArray) (lo hi est : Int) (f : Bool)
    (H1 : Hid (∀ W, Keeps (fun _ => False) w1 W → Calls Try.prog 44 #[Value.agg #[.int .i64 c.length, .int .i64 c.lateness, .int .i64 c.windows, .int .i64 c.shards, .int .i64 c.spread, .int .i64 c.queue, .int .i64 c.mode, .int .i64 c.slots, .int .i64 c.exact_, .int .u64 c.promote, .int .i64 c.depth, .int .i64 c.width, .int .i64 c.top, .int .i64 c.key, .slice C n0 k0, .slice T q j, .int .u64 c.seed], smV tot A n cA un R m cR, .string k] W fun e w' => e = .returned (.int .u64 est) ∧ Keeps (fun _ => False) W w'))
    (H2 : Hid (∀ W, Keeps (fun _ => False) w1 W → Calls Try.prog 45 #[Value.agg #[.int .i64 c.length, .int .i64 c.lateness, .int .i64 c.windows, .int .i64 c.shards, .int .i64 c.spread, .int .i64 c.queue, .int .i64 c.mode, .int .i64 c.slots, .int .i64 c.exact_, .int .u64 c.promote, .int .i64 c.depth, .int .i64 c.width, .int .i64 c.top, .int .i64 c.key, .slice C n0 k0, .slice T q j, .int .u64 c.seed], smV tot A n cA un R m cR, .string k] W fun e w' => e = .returned (.int .u64 est) ∧ Keeps (fun _ => False) W w'))
    (b12 : Blk w1 X12 51 #[.int .i64 c.length, .int .i64 c.lateness, .int .i64 c.windows, .int .i64 c.shards, .int .i64 c.spread, .int .i64 c.queue, .int .i64 c.mode, .int .i64 c.slots, .int .i64 c.exact_, .int .u64 c.promote, .int .i64 c.depth, .int .i64 c.width, .int .i64 c.top, .int .i64 c.key, .slice C n0 k0, .slice T q j, .int .u64 c.seed]) (b15 : Blk w1 X15 45 (smC tot A n cA un R m cR)) (b18 : Blk w1 X18 81 (bndC lo hi)) (b20 : Blk w1 X20 81 (bndC lo hi)) (s0 s1 s2 s3 s4 s5 s6 s7 s8 s9 s10 s11 s13 s14 s16 s22 s23 s24 s25 s26 s27 s28 s29 s30 s31 s32 s33 s34 s35 s36 s37 s38 s39 s40 s41 s42 s43 s44 s45 s46 s47 s48 s49 s50 s51 s52 s53 s54 s55 s56 s57 s58 s59 s60 s61 s62 s63 s64 s65 s66 s67 s68 s69 s70 s71 s72 s73 s74 s75 s76 s77 s78 s79 s80 s81 s82 s83 s84 s85 s86 s87 s88 s89 s90 s91 s92 : Value) :
    Code.wp Try.prog rg14 (sbd.NormPost fun a' w' => Keeps (fun _ => False) w1 w' ∧ (∃ u71 u72 u73 u74 u75 u76 u77 u78 u79 u80 u81 u82 u83 u84 u85 u86 u87 u88 : Value, a' = ⟨#[s0, s1, s2, s3, s4, s5, s6, s7, s8, s9, s10, s11, .pointer (some ⟨X12, 0, none⟩), s13, s14, .pointer (some ⟨X15, 0, none⟩), s16, .string k, .pointer (some ⟨X18, 0, none⟩), .bool f, .pointer (some ⟨X20, 0, none⟩), .bool f, s22, s23, s24, s25, s26, s27, s28, s29, s30, s31, s32, s33, s34, s35, s36, s37, s38, s39, s40, s41, s42, s43, s44, s45, s46, s47, s48, s49, s50, s51, s52, s53, s54, s55, s56, s57, s58, s59, s60, s61, s62, s63, s64, s65, s66, s67, s68, s69, s70, u71, u72, u73, u74, u75, u76, u77, u78, u79, u80, u81, u82, u83, u84, u85, u86, u87, u88, .bool false, s90, s91, s92], []⟩)) ⟨#[s0, s1, s2, s3, s4, s5, s6, s7, s8, s9, s10, s11, .pointer (some ⟨X12, 0, none⟩), s13, s14, .pointer (some ⟨X15, 0, none⟩), s16, .string k, .pointer (some ⟨X18, 0, none⟩), .bool f, .pointer (some ⟨X20, 0, none⟩), .bool f, s22, s23, s24, s25, s26, s27, s28, s29, s30, s31, s32, s33, s34, s35, s36, s37, s38, s39, s40, s41, s42, s43, s44, s45, s46, s47, s48, s49, s50, s51, s52, s53, s54, s55, s56, s57, s58, s59, s60, s61, s62, s63, s64, s65, s66, s67, s68, s69, s70, s71, s72, s73, s74, s75, s76, s77, s78, s79, s80, s81, s82, s83, s84, s85, s86, s87, s88, s89, s90, s91, s92], []⟩ w1 := by
  have HRd : Hid (∀ W, Keeps (fun _ => False) w1 W → Rds X12 X15 X18 X20 #[.int .i64 c.length, .int .i64 c.lateness, .int .i64 c.windows, .int .i64 c.shards, .int .i64 c.spread, .int .i64 c.queue, .int .i64 c.mode, .int .i64 c.slots, .int .i64 c.exact_, .int .u64 c.promote, .int .i64 c.depth, .int .i64 c.width, .int .i64 c.top, .int .i64 c.key, .slice C n0 k0, .slice T q j, .int .u64 c.seed] (smC tot A n cA un R m cR) (bndC lo hi) W) := hide (fun W kW => ⟨b12.kept kW (fun h => h), ⟨(b15.kept kW (fun h => h)).cell 0, (b15.kept kW (fun h => h)).cell 1, (b15.kept kW (fun h => h)).cell 2, (b15.kept kW (fun h => h)).cell 3⟩, ⟨(b18.kept kW (fun h => h)).cell 0, (b18.kept kW (fun h => h)).cell 1, (b20.kept kW (fun h => h)).cell 0, (b20.kept kW (fun h => h)).cell 1⟩⟩)
  have kd : Keeps (fun _ => False) w1 w1.drew := (Keeps.refl _ _).drew
  have g1 : (lo == lo) = true := by simp
  have g2 : (hi == hi) = true := by simp
  have g3 : (est == est) = true := by simp
  have g4 : (f == f) = true := by simp
  clear b12 b15 b18 b20
  conv => arg 2; whnf
  dsimp only
  refine wp_region_held_drew (S := Rds X12 X15 X18 X20 #[.int .i64 c.length, .int .i64 c.lateness, .int .i64 c.windows, .int .i64 c.shards, .int .i64 c.spread, .int .i64 c.queue, .int .i64 c.mode, .int .i64 c.slots, .int .i64 c.exact_, .int .u64 c.promote, .int .i64 c.depth, .int .i64 c.width, .int .i64 c.top, .int .i64 c.key, .slice C n0 k0, .slice T q j, .int .u64 c.seed] (smC tot A n cA un R m cR) (bndC lo hi)) (by kernel_rfl) (HRd.out _ kd) (fun hHeld => ?_)
  refine wpAnyH_take (i := 0) (v := ?_) rfl (by kernel_rfl) (by kernel_rfl) (by kernel_rfl) (fun _ _ _ h => h) (Or.inl ⟨by kernel_rfl, ?_⟩) (by assumption) ?_; rotate_left; focus (intro w hSw; (try dsimp only at hSw); obtain ⟨h0, ⟨h1, h2, h3, h4⟩, ⟨h5, h6, h7, h8⟩⟩ := hSw; go_simp; try (with_reducible rfl)); (try simp only [Act.put, List.setIfInBounds_toArray, List.set_cons_zero, List.set_cons_succ])
  refine wpAnyH_take (i := 1) (v := ?_) rfl (by kernel_rfl) (by kernel_rfl) (by kernel_rfl) (fun _ _ _ h => h) (Or.inl ⟨by kernel_rfl, ?_⟩) (by assumption) ?_; rotate_left; focus (intro w hSw; (try dsimp only at hSw); obtain ⟨h0, ⟨h1, h2, h3, h4⟩, ⟨h5, h6, h7, h8⟩⟩ := hSw; go_simp; try (with_reducible rfl)); (try simp only [Act.put, List.setIfInBounds_toArray, List.set_cons_zero, List.set_cons_succ])
  trace "A"
  refine wpAnyH_take (i := 2) (v := ?_) rfl (by kernel_rfl) (by kernel_rfl) (by kernel_rfl) (fun _ _ _ h => h) (Or.inl ⟨by kernel_rfl, ?_⟩) (by assumption) ?_; rotate_left; focus (intro w hSw; (try dsimp only at hSw); obtain ⟨h0, ⟨h1, h2, h3, h4⟩, ⟨h5, h6, h7, h8⟩⟩ := hSw; go_simp; try (with_reducible rfl)); (try simp only [Act.put, List.setIfInBounds_toArray, List.set_cons_zero, List.set_cons_succ])
  trace "B"
  refine wpAnyH_take (i := 3) (v := ?_) rfl (by kernel_rfl) (by kernel_rfl) (by kernel_rfl) (fun _ _ _ h => h) (Or.inl ⟨by kernel_rfl, ?_⟩) (by assumption) ?_; rotate_left; focus (intro w hSw; (try dsimp only at hSw); obtain ⟨h0, ⟨h1, h2, h3, h4⟩, ⟨h5, h6, h7, h8⟩⟩ := hSw; go_simp; try (with_reducible rfl)); (try simp only [Act.put, List.setIfInBounds_toArray, List.set_cons_zero, List.set_cons_succ])
  refine wpAnyH_take (i := 4) (v := ?_) rfl (by kernel_rfl) (by kernel_rfl) (by kernel_rfl) (fun _ _ _ h => h) (Or.inl ⟨by kernel_rfl, ?_⟩) (by assumption) ?_; rotate_left; focus (intro w hSw; (try dsimp only at hSw); obtain ⟨h0, ⟨h1, h2, h3, h4⟩, ⟨h5, h6, h7, h8⟩⟩ := hSw; go_simp; try (with_reducible rfl)); (try simp only [Act.put, List.setIfInBounds_toArray, List.set_cons_zero, List.set_cons_succ])
  refine wpAnyH_take (i := 5) (v := ?_) rfl (by kernel_rfl) (by kernel_rfl) (by kernel_rfl) (fun _ _ _ h => h) (Or.inl ⟨by kernel_rfl, ?_⟩) (by assumption) ?_; rotate_left; focus (intro w hSw; (try dsimp only at hSw); obtain ⟨h0, ⟨h1, h2, h3, h4⟩, ⟨h5, h6, h7, h8⟩⟩ := hSw; go_simp; try (with_reducible rfl)); (try simp only [Act.put, List.setIfInBounds_toArray, List.set_cons_zero, List.set_cons_succ])
  refine wpAnyH_take (i := 6) (v := ?_) rfl (by kernel_rfl) (by kernel_rfl) (by kernel_rfl) (fun _ _ _ h => h) (Or.inl ⟨by kernel_rfl, ?_⟩) (by assumption) ?_; rotate_left; focus (intro w hSw; (try dsimp only at hSw); obtain ⟨h0, ⟨h1, h2, h3, h4⟩, ⟨h5, h6, h7, h8⟩⟩ := hSw; go_simp; try (with_reducible rfl)); (try simp only [Act.put, List.setIfInBounds_toArray, List.set_cons_zero, List.set_cons_succ])
  trace "C"
  refine wpAnyH_take (i := 7) (v := ?_) rfl (by kernel_rfl) (by kernel_rfl) (by kernel_rfl) (fun _ _ _ h => h) (Or.inl ⟨by kernel_rfl, ?_⟩) (by assumption) ?_; rotate_left; focus (intro w hSw; (try dsimp only at hSw); obtain ⟨h0, ⟨h1, h2, h3, h4⟩, ⟨h5, h6, h7, h8⟩⟩ := hSw; go_simp; try (with_reducible rfl)); (try simp only [Act.put, List.setIfInBounds_toArray, List.set_cons_zero, List.set_cons_succ])
  refine wpAnyH_take (i := 8) (v := ?_) rfl (by kernel_rfl) (by kernel_rfl) (by kernel_rfl) (fun _ _ _ h => h) (Or.inl ⟨by kernel_rfl, ?_⟩) (by assumption) ?_; rotate_left; focus (intro w hSw; (try dsimp only at hSw); obtain ⟨h0, ⟨h1, h2, h3, h4⟩, ⟨h5, h6, h7, h8⟩⟩ := hSw; go_simp; try (with_reducible rfl)); (try simp only [Act.put, List.setIfInBounds_toArray, List.set_cons_zero, List.set_cons_succ])
  refine wpAnyH_take (i := 9) (v := _) rfl (by kernel_rfl) (by kernel_rfl) (by kernel_rfl) (fun _ _ _ h => h) (cfg_yields (c := c) (C := C) (T := T) (n := n0) (k := k0) (q := q) (j := j) (g := X12) (.tmp 12) rfl (fun _ h => h.1) (by simp [Act.eval, Act.put]) (by kernel_rfl)) (by assumption) ?_
  (try simp only [Act.put, List.setIfInBounds_toArray, List.set_cons_zero, List.set_cons_succ])
  refine wpAnyH_take (i := 10) (v := ?_) rfl (by kernel_rfl) (by kernel_rfl) (by kernel_rfl) (fun _ _ _ h => h) (Or.inl ⟨by kernel_rfl, ?_⟩) (by assumption) ?_; rotate_left; focus (intro w hSw; (try dsimp only at hSw); obtain ⟨h0, ⟨h1, h2, h3, h4⟩, ⟨h5, h6, h7, h8⟩⟩ := hSw; go_simp; try (with_reducible rfl)); (try simp only [Act.put, List.setIfInBounds_toArray, List.set_cons_zero, List.set_cons_succ])
  refine wpAnyH_take (i := 11) (v := ?_) rfl (by kernel_rfl) (by kernel_rfl) (by kernel_rfl) (fun _ _ _ h => h) (Or.inl ⟨by kernel_rfl, ?_⟩) (by assumption) ?_; rotate_left; focus (intro w hSw; (try dsimp only at hSw); obtain ⟨h0, ⟨h1, h2, h3, h4⟩, ⟨h5, h6, h7, h8⟩⟩ := hSw; go_simp; try (with_reducible rfl)); (try simp only [Act.put, List.setIfInBounds_toArray, List.set_cons_zero, List.set_cons_succ])
  refine wpAnyH_take (i := 13) (v := _) rfl (by kernel_rfl) (by kernel_rfl) (by kernel_rfl) (fun _ _ _ h => h) (cfg_yields (c := c) (C := C) (T := T) (n := n0) (k := k0) (q := q) (j := j) (g := X12) (.tmp 12) rfl (fun _ h => h.1) (by simp [Act.eval, Act.put]) (by kernel_rfl)) (by assumption) ?_
  (try simp only [Act.put, List.setIfInBounds_toArray, List.set_cons_zero, List.set_cons_succ])
  refine wpAnyH_take (i := 14) (v := ?_) rfl (by kernel_rfl) (by kernel_rfl) (by kernel_rfl) (fun _ _ _ h => h) (Or.inl ⟨by kernel_rfl, ?_⟩) (by assumption) ?_; rotate_left; focus (intro w hSw; (try dsimp only at hSw); obtain ⟨h0, ⟨h1, h2, h3, h4⟩, ⟨h5, h6, h7, h8⟩⟩ := hSw; go_simp; try (with_reducible rfl)); (try simp only [Act.put, List.setIfInBounds_toArray, List.set_cons_zero, List.set_cons_succ])
  refine wpAnyH_take (i := 15) (v := ?_) rfl (by kernel_rfl) (by kernel_rfl) (by kernel_rfl) (fun _ _ _ h => h) (Or.inl ⟨by kernel_rfl, ?_⟩) (by assumption) ?_; rotate_left; focus (intro w hSw; (try dsimp only at hSw); obtain ⟨h0, ⟨h1, h2, h3, h4⟩, ⟨h5, h6, h7, h8⟩⟩ := hSw; go_simp; try (with_reducible rfl)); (try simp only [Act.put, List.setIfInBounds_toArray, List.set_cons_zero, List.set_cons_succ])
  trace "D"
  refine wpAnyH_ready (rs := [12]) (by kernel_rfl) (by simp) ?_
  refine AllReadyH.cons rfl (fun K hK => ?_) AllReadyH.nil
  go_simp
  go_at_call 44
  refine (H1.out _ kd).mono ?_
  rintro e W1 ⟨rfl, kk⟩
  have k1 : Keeps (fun _ => False) w1 W1 := (kd).trans kk
  try go_wp2_with fail
  refine hK.out _ _ (HRd.out _ k1) (fun hHeld => ?_)
  clear hK K kk
  (try simp only [Act.put, List.setIfInBounds_toArray, List.set_cons_zero, List.set_cons_succ])
  refine wpAnyH_ready (rs := [16]) (by kernel_rfl) (by simp) ?_
  refine AllReadyH.cons rfl (fun K hK => ?_) AllReadyH.nil
  go_simp
  go_at_call 45
  refine (H2.out _ k1).mono ?_
  rintro e W2 ⟨rfl, kk⟩
  have k2 : Keeps (fun _ => False) w1 W2 := (k1).trans kk
  try go_wp2_with fail
  refine hK.out _ _ (HRd.out _ k2) (fun hHeld => ?_)
  clear hK K kk
  (try simp only [Act.put, List.setIfInBounds_toArray, List.set_cons_zero, List.set_cons_succ])
  trace "E"
  refine wpAnyH_take (i := 17) (v := ?_) rfl (by kernel_rfl) (by kernel_rfl) (by kernel_rfl) (fun _ _ _ h => h) (Or.inl ⟨by kernel_rfl, ?_⟩) (by assumption) ?_; rotate_left; focus (intro w hSw; (try dsimp only at hSw); obtain ⟨h0, ⟨h1, h2, h3, h4⟩, ⟨h5, h6, h7, h8⟩⟩ := hSw; go_simp; try (with_reducible rfl)); (try simp only [Act.put, List.setIfInBounds_toArray, List.set_cons_zero, List.set_cons_succ])
  refine wpAnyH_take (i := 18) (v := ?_) rfl (by kernel_rfl) (by kernel_rfl) (by kernel_rfl) (fun _ _ _ h => h) (Or.inl ⟨by kernel_rfl, ?_⟩) (by assumption) ?_; rotate_left; focus (intro w hSw; (try dsimp only at hSw); obtain ⟨h0, ⟨h1, h2, h3, h4⟩, ⟨h5, h6, h7, h8⟩⟩ := hSw; go_simp; try (with_reducible rfl)); (try simp only [Act.put, List.setIfInBounds_toArray, List.set_cons_zero, List.set_cons_succ])
  refine wpAnyH_done (by kernel_rfl) ?_ _
  refine ⟨k2, ⟨_, _, _, _, _, _, _, _, _, _, _, _, _, _, _, _, _, _, rfl⟩⟩
end sbounds
end Go.Proofs.Ytaiopdipldaimaa
