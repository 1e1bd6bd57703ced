/-
  SummaryCheck: which summaries are valid, and the error of others; the walk. No conditions beyond those of the statement.
-/
import Derived.Test.YtaiopdipldaimaaZb
import Derived.Test.YtaiopdipldaimaaYx
import Derived.Test.YtaiopdipldaimaaGI
import Derived.Test.YtaiopdipldaimaaYt
import Derived.Test.YtaiopdipldaimaaLe
import Derived.Test.YtaiopdipldaimaaMem2
set_option linter.unusedVariables false
set_option linter.unusedSimpArgs false
namespace Go.Proofs.Ytaiopdipldaimaa
open Go.RowKit Cfp
namespace summaryCheck
def findReg (q : Nat) : Code → Option Code
  | .region id ops b => if id = q then some (.region id ops b) else none
  | .loop c => findReg q c
  | .seq a b => match findReg q a with
    | some c => some c
    | none => findReg q b
  | .block _ c => findReg q c
  | .scope c => findReg q c
  | .cond _ a b => match findReg q a with
    | some c => some c
    | none => findReg q b
  | _ => none
def NormPost (W : Act → World → Prop) : Exit → Act → World → Prop
  | .normal, a, w => W a w
  | _, _, _ => False
noncomputable def rg7 : Code := ((Try.f9.body.bind (findReg 7)).getD .skip)
/-- what the region reads -/
def Rds (X4 X10 X11 X12 : Nat) (cs s4 s11 s12 : Array Value) (w : World) : Prop :=
  Blk w X10 51 cs ∧ (w.cell? ⟨X4, 0, none⟩ = s4[0]? ∧ w.cell? ⟨X4, 1, none⟩ = s4[1]? ∧ w.cell? ⟨X4, 2, none⟩ = s4[2]? ∧ w.cell? ⟨X4, 3, none⟩ = s4[3]?) ∧
    (w.cell? ⟨X11, 0, none⟩ = s11[0]? ∧ w.cell? ⟨X11, 1, none⟩ = s11[1]? ∧ w.cell? ⟨X11, 2, none⟩ = s11[2]? ∧ w.cell? ⟨X11, 3, none⟩ = s11[3]?) ∧
    (w.cell? ⟨X12, 0, none⟩ = s12[0]? ∧ w.cell? ⟨X12, 1, none⟩ = s12[1]? ∧ w.cell? ⟨X12, 2, none⟩ = s12[2]? ∧ w.cell? ⟨X12, 3, none⟩ = s12[3]?)
set_option maxRecDepth 1000000 in
set_option maxHeartbeats 4000000 in
theorem reg7 (w1 : World) (X4 X10 X11 X12 : Nat) (c : Cfg) (C T : Option Addr) (n0 k0 q j : Nat) (t4 u4 t11 u11 t12 u12 : Int) (A4 A11 A12 R4 R11 R12 : Option Addr) (n4 c4 m4 d4 n11 c11 m11 d11 n12 c12 m12 d12 : Nat) (e4 e12 : Int)
    (H1 : Hid (∀ W, Keeps (fun _ => False) w1 W → Calls Try.prog 38 #[Value.agg #[.int .i64 c.length, .int .i64 c.lateness, .int .i64 c.windows, .int .i64 c.shards, .int .i64 c.spread, .int .i64 c.queue, .int .i64 c.mode, .int .i64 c.slots, .int .i64 c.exact_, .int .u64 c.promote, .int .i64 c.depth, .int .i64 c.width, .int .i64 c.top, .int .i64 c.key, .slice C n0 k0, .slice T q j, .int .u64 c.seed], smV t4 A4 n4 c4 u4 R4 m4 d4] W fun e w' => e = .returned (.int .i64 e4) ∧ Keeps (fun _ => False) W w'))
    (H2 : Hid (∀ W, Keeps (fun _ => False) w1 W → Calls Try.prog 39 #[Value.agg #[.int .i64 c.length, .int .i64 c.lateness, .int .i64 c.windows, .int .i64 c.shards, .int .i64 c.spread, .int .i64 c.queue, .int .i64 c.mode, .int .i64 c.slots, .int .i64 c.exact_, .int .u64 c.promote, .int .i64 c.depth, .int .i64 c.width, .int .i64 c.top, .int .i64 c.key, .slice C n0 k0, .slice T q j, .int .u64 c.seed], smV t4 A4 n4 c4 u4 R4 m4 d4] W fun e w' => e = .returned (.int .i64 e4) ∧ Keeps (fun _ => False) W w'))
    (H3 : Hid (∀ W, Keeps (fun _ => False) w1 W → Calls Try.prog 38 #[Value.agg #[.int .i64 c.length, .int .i64 c.lateness, .int .i64 c.windows, .int .i64 c.shards, .int .i64 c.spread, .int .i64 c.queue, .int .i64 c.mode, .int .i64 c.slots, .int .i64 c.exact_, .int .u64 c.promote, .int .i64 c.depth, .int .i64 c.width, .int .i64 c.top, .int .i64 c.key, .slice C n0 k0, .slice T q j, .int .u64 c.seed], smV t11 A11 n11 c11 u11 R11 m11 d11] W fun e w' => e = .returned (.int .i64 0) ∧ Keeps (fun _ => False) W w'))
    (H4 : Hid (∀ W, Keeps (fun _ => False) w1 W → Calls Try.prog 38 #[Value.agg #[.int .i64 c.length, .int .i64 c.lateness, .int .i64 c.windows, .int .i64 c.shards, .int .i64 c.spread, .int .i64 c.queue, .int .i64 c.mode, .int .i64 c.slots, .int .i64 c.exact_, .int .u64 c.promote, .int .i64 c.depth, .int .i64 c.width, .int .i64 c.top, .int .i64 c.key, .slice C n0 k0, .slice T q j, .int .u64 c.seed], smV t12 A12 n12 c12 u12 R12 m12 d12] W fun e w' => e = .returned (.int .i64 e12) ∧ Keeps (fun _ => False) W w'))
    (H5 : Hid (∀ W, Keeps (fun _ => False) w1 W → Calls Try.prog 39 #[Value.agg #[.int .i64 c.length, .int .i64 c.lateness, .int .i64 c.windows, .int .i64 c.shards, .int .i64 c.spread, .int .i64 c.queue, .int .i64 c.mode, .int .i64 c.slots, .int .i64 c.exact_, .int .u64 c.promote, .int .i64 c.depth, .int .i64 c.width, .int .i64 c.top, .int .i64 c.key, .slice C n0 k0, .slice T q j, .int .u64 c.seed], smV t12 A12 n12 c12 u12 R12 m12 d12] W fun e w' => e = .returned (.int .i64 e12) ∧ Keeps (fun _ => False) W w'))
    (b10 : Blk w1 X10 51 #[.int .i64 c.length, .int .i64 c.lateness, .int .i64 c.windows, .int .i64 c.shards, .int .i64 c.spread, .int .i64 c.queue, .int .i64 c.mode, .int .i64 c.slots, .int .i64 c.exact_, .int .u64 c.promote, .int .i64 c.depth, .int .i64 c.width, .int .i64 c.top, .int .i64 c.key, .slice C n0 k0, .slice T q j, .int .u64 c.seed]) (b4 : Blk w1 X4 45 (smC t4 A4 n4 c4 u4 R4 m4 d4)) (b11 : Blk w1 X11 45 (smC t11 A11 n11 c11 u11 R11 m11 d11)) (b12 : Blk w1 X12 45 (smC t12 A12 n12 c12 u12 R12 m12 d12)) (s0 s1 s2 s3 s5 s6 s7 s8 s9 s13 s14 s15 s16 s17 s18 s19 s20 s21 s22 s23 s24 s25 s26 s27 s28 s29 s30 s31 s32 s33 s34 s35 s36 s37 s38 s39 s40 s41 s42 s43 s44 s45 s46 s47 s48 s49 s50 s51 s52 : Value) :
    Code.wp Try.prog rg7 (NormPost fun a' w' => Keeps (fun _ => False) w1 w' ∧ (∃ u28 u29 u30 u31 u32 u33 u34 u35 u36 u37 u38 u39 u40 u41 u42 u43 u44 u45 u46 u47 u48 u49 u50 u51 u52 : Value, a' = ⟨#[s0, s1, s2, s3, .pointer (some ⟨X4, 0, none⟩), s5, s6, s7, .bool true, s9, .pointer (some ⟨X10, 0, none⟩), .pointer (some ⟨X11, 0, none⟩), .pointer (some ⟨X12, 0, none⟩), s13, s14, s15, s16, s17, s18, s19, s20, s21, s22, s23, s24, s25, s26, s27, u28, u29, u30, u31, u32, u33, u34, u35, u36, u37, u38, u39, u40, u41, u42, u43, u44, u45, u46, u47, u48, u49, u50, u51, u52], []⟩)) ⟨#[s0, s1, s2, s3, .pointer (some ⟨X4, 0, none⟩), s5, s6, s7, s8, s9, .pointer (some ⟨X10, 0, none⟩), .pointer (some ⟨X11, 0, none⟩), .pointer (some ⟨X12, 0, none⟩), s13, s14, s15, s16, s17, s18, s19, s20, s21, s22, s23, s24, s25, s26, s27, s28, s29, s30, s31, s32, s33, s34, s35, s36, s37, s38, s39, s40, s41, s42, s43, s44, s45, s46, s47, s48, s49, s50, s51, s52], []⟩ w1 := by
  have HRd : Hid (∀ W, Keeps (fun _ => False) w1 W → Rds X4 X10 X11 X12 #[.int .i64 c.length, .int .i64 c.lateness, .int .i64 c.windows, .int .i64 c.shards, .int .i64 c.spread, .int .i64 c.queue, .int .i64 c.mode, .int .i64 c.slots, .int .i64 c.exact_, .int .u64 c.promote, .int .i64 c.depth, .int .i64 c.width, .int .i64 c.top, .int .i64 c.key, .slice C n0 k0, .slice T q j, .int .u64 c.seed] (smC t4 A4 n4 c4 u4 R4 m4 d4) (smC t11 A11 n11 c11 u11 R11 m11 d11) (smC t12 A12 n12 c12 u12 R12 m12 d12) W) := hide (fun W kW => ⟨b10.kept kW (fun h => h), ⟨(b4.kept kW (fun h => h)).cell 0, (b4.kept kW (fun h => h)).cell 1, (b4.kept kW (fun h => h)).cell 2, (b4.kept kW (fun h => h)).cell 3⟩, ⟨(b11.kept kW (fun h => h)).cell 0, (b11.kept kW (fun h => h)).cell 1, (b11.kept kW (fun h => h)).cell 2, (b11.kept kW (fun h => h)).cell 3⟩, ⟨(b12.kept kW (fun h => h)).cell 0, (b12.kept kW (fun h => h)).cell 1, (b12.kept kW (fun h => h)).cell 2, (b12.kept kW (fun h => h)).cell 3⟩⟩)
  have kd : Keeps (fun _ => False) w1 w1.drew := (Keeps.refl _ _).drew
  have g4 : (e4 == e4) = true := by simp
  have g12 : (e12 == e12) = true := by simp
  clear b10 b4 b11 b12
  conv => arg 2; whnf
  dsimp only
  refine wp_region_held_drew (S := Rds X4 X10 X11 X12 #[.int .i64 c.length, .int .i64 c.lateness, .int .i64 c.windows, .int .i64 c.shards, .int .i64 c.spread, .int .i64 c.queue, .int .i64 c.mode, .int .i64 c.slots, .int .i64 c.exact_, .int .u64 c.promote, .int .i64 c.depth, .int .i64 c.width, .int .i64 c.top, .int .i64 c.key, .slice C n0 k0, .slice T q j, .int .u64 c.seed] (smC t4 A4 n4 c4 u4 R4 m4 d4) (smC t11 A11 n11 c11 u11 R11 m11 d11) (smC t12 A12 n12 c12 u12 R12 m12 d12)) (by kernel_rfl) (HRd.out _ kd) (fun hHeld => ?_)
  refine wpAnyH_take (i := 0) (v := _) rfl (by kernel_rfl) (by kernel_rfl) (by kernel_rfl) (fun _ _ _ h => h) (cfg_yields (c := c) (C := C) (T := T) (n := n0) (k := k0) (q := q) (j := j) (g := X10) (.tmp 10) rfl (fun _ h => h.1) (by simp [Act.eval, Act.put]) (by kernel_rfl)) (by assumption) ?_
  (try simp only [Act.put, List.setIfInBounds_toArray, List.set_cons_zero, List.set_cons_succ])
  refine wpAnyH_take (i := 1) (v := ?_) rfl (by kernel_rfl) (by kernel_rfl) (by kernel_rfl) (fun _ _ _ h => h) (Or.inl ⟨by kernel_rfl, ?_⟩) (by assumption) ?_; rotate_left; focus (intro w hSw; (try dsimp only at hSw); obtain ⟨h0, ⟨a0, a1, a2, a3⟩, ⟨b0, b1, b2, b3⟩, ⟨d0, d1, d2, d3⟩⟩ := hSw; go_simp; try (with_reducible rfl)); (try simp only [Act.put, List.setIfInBounds_toArray, List.set_cons_zero, List.set_cons_succ])
  refine wpAnyH_take (i := 3) (v := _) rfl (by kernel_rfl) (by kernel_rfl) (by kernel_rfl) (fun _ _ _ h => h) (cfg_yields (c := c) (C := C) (T := T) (n := n0) (k := k0) (q := q) (j := j) (g := X10) (.tmp 10) rfl (fun _ h => h.1) (by simp [Act.eval, Act.put]) (by kernel_rfl)) (by assumption) ?_
  (try simp only [Act.put, List.setIfInBounds_toArray, List.set_cons_zero, List.set_cons_succ])
  refine wpAnyH_take (i := 4) (v := ?_) rfl (by kernel_rfl) (by kernel_rfl) (by kernel_rfl) (fun _ _ _ h => h) (Or.inl ⟨by kernel_rfl, ?_⟩) (by assumption) ?_; rotate_left; focus (intro w hSw; (try dsimp only at hSw); obtain ⟨h0, ⟨a0, a1, a2, a3⟩, ⟨b0, b1, b2, b3⟩, ⟨d0, d1, d2, d3⟩⟩ := hSw; go_simp; try (with_reducible rfl)); (try simp only [Act.put, List.setIfInBounds_toArray, List.set_cons_zero, List.set_cons_succ])
  trace "L"
  refine wpAnyH_ready (rs := [2]) (by kernel_rfl) (by simp) ?_
  refine AllReadyH.cons rfl (fun K hK => ?_) AllReadyH.nil
  go_simp
  go_at_call 38
  refine (H1.out _ kd).mono ?_
  rintro e W1 ⟨rfl, kk⟩
  have k1 : Keeps (fun _ => False) w1 W1 := (kd).trans kk
  try go_wp2_with fail
  refine hK.out _ _ (HRd.out _ k1) (fun hHeld => ?_)
  clear hK K kk
  (try simp only [Act.put, List.setIfInBounds_toArray, List.set_cons_zero, List.set_cons_succ])
  refine wpAnyH_ready (rs := [5]) (by kernel_rfl) (by simp) ?_
  refine AllReadyH.cons rfl (fun K hK => ?_) AllReadyH.nil
  go_simp
  go_at_call 39
  refine (H2.out _ k1).mono ?_
  rintro e W2 ⟨rfl, kk⟩
  have k2 : Keeps (fun _ => False) w1 W2 := (k1).trans kk
  try go_wp2_with fail
  refine hK.out _ _ (HRd.out _ k2) (fun hHeld => ?_)
  clear hK K kk
  (try simp only [Act.put, List.setIfInBounds_toArray, List.set_cons_zero, List.set_cons_succ])
  refine wpAnyH_take (i := 6) (v := ?_) rfl (by kernel_rfl) (by kernel_rfl) (by kernel_rfl) (fun _ _ _ h => h) (Or.inl ⟨by kernel_rfl, ?_⟩) (by assumption) ?_; rotate_left; focus (intro w hSw; (try dsimp only at hSw); obtain ⟨h0, ⟨a0, a1, a2, a3⟩, ⟨b0, b1, b2, b3⟩, ⟨d0, d1, d2, d3⟩⟩ := hSw; go_simp; try (with_reducible rfl)); (try simp only [Act.put, List.setIfInBounds_toArray, List.set_cons_zero, List.set_cons_succ])
  refine wpAnyH_take (i := 7) (v := ?_) rfl (by kernel_rfl) (by kernel_rfl) (by kernel_rfl) (fun _ _ _ h => h) (Or.inl ⟨by kernel_rfl, ?_⟩) (by assumption) ?_; rotate_left; focus (intro w hSw; (try dsimp only at hSw); obtain ⟨h0, ⟨a0, a1, a2, a3⟩, ⟨b0, b1, b2, b3⟩, ⟨d0, d1, d2, d3⟩⟩ := hSw; go_simp; try (with_reducible rfl)); (try simp only [Act.put, List.setIfInBounds_toArray, List.set_cons_zero, List.set_cons_succ])
  refine wpAnyH_take (i := 8) (v := _) rfl (by kernel_rfl) (by kernel_rfl) (by kernel_rfl) (fun _ _ _ h => h) (cfg_yields (c := c) (C := C) (T := T) (n := n0) (k := k0) (q := q) (j := j) (g := X10) (.tmp 10) rfl (fun _ h => h.1) (by simp [Act.eval, Act.put]) (by kernel_rfl)) (by assumption) ?_
  (try simp only [Act.put, List.setIfInBounds_toArray, List.set_cons_zero, List.set_cons_succ])
  refine wpAnyH_take (i := 9) (v := ?_) rfl (by kernel_rfl) (by kernel_rfl) (by kernel_rfl) (fun _ _ _ h => h) (Or.inl ⟨by kernel_rfl, ?_⟩) (by assumption) ?_; rotate_left; focus (intro w hSw; (try dsimp only at hSw); obtain ⟨h0, ⟨a0, a1, a2, a3⟩, ⟨b0, b1, b2, b3⟩, ⟨d0, d1, d2, d3⟩⟩ := hSw; go_simp; try (with_reducible rfl)); (try simp only [Act.put, List.setIfInBounds_toArray, List.set_cons_zero, List.set_cons_succ])
  trace "A"
  refine wpAnyH_ready (rs := [10]) (by kernel_rfl) (by simp) ?_
  refine AllReadyH.cons rfl (fun K hK => ?_) AllReadyH.nil
  go_simp
  go_at_call 38
  refine (H3.out _ k2).mono ?_
  rintro e W3 ⟨rfl, kk⟩
  have k3 : Keeps (fun _ => False) w1 W3 := (k2).trans kk
  try go_wp2_with fail
  refine hK.out _ _ (HRd.out _ k3) (fun hHeld => ?_)
  clear hK K kk
  (try simp only [Act.put, List.setIfInBounds_toArray, List.set_cons_zero, List.set_cons_succ])
  refine wpAnyH_take (i := 11) (v := ?_) rfl (by kernel_rfl) (by kernel_rfl) (by kernel_rfl) (fun _ _ _ h => h) (Or.inl ⟨by kernel_rfl, ?_⟩) (by assumption) ?_; rotate_left; focus (intro w hSw; (try dsimp only at hSw); obtain ⟨h0, ⟨a0, a1, a2, a3⟩, ⟨b0, b1, b2, b3⟩, ⟨d0, d1, d2, d3⟩⟩ := hSw; go_simp; try (with_reducible rfl)); (try simp only [Act.put, List.setIfInBounds_toArray, List.set_cons_zero, List.set_cons_succ])
  refine wpAnyH_take (i := 12) (v := ?_) rfl (by kernel_rfl) (by kernel_rfl) (by kernel_rfl) (fun _ _ _ h => h) (Or.inl ⟨by kernel_rfl, ?_⟩) (by assumption) ?_; rotate_left; focus (intro w hSw; (try dsimp only at hSw); obtain ⟨h0, ⟨a0, a1, a2, a3⟩, ⟨b0, b1, b2, b3⟩, ⟨d0, d1, d2, d3⟩⟩ := hSw; go_simp; try (with_reducible rfl)); (try simp only [Act.put, List.setIfInBounds_toArray, List.set_cons_zero, List.set_cons_succ])
  refine wpAnyH_take (i := 13) (v := ?_) rfl (by kernel_rfl) (by kernel_rfl) (by kernel_rfl) (fun _ _ _ h => h) (Or.inl ⟨by kernel_rfl, ?_⟩) (by assumption) ?_; rotate_left; focus (intro w hSw; (try dsimp only at hSw); obtain ⟨h0, ⟨a0, a1, a2, a3⟩, ⟨b0, b1, b2, b3⟩, ⟨d0, d1, d2, d3⟩⟩ := hSw; go_simp; try (with_reducible rfl)); (try simp only [Act.put, List.setIfInBounds_toArray, List.set_cons_zero, List.set_cons_succ])
  refine wpAnyH_take (i := 14) (v := _) rfl (by kernel_rfl) (by kernel_rfl) (by kernel_rfl) (fun _ _ _ h => h) (cfg_yields (c := c) (C := C) (T := T) (n := n0) (k := k0) (q := q) (j := j) (g := X10) (.tmp 10) rfl (fun _ h => h.1) (by simp [Act.eval, Act.put]) (by kernel_rfl)) (by assumption) ?_
  (try simp only [Act.put, List.setIfInBounds_toArray, List.set_cons_zero, List.set_cons_succ])
  refine wpAnyH_take (i := 15) (v := ?_) rfl (by kernel_rfl) (by kernel_rfl) (by kernel_rfl) (fun _ _ _ h => h) (Or.inl ⟨by kernel_rfl, ?_⟩) (by assumption) ?_; rotate_left; focus (intro w hSw; (try dsimp only at hSw); obtain ⟨h0, ⟨a0, a1, a2, a3⟩, ⟨b0, b1, b2, b3⟩, ⟨d0, d1, d2, d3⟩⟩ := hSw; go_simp; try (with_reducible rfl)); (try simp only [Act.put, List.setIfInBounds_toArray, List.set_cons_zero, List.set_cons_succ])
  refine wpAnyH_take (i := 17) (v := _) rfl (by kernel_rfl) (by kernel_rfl) (by kernel_rfl) (fun _ _ _ h => h) (cfg_yields (c := c) (C := C) (T := T) (n := n0) (k := k0) (q := q) (j := j) (g := X10) (.tmp 10) rfl (fun _ h => h.1) (by simp [Act.eval, Act.put]) (by kernel_rfl)) (by assumption) ?_
  (try simp only [Act.put, List.setIfInBounds_toArray, List.set_cons_zero, List.set_cons_succ])
  refine wpAnyH_take (i := 18) (v := ?_) rfl (by kernel_rfl) (by kernel_rfl) (by kernel_rfl) (fun _ _ _ h => h) (Or.inl ⟨by kernel_rfl, ?_⟩) (by assumption) ?_; rotate_left; focus (intro w hSw; (try dsimp only at hSw); obtain ⟨h0, ⟨a0, a1, a2, a3⟩, ⟨b0, b1, b2, b3⟩, ⟨d0, d1, d2, d3⟩⟩ := hSw; go_simp; try (with_reducible rfl)); (try simp only [Act.put, List.setIfInBounds_toArray, List.set_cons_zero, List.set_cons_succ])
  trace "B"
  refine wpAnyH_ready (rs := [16]) (by kernel_rfl) (by simp) ?_
  refine AllReadyH.cons rfl (fun K hK => ?_) AllReadyH.nil
  go_simp
  go_at_call 38
  refine (H4.out _ k3).mono ?_
  rintro e W4 ⟨rfl, kk⟩
  have k4 : Keeps (fun _ => False) w1 W4 := (k3).trans kk
  try go_wp2_with fail
  refine hK.out _ _ (HRd.out _ k4) (fun hHeld => ?_)
  clear hK K kk
  (try simp only [Act.put, List.setIfInBounds_toArray, List.set_cons_zero, List.set_cons_succ])
  refine wpAnyH_ready (rs := [19]) (by kernel_rfl) (by simp) ?_
  refine AllReadyH.cons rfl (fun K hK => ?_) AllReadyH.nil
  go_simp
  go_at_call 39
  refine (H5.out _ k4).mono ?_
  rintro e W5 ⟨rfl, kk⟩
  have k5 : Keeps (fun _ => False) w1 W5 := (k4).trans kk
  try go_wp2_with fail
  refine hK.out _ _ (HRd.out _ k5) (fun hHeld => ?_)
  clear hK K kk
  (try simp only [Act.put, List.setIfInBounds_toArray, List.set_cons_zero, List.set_cons_succ])
  refine wpAnyH_take (i := 20) (v := ?_) rfl (by kernel_rfl) (by kernel_rfl) (by kernel_rfl) (fun _ _ _ h => h) (Or.inl ⟨by kernel_rfl, ?_⟩) (by assumption) ?_; rotate_left; focus (intro w hSw; (try dsimp only at hSw); obtain ⟨h0, ⟨a0, a1, a2, a3⟩, ⟨b0, b1, b2, b3⟩, ⟨d0, d1, d2, d3⟩⟩ := hSw; go_simp; try (with_reducible rfl)); (try simp only [Act.put, List.setIfInBounds_toArray, List.set_cons_zero, List.set_cons_succ])
  refine wpAnyH_take (i := 21) (v := ?_) rfl (by kernel_rfl) (by kernel_rfl) (by kernel_rfl) (fun _ _ _ h => h) (Or.inl ⟨by kernel_rfl, ?_⟩) (by assumption) ?_; rotate_left; focus (intro w hSw; (try dsimp only at hSw); obtain ⟨h0, ⟨a0, a1, a2, a3⟩, ⟨b0, b1, b2, b3⟩, ⟨d0, d1, d2, d3⟩⟩ := hSw; go_simp; try (with_reducible rfl)); (try simp only [Act.put, List.setIfInBounds_toArray, List.set_cons_zero, List.set_cons_succ])
  refine wpAnyH_take (i := 22) (v := ?_) rfl (by kernel_rfl) (by kernel_rfl) (by kernel_rfl) (fun _ _ _ h => h) (Or.inl ⟨by kernel_rfl, ?_⟩) (by assumption) ?_; rotate_left; focus (intro w hSw; (try dsimp only at hSw); obtain ⟨h0, ⟨a0, a1, a2, a3⟩, ⟨b0, b1, b2, b3⟩, ⟨d0, d1, d2, d3⟩⟩ := hSw; go_simp; try (with_reducible rfl)); (try simp only [Act.put, List.setIfInBounds_toArray, List.set_cons_zero, List.set_cons_succ])
  trace "C"
  refine wpAnyH_ready (rs := [23]) (by kernel_rfl) (by simp) ?_
  refine AllReadyH.cons rfl (fun K hK => ?_) AllReadyH.nil
  go_simp
  go_at_call 23
  refine (awake21 W5).mono ?_
  rintro e W6 ⟨rfl, kk⟩
  have k6 : Keeps (fun _ => False) w1 W6 := (k5).trans kk
  try go_wp2_with fail
  refine hK.out _ _ (HRd.out _ k6) (fun hHeld => ?_)
  clear hK K kk
  (try simp only [Act.put, List.setIfInBounds_toArray, List.set_cons_zero, List.set_cons_succ])
  refine wpAnyH_take (i := 24) (v := ?_) rfl (by kernel_rfl) (by kernel_rfl) (by kernel_rfl) (fun _ _ _ h => h) (Or.inl ⟨by kernel_rfl, ?_⟩) (by assumption) ?_; rotate_left; focus (intro w hSw; (try dsimp only at hSw); obtain ⟨h0, ⟨a0, a1, a2, a3⟩, ⟨b0, b1, b2, b3⟩, ⟨d0, d1, d2, d3⟩⟩ := hSw; go_simp; try (with_reducible rfl)); (try simp only [Act.put, List.setIfInBounds_toArray, List.set_cons_zero, List.set_cons_succ])
  refine wpAnyH_take (i := 25) (v := ?_) rfl (by kernel_rfl) (by kernel_rfl) (by kernel_rfl) (fun _ _ _ h => h) (Or.inl ⟨by kernel_rfl, ?_⟩) (by assumption) ?_; rotate_left; focus (intro w hSw; (try dsimp only at hSw); obtain ⟨h0, ⟨a0, a1, a2, a3⟩, ⟨b0, b1, b2, b3⟩, ⟨d0, d1, d2, d3⟩⟩ := hSw; go_simp; try (with_reducible rfl)); (try simp only [Act.put, List.setIfInBounds_toArray, List.set_cons_zero, List.set_cons_succ])
  refine wpAnyH_done (by kernel_rfl) ?_ _
  refine ⟨k6, ⟨_, _, _, _, _, _, _, _, _, _, _, _, _, _, _, _, _, _, _, _, _, _, _, _, _, rfl⟩⟩
end summaryCheck
end Go.Proofs.Ytaiopdipldaimaa
