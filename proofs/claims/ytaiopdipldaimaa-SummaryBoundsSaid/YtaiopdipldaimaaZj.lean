/-
  SummaryBounds: the three summaries are put into a slice. No conditions beyond those of the statement.
-/
import Derived.Test.YtaiopdipldaimaaZi
import Derived.Test.YtaiopdipldaimaaZb
set_option linter.unusedVariables false
set_option linter.unusedSimpArgs false
namespace Go.Proofs.Ytaiopdipldaimaa
open Go.RowKit Cfp
namespace sbounds
theorem agree_any (w8 : World) (c : Cfg) (C : Option Addr) (b n0 k0 : Nat) (ts : List Int) (hb : Blk w8 b 24 (ts.map (.int .u64)).toArray) (hl : ts.length = 16) (hzb : ∀ z ∈ ts, 0 ≤ z ∧ z < 18446744073709551616) (hs : 0 ≤ c.seed ∧ c.seed < 18446744073709551616)
    (B : Nat) (tot un : Int) (A R : Option Addr) (n cA m cR : Nat) (l : List Ln) (F : RowsF) (h : SmIn w8 B A n l R m F) (hB : B ≤ w8.heap.size) (k : ByteArray) (hk : k.size ≤ 140737488351232) :
    Agree w8 (Value.agg #[.int .i64 c.length, .int .i64 c.lateness, .int .i64 c.windows, .int .i64 c.shards, .int .i64 c.spread, .int .i64 c.queue, .int .i64 c.mode, .int .i64 c.slots, .int .i64 c.exact_, .int .u64 c.promote, .int .i64 c.depth, .int .i64 c.width, .int .i64 c.top, .int .i64 c.key, .slice C n0 k0, .slice (some ⟨b, 0, none⟩) 16 16, .int .u64 c.seed]) (smV tot A n cA un R m cR) k := by
  have hr : ∀ W, Keeps (fun _ => False) w8 W → Rd W W.heap.size (some ⟨b, 0, none⟩) 1 16 (ts.map (.int .u64)) := fun W kW => (hb.kept kW (fun h => h)).rd (n := 16) (sz := 1) (by simp [hl])
  have hS : ∀ W, Keeps (fun _ => False) w8 W → SmIn W W.heap.size A n l R m F := fun W kW => (h.kept kW (fun _ _ h => h)).more (by have := kW.size; omega)
  exact ⟨_, _, _, _, fun W kW => sbounds_any W W.heap.size c C (some ⟨b, 0, none⟩) n0 k0 16 16 ts (hr W kW) hzb hs tot un A R n cA m cR l F (hS W kW) (Nat.le_refl _) k hk,
    fun W kW => rbounds_any W W.heap.size c C (some ⟨b, 0, none⟩) n0 k0 16 16 ts (hr W kW) hzb hs tot un A R n cA m cR l F (hS W kW) (Nat.le_refl _) k hk,
    fun W kW => est_any W W.heap.size c C (some ⟨b, 0, none⟩) n0 k0 16 16 ts (hr W kW) hzb hs tot un A R n cA m cR l F (hS W kW) k hk,
    fun W kW => rest_any W W.heap.size c C (some ⟨b, 0, none⟩) n0 k0 16 16 ts (hr W kW) hzb hs tot un A R n cA m cR l F (hS W kW) k hk⟩
noncomputable def rg6 : Code := ((Try.f11.body.bind (sbd.findReg 6)).getD .skip)
def Rd6 (X5 X13 : Nat) (s5 s13 : Array Value) (w : World) : Prop :=
  (w.cell? ⟨X5, 0, none⟩ = s5[0]? ∧ w.cell? ⟨X5, 1, none⟩ = s5[1]? ∧ w.cell? ⟨X5, 2, none⟩ = s5[2]? ∧ w.cell? ⟨X5, 3, none⟩ = s5[3]?) ∧ (w.cell? ⟨X13, 0, none⟩ = s13[0]? ∧ w.cell? ⟨X13, 1, none⟩ = s13[1]? ∧ w.cell? ⟨X13, 2, none⟩ = s13[2]? ∧ w.cell? ⟨X13, 3, none⟩ = s13[3]?)
def Three (w1 : World) (x1 x2 : Sm) (G : Nat) (w' : World) : Prop :=
  ∃ (x3 : Sm) (l : List Ln) (F : RowsF), SmIn w' w'.heap.size x3.A x3.n l x3.R x3.m F ∧ Blk w' G 45 ([x1, x2, x3].flatMap Sm.cells).toArray ∧ Keeps (fun _ => False) w1 w'
set_option maxRecDepth 1000000 in
set_option maxHeartbeats 4000000 in
theorem reg6 (w1 : World) (X5 X13 : Nat) (t5 u5 t13 u13 : Int) (A5 A13 R5 R13 : Option Addr) (n5 c5 m5 d5 n13 c13 m13 d13 : Nat) (at_ nn : Int)
    (HS : Hid (∀ W, Keeps (fun _ => False) w1 W → Calls Try.prog 37 #[smV t13 A13 n13 c13 u13 R13 m13 d13, .int .i64 at_, .int .u64 nn] W (Spoilt21 W)))
    (b5 : Blk w1 X5 45 (smC t5 A5 n5 c5 u5 R5 m5 d5)) (b13 : Blk w1 X13 45 (smC t13 A13 n13 c13 u13 R13 m13 d13)) (s0 s1 s4 s6 s7 s8 s9 s10 s11 s12 s14 s15 s16 s17 s18 s19 s20 s21 s22 s23 s24 s25 s26 s27 s28 s29 s30 s31 s32 s33 s34 s35 s36 s37 s38 s39 s40 s41 s42 s43 s44 s45 s46 s47 s48 s49 s50 s51 s52 s53 s54 s55 s56 s57 s58 s59 s60 s61 s62 s63 s64 s65 s66 s67 s68 s69 s70 s71 s72 s73 s74 s75 s76 s77 s78 s79 s80 s81 s82 s83 s84 s85 s86 s87 s88 s89 s90 s91 s92 : Value) :
    Code.wp Try.prog rg6 (sbd.NormPost fun a' w' => ∃ G, Three w1 ⟨t5, u5, A5, R5, n5, c5, m5, d5⟩ ⟨t13, u13, A13, R13, n13, c13, m13, d13⟩ G w' ∧ (∃ u38 u39 u40 u41 u42 u43 : Value, a' = ⟨#[s0, s1, .int .i64 at_, .int .u64 nn, s4, .pointer (some ⟨X5, 0, none⟩), s6, s7, s8, s9, s10, s11, s12, .pointer (some ⟨X13, 0, none⟩), s14, s15, s16, s17, s18, s19, s20, s21, s22, s23, s24, s25, s26, s27, s28, s29, s30, s31, s32, s33, s34, s35, s36, s37, u38, u39, u40, u41, u42, u43, .slice (some ⟨G, 0, none⟩) 3 3, .int .i64 3, .int .i64 0, s47, s48, s49, s50, s51, s52, s53, s54, s55, s56, s57, s58, s59, s60, s61, s62, s63, s64, s65, s66, s67, s68, s69, s70, s71, s72, s73, s74, s75, s76, s77, s78, s79, s80, s81, s82, s83, s84, s85, s86, s87, s88, s89, s90, s91, s92], []⟩)) ⟨#[s0, s1, .int .i64 at_, .int .u64 nn, s4, .pointer (some ⟨X5, 0, none⟩), s6, s7, s8, s9, s10, s11, s12, .pointer (some ⟨X13, 0, none⟩), s14, s15, s16, s17, s18, s19, s20, s21, s22, s23, s24, s25, s26, s27, s28, s29, s30, s31, s32, s33, s34, s35, s36, s37, s38, s39, s40, s41, s42, s43, s44, s45, s46, s47, s48, s49, s50, s51, s52, s53, s54, s55, s56, s57, s58, s59, s60, s61, s62, s63, s64, s65, s66, s67, s68, s69, s70, s71, s72, s73, s74, s75, s76, s77, s78, s79, s80, s81, s82, s83, s84, s85, s86, s87, s88, s89, s90, s91, s92], []⟩ w1 := by
  have HRd : Hid (∀ W, Keeps (fun _ => False) w1 W → Rd6 X5 X13 (smC t5 A5 n5 c5 u5 R5 m5 d5) (smC t13 A13 n13 c13 u13 R13 m13 d13) W) := hide (fun W kW => ⟨⟨(b5.kept kW (fun h => h)).cell 0, (b5.kept kW (fun h => h)).cell 1, (b5.kept kW (fun h => h)).cell 2, (b5.kept kW (fun h => h)).cell 3⟩, ⟨(b13.kept kW (fun h => h)).cell 0, (b13.kept kW (fun h => h)).cell 1, (b13.kept kW (fun h => h)).cell 2, (b13.kept kW (fun h => h)).cell 3⟩⟩)
  have kd : Keeps (fun _ => False) w1 w1.drew := (Keeps.refl _ _).drew
  clear b5 b13
  conv => arg 2; whnf
  dsimp only
  refine wp_region_held_drew (S := Rd6 X5 X13 (smC t5 A5 n5 c5 u5 R5 m5 d5) (smC t13 A13 n13 c13 u13 R13 m13 d13)) (by kernel_rfl) (HRd.out _ kd) (fun hHeld => ?_)
  refine wpAnyH_take (i := 0) (v := ?_) rfl (by kernel_rfl) (by kernel_rfl) (by kernel_rfl) (fun _ _ _ h => h) (Or.inl ⟨by kernel_rfl, ?_⟩) (by assumption) ?_; rotate_left; focus (intro w hSw; (try dsimp only at hSw); obtain ⟨⟨h1, h2, h3, h4⟩, ⟨h5, h6, h7, h8⟩⟩ := hSw; go_simp; try (with_reducible rfl)); (try simp only [Act.put, List.setIfInBounds_toArray, List.set_cons_zero, List.set_cons_succ])
  refine wpAnyH_take (i := 1) (v := ?_) rfl (by kernel_rfl) (by kernel_rfl) (by kernel_rfl) (fun _ _ _ h => h) (Or.inl ⟨by kernel_rfl, ?_⟩) (by assumption) ?_; rotate_left; focus (intro w hSw; (try dsimp only at hSw); obtain ⟨⟨h1, h2, h3, h4⟩, ⟨h5, h6, h7, h8⟩⟩ := hSw; go_simp; try (with_reducible rfl)); (try simp only [Act.put, List.setIfInBounds_toArray, List.set_cons_zero, List.set_cons_succ])
  refine wpAnyH_take (i := 2) (v := ?_) rfl (by kernel_rfl) (by kernel_rfl) (by kernel_rfl) (fun _ _ _ h => h) (Or.inl ⟨by kernel_rfl, ?_⟩) (by assumption) ?_; rotate_left; focus (intro w hSw; (try dsimp only at hSw); obtain ⟨⟨h1, h2, h3, h4⟩, ⟨h5, h6, h7, h8⟩⟩ := hSw; go_simp; try (with_reducible rfl)); (try simp only [Act.put, List.setIfInBounds_toArray, List.set_cons_zero, List.set_cons_succ])
  refine wpAnyH_take (i := 3) (v := ?_) rfl (by kernel_rfl) (by kernel_rfl) (by kernel_rfl) (fun _ _ _ h => h) (Or.inl ⟨by kernel_rfl, ?_⟩) (by assumption) ?_; rotate_left; focus (intro w hSw; (try dsimp only at hSw); obtain ⟨⟨h1, h2, h3, h4⟩, ⟨h5, h6, h7, h8⟩⟩ := hSw; go_simp; try (with_reducible rfl)); (try simp only [Act.put, List.setIfInBounds_toArray, List.set_cons_zero, List.set_cons_succ])
  refine wpAnyH_take (i := 4) (v := ?_) rfl (by kernel_rfl) (by kernel_rfl) (by kernel_rfl) (fun _ _ _ h => h) (Or.inl ⟨by kernel_rfl, ?_⟩) (by assumption) ?_; rotate_left; focus (intro w hSw; (try dsimp only at hSw); obtain ⟨⟨h1, h2, h3, h4⟩, ⟨h5, h6, h7, h8⟩⟩ := hSw; go_simp; try (with_reducible rfl)); (try simp only [Act.put, List.setIfInBounds_toArray, List.set_cons_zero, List.set_cons_succ])
  refine wpAnyH_take (i := 8) (v := ?_) rfl (by kernel_rfl) (by kernel_rfl) (by kernel_rfl) (fun _ _ _ h => h) (Or.inl ⟨by kernel_rfl, ?_⟩) (by assumption) ?_; rotate_left; focus (intro w hSw; (try dsimp only at hSw); obtain ⟨⟨h1, h2, h3, h4⟩, ⟨h5, h6, h7, h8⟩⟩ := hSw; go_simp; try (with_reducible rfl)); (try simp only [Act.put, List.setIfInBounds_toArray, List.set_cons_zero, List.set_cons_succ])
  trace "TAKEN"
  refine wpAnyH_ready (rs := [5]) (by kernel_rfl) (by simp) ?_
  refine AllReadyH.cons rfl (fun K hK => ?_) AllReadyH.nil
  go_simp
  go_at_call 37
  refine (HS.out _ kd).mono ?_
  rintro e W1 ⟨tx, ux, Ax, nx, cx, lx, Rx, mx, dx, Fx, rfl, sx, hbx, kk⟩
  have k1 := kd.trans kk
  have SX := hide sx
  clear sx hbx
  try go_wp2_with fail
  refine hK.out _ _ (HRd.out _ k1) (fun hHeld => ?_)
  clear hK K kk
  (try simp only [Act.put, List.setIfInBounds_toArray, List.set_cons_zero, List.set_cons_succ])
  trace "CALL"
  refine wpAnyH_ready (rs := [6]) (by kernel_rfl) (by simp) ?_
  refine AllReadyH.cons rfl (fun K hK => ?_) AllReadyH.nil
  go_simp
  have kA : Keeps (fun _ => False) W1 (W1.alloc (.cells #[.int .u64 t5, .slice A5 n5 c5, .int .u64 u5, .slice R5 m5 d5, .int .u64 t13, .slice A13 n13 c13, .int .u64 u13, .slice R13 m13 d13, .int .u64 tx, .slice Ax nx cx, .int .u64 ux, .slice Rx mx dx] 45)) := (Keeps.refl _ _).alloc _
  have BG : Hid (Blk (W1.alloc (.cells #[.int .u64 t5, .slice A5 n5 c5, .int .u64 u5, .slice R5 m5 d5, .int .u64 t13, .slice A13 n13 c13, .int .u64 u13, .slice R13 m13 d13, .int .u64 tx, .slice Ax nx cx, .int .u64 ux, .slice Rx mx dx] 45)) W1.heap.size 45 #[.int .u64 t5, .slice A5 n5 c5, .int .u64 u5, .slice R5 m5 d5, .int .u64 t13, .slice A13 n13 c13, .int .u64 u13, .slice R13 m13 d13, .int .u64 tx, .slice Ax nx cx, .int .u64 ux, .slice Rx mx dx]) := hide (Blk.new _ _ _)
  have k3 := k1.trans kA
  have SX2 := hide ((SX.out.kept kA (fun _ _ h => h)).more kA.size)
  clear kA SX
  generalize W1.alloc _ = W3 at *
  generalize W1.heap.size = G at *
  try go_wp2_with fail
  refine hK.out _ _ (HRd.out _ k3) (fun hHeld => ?_)
  clear hK K
  (try simp only [Act.put, List.setIfInBounds_toArray, List.set_cons_zero, List.set_cons_succ])
  trace "BUILT"
  refine wpAnyH_take (i := 7) (v := ?_) rfl (by kernel_rfl) (by kernel_rfl) (by kernel_rfl) (fun _ _ _ h => h) (Or.inl ⟨by kernel_rfl, ?_⟩) (by assumption) ?_; rotate_left; focus (intro w hSw; (try dsimp only at hSw); obtain ⟨⟨h1, h2, h3, h4⟩, ⟨h5, h6, h7, h8⟩⟩ := hSw; go_simp; try (with_reducible rfl)); (try simp only [Act.put, List.setIfInBounds_toArray, List.set_cons_zero, List.set_cons_succ])
  refine wpAnyH_done (by kernel_rfl) ?_ _
  refine ⟨G, ⟨⟨tx, ux, Ax, Rx, nx, cx, mx, dx⟩, lx, Fx, SX2.out, BG.out, k3⟩, ⟨_, _, _, _, _, _, rfl⟩⟩
end sbounds
end Go.Proofs.Ytaiopdipldaimaa
