/-
  Deck.Summary: its other regions that draw. No conditions beyond those of the statement.
-/
import Derived.Test.YtaiopdipldaimaaYc
set_option linter.unusedVariables false
set_option linter.unusedSimpArgs false
namespace Go.Proofs.Ytaiopdipldaimaa
open Go.RowKit
namespace dsum
theorem remq (x m : Int) (x0 : 0 ≤ x) (m1 : 1 ≤ m) : ∃ q, Int.tmod x m = q ∧ 0 ≤ q ∧ q < m :=
  ⟨_, rfl, by rw [Int.tmod_eq_emod_of_nonneg x0]; exact Int.emod_nonneg _ (by omega), by rw [Int.tmod_eq_emod_of_nonneg x0]; exact Int.emod_lt_of_pos _ (by omega)⟩
noncomputable def rg11 : Code := ((Try.f24.body.bind (findReg 11)).getD .skip)
set_option maxRecDepth 1000000 in
set_option maxHeartbeats 4000000 in
theorem reg11 (B g X5 gx : Nat) (w1 : World) (tot own : Int) (k : ByteArray) (o1 : 1 ≤ own) (o2 : own ≤ tot) (t2 : tot ≤ 9223372036854775808) (hD : IsDeck w1 B g) (c5 : w1.cell? ⟨X5, 0, none⟩ = some (.int .u64 tot)) (h5 : X5 ≠ g) (hx : gx ≠ g) (hx5 : gx ≠ X5) (hBx : B ≤ gx)
    (hB : Blk w1 gx 99 #[.string k, .int .u64 own, .int .u64 0]) (s1 s2 s3 s4 s6 s7 s8 s10 s11 s12 s13 s14 s15 s16 s17 s18 s19 s20 s21 s22 s23 s24 s25 s26 s27 s28 s29 s30 s31 s32 s33 s34 s35 s36 s37 s38 s39 s40 s41 s42 s43 s44 s45 s46 s47 s48 s49 s50 s51 s52 s53 s54 s55 s56 s57 s58 s59 s60 s61 s62 s63 s64 s65 s66 s67 s68 s69 s70 s71 s72 s73 s74 s75 s76 s77 s78 s79 s80 s81 s82 s83 s84 s85 s86 s87 s88 s89 s90 s91 s92 s93 s94 s95 s96 s97 s98 s99 s100 s101 s102 s103 s104 s105 s106 s107 s108 s109 s110 s111 s112 s113 s114 s115 s116 s117 : Value) :
    Code.wp Try.prog rg11 (NormPost fun a' w' => ∃ sl : Int, (0 ≤ sl ∧ own + sl ≤ tot) ∧ Blk w' gx 99 #[.string k, .int .u64 own, .int .u64 sl] ∧ IsDeck w' B g ∧ Keeps (fun b => b = g ∨ b = gx) w1 w' ∧ (∃ u54 u55 u56 u57 u58 u59 u60 u61 u62 u63 u64 : Value, a' = ⟨#[.pointer (some ⟨g, 0, none⟩), s1, s2, s3, s4, .pointer (some ⟨X5, 0, none⟩), s6, s7, s8, .pointer (some ⟨gx, 0, none⟩), s10, s11, s12, s13, s14, s15, s16, s17, s18, s19, s20, s21, s22, s23, s24, s25, s26, s27, s28, s29, s30, s31, s32, s33, s34, s35, s36, s37, s38, s39, s40, s41, s42, s43, s44, s45, s46, s47, s48, s49, s50, s51, s52, s53, u54, u55, u56, u57, u58, u59, u60, u61, u62, u63, u64, s65, s66, s67, s68, s69, s70, s71, s72, s73, s74, s75, s76, s77, s78, s79, s80, s81, s82, s83, s84, s85, s86, s87, s88, s89, s90, s91, s92, s93, s94, s95, s96, s97, s98, s99, s100, s101, s102, s103, s104, s105, s106, s107, s108, s109, s110, s111, s112, s113, s114, s115, s116, s117], []⟩)) ⟨#[.pointer (some ⟨g, 0, none⟩), s1, s2, s3, s4, .pointer (some ⟨X5, 0, none⟩), s6, s7, s8, .pointer (some ⟨gx, 0, none⟩), s10, s11, s12, s13, s14, s15, s16, s17, s18, s19, s20, s21, s22, s23, s24, s25, s26, s27, s28, s29, s30, s31, s32, s33, s34, s35, s36, s37, s38, s39, s40, s41, s42, s43, s44, s45, s46, s47, s48, s49, s50, s51, s52, s53, s54, s55, s56, s57, s58, s59, s60, s61, s62, s63, s64, s65, s66, s67, s68, s69, s70, s71, s72, s73, s74, s75, s76, s77, s78, s79, s80, s81, s82, s83, s84, s85, s86, s87, s88, s89, s90, s91, s92, s93, s94, s95, s96, s97, s98, s99, s100, s101, s102, s103, s104, s105, s106, s107, s108, s109, s110, s111, s112, s113, s114, s115, s116, s117], []⟩ w1 := by
  have BX := hide hB
  have DK := hide (IsDeck.drew hD)
  have C5 := hide c5
  have e1 : IntKind.u64.wrap (tot - own) = tot - own := IntWalk.u64_in _ (by omega)
  have e2 : IntKind.u64.wrap (tot - own + 1) = tot - own + 1 := IntWalk.u64_in _ (by omega)
  have hlz : ¬ (tot - own + 1 = 0) := by omega
  have hl0 : ((tot - own + 1) == 0) = false := by simp; omega
  have c1 := hB.cell 1
  clear hB hD
  conv => arg 2; whnf
  dsimp only
  refine wp_region_held_drew (S := fun W => W.cell? ⟨X5, 0, none⟩ = some (.int .u64 tot) ∧ W.cell? ⟨gx, 1, none⟩ = some (.int .u64 own)) (by kernel_rfl) ⟨C5.out, c1⟩ (fun hHeld => ?_)
  clear c5 c1
  refine wpAnyH_take (i := 0) (v := ?_) rfl (by kernel_rfl) (by kernel_rfl) (by kernel_rfl) (fun _ _ _ h => h) (Or.inl ⟨by kernel_rfl, ?_⟩) (by assumption) ?_; rotate_left; focus (intro w hSw; (try dsimp only at hSw); go_simp; try (with_reducible rfl)); (try simp only [Act.put, List.setIfInBounds_toArray, List.set_cons_zero, List.set_cons_succ])
  refine wpAnyH_take (i := 3) (v := ?_) rfl (by kernel_rfl) (by kernel_rfl) (by kernel_rfl) (fun _ _ _ h => h) (Or.inl ⟨by kernel_rfl, ?_⟩) (by assumption) ?_; rotate_left; focus (intro w hSw; (try dsimp only at hSw); go_simp; try (with_reducible rfl)); (try simp only [Act.put, List.setIfInBounds_toArray, List.set_cons_zero, List.set_cons_succ])
  refine wpAnyH_take (i := 4) (v := ?_) rfl (by kernel_rfl) (by kernel_rfl) (by kernel_rfl) (fun _ _ _ h => h) (Or.inl ⟨by kernel_rfl, ?_⟩) (by assumption) ?_; rotate_left; focus (intro w hSw; (try dsimp only at hSw); go_simp; try (with_reducible rfl)); (try simp only [Act.put, List.setIfInBounds_toArray, List.set_cons_zero, List.set_cons_succ])
  refine wpAnyH_take (i := 5) (v := ?_) rfl (by kernel_rfl) (by kernel_rfl) (by kernel_rfl) (fun _ _ _ h => h) (Or.inl ⟨by kernel_rfl, ?_⟩) (by assumption) ?_; rotate_left; focus (intro w hSw; (try dsimp only at hSw); go_simp; try (with_reducible rfl)); (try simp only [Act.put, List.setIfInBounds_toArray, List.set_cons_zero, List.set_cons_succ])
  refine wpAnyH_take (i := 6) (v := ?_) rfl (by kernel_rfl) (by kernel_rfl) (by kernel_rfl) (fun _ _ _ h => h) (Or.inl ⟨by kernel_rfl, ?_⟩) (by assumption) ?_; rotate_left; focus (intro w hSw; (try dsimp only at hSw); go_simp; try (with_reducible rfl)); (try simp only [Act.put, List.setIfInBounds_toArray, List.set_cons_zero, List.set_cons_succ])
  refine wpAnyH_take (i := 7) (v := ?_) rfl (by kernel_rfl) (by kernel_rfl) (by kernel_rfl) (fun _ _ _ h => h) (Or.inl ⟨by kernel_rfl, ?_⟩) (by assumption) ?_; rotate_left; focus (intro w hSw; (try dsimp only at hSw); go_simp; try (with_reducible rfl)); (try simp only [Act.put, List.setIfInBounds_toArray, List.set_cons_zero, List.set_cons_succ])
  refine wpAnyH_take (i := 8) (v := ?_) rfl (by kernel_rfl) (by kernel_rfl) (by kernel_rfl) (fun _ _ _ h => h) (Or.inl ⟨by kernel_rfl, ?_⟩) (by assumption) ?_; rotate_left; focus (intro w hSw; (try dsimp only at hSw); go_simp; try (with_reducible rfl)); (try simp only [Act.put, List.setIfInBounds_toArray, List.set_cons_zero, List.set_cons_succ])
  refine wpAnyH_ready (rs := [1]) (by kernel_rfl) (by simp) ?_
  refine AllReadyH.cons rfl (fun K hK => ?_) AllReadyH.nil
  go_simp
  go_at_call 48
  refine (next_any _ (by omega) (by omega) B g w1.drew DK.out).mono ?_
  rintro e w2 ⟨x, rfl, x0, x1, hd, k2⟩
  have DK := hide hd
  have kk : Keeps (· = g) w1 w2 := (Keeps.refl (· = g) w1).drew.trans k2
  have BX := hide (BX.out.kept kk hx)
  have C5 := hide (kk.cell_some C5.out h5)
  have KK := hide kk
  have c1 := BX.out.cell 1
  clear hd k2 kk
  try go_wp2_with fail
  refine hK.out _ _ ⟨C5.out, c1⟩ (fun hHeld => ?_)
  clear hK K
  (try simp only [Act.put, List.setIfInBounds_toArray, List.set_cons_zero, List.set_cons_succ])
  have e3 : IntKind.u64.wrap x = x := IntWalk.u64_in _ (by omega)
  obtain ⟨q, hq, q0, q1⟩ := remq x (tot - own + 1) x0 (by omega)
  have e4 : IntKind.u64.wrap q = q := IntWalk.u64_in _ (by omega)
  refine wpAnyH_take (i := 2) (v := ?_) rfl (by kernel_rfl) (by kernel_rfl) (by kernel_rfl) (fun _ _ _ h => h) (Or.inl ⟨by kernel_rfl, ?_⟩) (by assumption) ?_; rotate_left; focus (intro w hSw; (try dsimp only at hSw); go_simp; try (with_reducible rfl)); (try simp only [Act.put, List.setIfInBounds_toArray, List.set_cons_zero, List.set_cons_succ])
  refine wpAnyH_take (i := 9) (v := ?_) rfl (by kernel_rfl) (by kernel_rfl) (by kernel_rfl) (fun _ _ _ h => h) (Or.inl ⟨by kernel_rfl, ?_⟩) (by assumption) ?_; rotate_left; focus (intro w hSw; (try dsimp only at hSw); go_simp; try (with_reducible rfl)); (try simp only [Act.put, List.setIfInBounds_toArray, List.set_cons_zero, List.set_cons_succ])
  refine wpAnyH_take (i := 10) (v := ?_) rfl (by kernel_rfl) (by kernel_rfl) (by kernel_rfl) (fun _ _ _ h => h) (Or.inl ⟨by kernel_rfl, ?_⟩) (by assumption) ?_; rotate_left; focus (intro w hSw; (try dsimp only at hSw); go_simp; try (with_reducible rfl)); (try simp only [Act.put, List.setIfInBounds_toArray, List.set_cons_zero, List.set_cons_succ])
  have p2 := BX.out.cell 2
  have f2 := BX.out.frozen 2
  refine wpAnyH_ready (rs := [11]) (by kernel_rfl) (by simp) ?_
  refine AllReadyH.cons rfl (fun K hK => ?_) AllReadyH.nil
  go_simp
  have kS : Keeps (· = gx) w2 (w2.setCell ⟨gx, 2, none⟩ (.int .u64 q)) := Keeps.setCell (S := (· = gx)) (p := ⟨gx, 2, none⟩) (Keeps.refl _ _) (.inl rfl) _
  have hBs := BX.out.set 2 (.int .u64 q)
  refine hK.out _ _ ⟨kS.cell_some C5.out (fun h => hx5 h.symm), hBs.cell 1⟩ (fun hHeld => ?_)
  clear hK K
  (try simp only [Act.put, List.setIfInBounds_toArray, List.set_cons_zero, List.set_cons_succ])
  refine wpAnyH_done (by kernel_rfl) ?_ _
  refine ⟨q, ⟨q0, by omega⟩, hBs, DK.out.kept kS (fun h => hx h.symm) (fun b hb e => by omega), ?_, ⟨_, _, _, _, _, _, _, _, _, _, _, rfl⟩⟩
  exact ((Keeps.refl (fun b => b = g ∨ b = gx) w1).step KK.out (fun b hb e => Or.inl e)).step kS (fun b hb e => Or.inr e)
noncomputable def rg14 : Code := ((Try.f24.body.bind (findReg 14)).getD .skip)
set_option maxRecDepth 1000000 in
set_option maxHeartbeats 4000000 in
theorem reg14 (B g X5 : Nat) (w1 : World) (tot : Int) (vE vR : Value) (t0 : 0 ≤ tot) (t2 : tot ≤ 9223372036854775808) (hD : IsDeck w1 B g) (h5 : X5 ≠ g) (hB5 : B ≤ X5)
    (hB : Blk w1 X5 45 #[.int .u64 tot, vE, .int .u64 0, vR]) (s1 s2 s3 s4 s6 s7 s8 s9 s10 s11 s12 s13 s14 s15 s16 s17 s18 s19 s20 s21 s22 s23 s24 s25 s26 s27 s28 s29 s30 s31 s32 s33 s34 s35 s36 s37 s38 s39 s40 s41 s42 s43 s44 s45 s46 s47 s48 s49 s50 s51 s52 s53 s54 s55 s56 s57 s58 s59 s60 s61 s62 s63 s64 s65 s66 s67 s68 s69 s70 s71 s72 s73 s74 s75 s76 s77 s78 s79 s80 s81 s82 s83 s84 s85 s86 s87 s88 s89 s90 s91 s92 s93 s94 s95 s96 s97 s98 s99 s100 s101 s102 s103 s104 s105 s106 s107 s108 s109 s110 s111 s112 s113 s114 s115 s116 s117 : Value) :
    Code.wp Try.prog rg14 (NormPost fun a' w' => ∃ un : Int, (0 ≤ un ∧ un ≤ tot) ∧ Blk w' X5 45 #[.int .u64 tot, vE, .int .u64 un, vR] ∧ IsDeck w' B g ∧ Keeps (fun b => b = g ∨ b = X5) w1 w' ∧ (∃ u75 u76 u77 u78 u79 u80 u81 u82 : Value, a' = ⟨#[.pointer (some ⟨g, 0, none⟩), s1, s2, s3, s4, .pointer (some ⟨X5, 0, none⟩), s6, s7, s8, s9, s10, s11, s12, s13, s14, s15, s16, s17, s18, s19, s20, s21, s22, s23, s24, s25, s26, s27, s28, s29, s30, s31, s32, s33, s34, s35, s36, s37, s38, s39, s40, s41, s42, s43, s44, s45, s46, s47, s48, s49, s50, s51, s52, s53, s54, s55, s56, s57, s58, s59, s60, s61, s62, s63, s64, s65, s66, s67, s68, s69, s70, s71, s72, s73, s74, u75, u76, u77, u78, u79, u80, u81, u82, s83, s84, s85, s86, s87, s88, s89, s90, s91, s92, s93, s94, s95, s96, s97, s98, s99, s100, s101, s102, s103, s104, s105, s106, s107, s108, s109, s110, s111, s112, s113, s114, s115, s116, s117], []⟩)) ⟨#[.pointer (some ⟨g, 0, none⟩), s1, s2, s3, s4, .pointer (some ⟨X5, 0, none⟩), s6, s7, s8, s9, s10, s11, s12, s13, s14, s15, s16, s17, s18, s19, s20, s21, s22, s23, s24, s25, s26, s27, s28, s29, s30, s31, s32, s33, s34, s35, s36, s37, s38, s39, s40, s41, s42, s43, s44, s45, s46, s47, s48, s49, s50, s51, s52, s53, s54, s55, s56, s57, s58, s59, s60, s61, s62, s63, s64, s65, s66, s67, s68, s69, s70, s71, s72, s73, s74, s75, s76, s77, s78, s79, s80, s81, s82, s83, s84, s85, s86, s87, s88, s89, s90, s91, s92, s93, s94, s95, s96, s97, s98, s99, s100, s101, s102, s103, s104, s105, s106, s107, s108, s109, s110, s111, s112, s113, s114, s115, s116, s117], []⟩ w1 := by
  have BX := hide hB
  have DK := hide (IsDeck.drew hD)
  have e2 : IntKind.u64.wrap (tot + 1) = tot + 1 := IntWalk.u64_in _ (by omega)
  have hlz : ¬ (tot + 1 = 0) := by omega
  have hl0 : ((tot + 1) == 0) = false := by simp; omega
  have c5 : w1.cell? ⟨X5, 0, none⟩ = some (.int .u64 tot) := hB.cell 0
  clear hB hD
  conv => arg 2; whnf
  dsimp only
  refine wp_region_held_drew (S := fun W => W.cell? ⟨X5, 0, none⟩ = some (.int .u64 tot)) (by kernel_rfl) c5 (fun hHeld => ?_)
  clear c5
  refine wpAnyH_take (i := 0) (v := ?_) rfl (by kernel_rfl) (by kernel_rfl) (by kernel_rfl) (fun _ _ _ h => h) (Or.inl ⟨by kernel_rfl, ?_⟩) (by assumption) ?_; rotate_left; focus (intro w hSw; (try dsimp only at hSw); go_simp; try (with_reducible rfl)); (try simp only [Act.put, List.setIfInBounds_toArray, List.set_cons_zero, List.set_cons_succ])
  refine wpAnyH_take (i := 3) (v := ?_) rfl (by kernel_rfl) (by kernel_rfl) (by kernel_rfl) (fun _ _ _ h => h) (Or.inl ⟨by kernel_rfl, ?_⟩) (by assumption) ?_; rotate_left; focus (intro w hSw; (try dsimp only at hSw); go_simp; try (with_reducible rfl)); (try simp only [Act.put, List.setIfInBounds_toArray, List.set_cons_zero, List.set_cons_succ])
  refine wpAnyH_take (i := 4) (v := ?_) rfl (by kernel_rfl) (by kernel_rfl) (by kernel_rfl) (fun _ _ _ h => h) (Or.inl ⟨by kernel_rfl, ?_⟩) (by assumption) ?_; rotate_left; focus (intro w hSw; (try dsimp only at hSw); go_simp; try (with_reducible rfl)); (try simp only [Act.put, List.setIfInBounds_toArray, List.set_cons_zero, List.set_cons_succ])
  refine wpAnyH_take (i := 5) (v := ?_) rfl (by kernel_rfl) (by kernel_rfl) (by kernel_rfl) (fun _ _ _ h => h) (Or.inl ⟨by kernel_rfl, ?_⟩) (by assumption) ?_; rotate_left; focus (intro w hSw; (try dsimp only at hSw); go_simp; try (with_reducible rfl)); (try simp only [Act.put, List.setIfInBounds_toArray, List.set_cons_zero, List.set_cons_succ])
  refine wpAnyH_ready (rs := [1]) (by kernel_rfl) (by simp) ?_
  refine AllReadyH.cons rfl (fun K hK => ?_) AllReadyH.nil
  go_simp
  go_at_call 48
  refine (next_any _ (by omega) (by omega) B g w1.drew DK.out).mono ?_
  rintro e w2 ⟨x, rfl, x0, x1, hd, k2⟩
  have DK := hide hd
  have kk : Keeps (· = g) w1 w2 := (Keeps.refl (· = g) w1).drew.trans k2
  have BX := hide (BX.out.kept kk h5)
  have KK := hide kk
  have c5 : w2.cell? ⟨X5, 0, none⟩ = some (.int .u64 tot) := BX.out.cell 0
  clear hd k2 kk
  try go_wp2_with fail
  refine hK.out _ _ c5 (fun hHeld => ?_)
  clear hK K
  (try simp only [Act.put, List.setIfInBounds_toArray, List.set_cons_zero, List.set_cons_succ])
  have e3 : IntKind.u64.wrap x = x := IntWalk.u64_in _ (by omega)
  obtain ⟨q, hq, q0, q1⟩ := remq x (tot + 1) x0 (by omega)
  have e4 : IntKind.u64.wrap q = q := IntWalk.u64_in _ (by omega)
  refine wpAnyH_take (i := 2) (v := ?_) rfl (by kernel_rfl) (by kernel_rfl) (by kernel_rfl) (fun _ _ _ h => h) (Or.inl ⟨by kernel_rfl, ?_⟩) (by assumption) ?_; rotate_left; focus (intro w hSw; (try dsimp only at hSw); go_simp; try (with_reducible rfl)); (try simp only [Act.put, List.setIfInBounds_toArray, List.set_cons_zero, List.set_cons_succ])
  refine wpAnyH_take (i := 6) (v := ?_) rfl (by kernel_rfl) (by kernel_rfl) (by kernel_rfl) (fun _ _ _ h => h) (Or.inl ⟨by kernel_rfl, ?_⟩) (by assumption) ?_; rotate_left; focus (intro w hSw; (try dsimp only at hSw); go_simp; try (with_reducible rfl)); (try simp only [Act.put, List.setIfInBounds_toArray, List.set_cons_zero, List.set_cons_succ])
  refine wpAnyH_take (i := 7) (v := ?_) rfl (by kernel_rfl) (by kernel_rfl) (by kernel_rfl) (fun _ _ _ h => h) (Or.inl ⟨by kernel_rfl, ?_⟩) (by assumption) ?_; rotate_left; focus (intro w hSw; (try dsimp only at hSw); go_simp; try (with_reducible rfl)); (try simp only [Act.put, List.setIfInBounds_toArray, List.set_cons_zero, List.set_cons_succ])
  have p2 := BX.out.cell 2
  have f2 := BX.out.frozen 2
  refine wpAnyH_ready (rs := [8]) (by kernel_rfl) (by simp) ?_
  refine AllReadyH.cons rfl (fun K hK => ?_) AllReadyH.nil
  go_simp
  have kS : Keeps (· = X5) w2 (w2.setCell ⟨X5, 2, none⟩ (.int .u64 q)) := Keeps.setCell (S := (· = X5)) (p := ⟨X5, 2, none⟩) (Keeps.refl _ _) (.inl rfl) _
  have hBs := BX.out.set 2 (.int .u64 q)
  have c5' : (w2.setCell ⟨X5, 2, none⟩ (.int .u64 q)).cell? ⟨X5, 0, none⟩ = some (.int .u64 tot) := hBs.cell 0
  refine hK.out _ _ c5' (fun hHeld => ?_)
  clear hK K
  (try simp only [Act.put, List.setIfInBounds_toArray, List.set_cons_zero, List.set_cons_succ])
  refine wpAnyH_done (by kernel_rfl) ?_ _
  refine ⟨q, ⟨q0, by omega⟩, hBs, DK.out.kept kS (fun h => h5 h.symm) (fun b hb e => by omega), ?_, ⟨_, _, _, _, _, _, _, _, rfl⟩⟩
  exact ((Keeps.refl (fun b => b = g ∨ b = X5) w1).step KK.out (fun b hb e => Or.inl e)).step kS (fun b hb e => Or.inr e)
noncomputable def rg23 : Code := ((Try.f24.body.bind (findReg 23)).getD .skip)
set_option maxRecDepth 1000000 in
set_option maxHeartbeats 4000000 in
theorem reg23 (B g X5 gr n i : Nat) (w1 : World) (tot : Int) (zs : List Int) (t0 : 0 ≤ tot) (t2 : tot ≤ 9223372036854775808) (hD : IsDeck w1 B g) (c5 : w1.cell? ⟨X5, 0, none⟩ = some (.int .u64 tot)) (h5 : X5 ≠ g) (hx : gr ≠ g) (hx5 : gr ≠ X5) (hBx : B ≤ gr) (hi : i < n) (hn : n ≤ 256) (hzl : zs.length = n)
    (hB : Blk w1 gr 24 (zs.map (.int .u64)).toArray) (s1 s2 s3 s4 s6 s7 s8 s9 s10 s13 s14 s15 s16 s17 s18 s19 s20 s21 s22 s23 s24 s25 s26 s27 s28 s29 s30 s31 s32 s33 s34 s35 s36 s37 s38 s39 s40 s41 s42 s43 s44 s45 s46 s47 s48 s49 s50 s51 s52 s53 s54 s55 s56 s57 s58 s59 s60 s61 s62 s63 s64 s65 s66 s67 s68 s69 s70 s71 s72 s73 s74 s75 s76 s77 s78 s79 s80 s81 s82 s83 s84 s85 s86 s87 s88 s89 s90 s91 s92 s93 s94 s95 s96 s97 s98 s99 s100 s101 s102 s103 s104 s105 s106 s107 s108 s109 s110 s111 s112 s113 s114 s115 s116 s117 : Value) :
    Code.wp Try.prog rg23 (NormPost fun a' w' => ∃ q : Int, (0 ≤ q ∧ q ≤ tot) ∧ Blk w' gr 24 ((zs.set i q).map (.int .u64)).toArray ∧ IsDeck w' B g ∧ Keeps (fun b => b = g ∨ b = gr) w1 w' ∧ (∃ u100 u101 u102 u103 u104 u105 u106 u107 u108 u109 : Value, a' = ⟨#[.pointer (some ⟨g, 0, none⟩), s1, s2, s3, s4, .pointer (some ⟨X5, 0, none⟩), s6, s7, s8, s9, s10, .slice (some ⟨gr, 0, none⟩) n n, .int .i64 (i : Int), s13, s14, s15, s16, s17, s18, s19, s20, s21, s22, s23, s24, s25, s26, s27, s28, s29, s30, s31, s32, s33, s34, s35, s36, s37, s38, s39, s40, s41, s42, s43, s44, s45, s46, s47, s48, s49, s50, s51, s52, s53, s54, s55, s56, s57, s58, s59, s60, s61, s62, s63, s64, s65, s66, s67, s68, s69, s70, s71, s72, s73, s74, s75, s76, s77, s78, s79, s80, s81, s82, s83, s84, s85, s86, s87, s88, s89, s90, s91, s92, s93, s94, s95, s96, s97, s98, s99, u100, u101, u102, u103, u104, u105, u106, u107, u108, u109, s110, s111, s112, s113, s114, s115, s116, s117], []⟩)) ⟨#[.pointer (some ⟨g, 0, none⟩), s1, s2, s3, s4, .pointer (some ⟨X5, 0, none⟩), s6, s7, s8, s9, s10, .slice (some ⟨gr, 0, none⟩) n n, .int .i64 (i : Int), s13, s14, s15, s16, s17, s18, s19, s20, s21, s22, s23, s24, s25, s26, s27, s28, s29, s30, s31, s32, s33, s34, s35, s36, s37, s38, s39, s40, s41, s42, s43, s44, s45, s46, s47, s48, s49, s50, s51, s52, s53, s54, s55, s56, s57, s58, s59, s60, s61, s62, s63, s64, s65, s66, s67, s68, s69, s70, s71, s72, s73, s74, s75, s76, s77, s78, s79, s80, s81, s82, s83, s84, s85, s86, s87, s88, s89, s90, s91, s92, s93, s94, s95, s96, s97, s98, s99, s100, s101, s102, s103, s104, s105, s106, s107, s108, s109, s110, s111, s112, s113, s114, s115, s116, s117], []⟩ w1 := by
  have BX := hide hB
  have DK := hide (IsDeck.drew hD)
  have C5 := hide c5
  have HZ := hide hzl
  have e2 : IntKind.u64.wrap (tot + 1) = tot + 1 := IntWalk.u64_in _ (by omega)
  have hlz : ¬ (tot + 1 = 0) := by omega
  have hl0 : ((tot + 1) == 0) = false := by simp; omega
  have hi0 : (0 : Int) ≤ (i : Int) := by omega
  have hi1 : (i : Int) < (n : Int) := by omega
  clear hB hD hzl
  conv => arg 2; whnf
  dsimp only
  refine wp_region_held_drew (S := fun W => W.cell? ⟨X5, 0, none⟩ = some (.int .u64 tot)) (by kernel_rfl) c5 (fun hHeld => ?_)
  clear c5
  refine wpAnyH_take (i := 0) (v := ?_) rfl (by kernel_rfl) (by kernel_rfl) (by kernel_rfl) (fun _ _ _ h => h) (Or.inl ⟨by kernel_rfl, ?_⟩) (by assumption) ?_; rotate_left; focus (intro w hSw; (try dsimp only at hSw); go_simp; try (with_reducible rfl)); (try simp only [Act.put, List.setIfInBounds_toArray, List.set_cons_zero, List.set_cons_succ])
  refine wpAnyH_take (i := 1) (v := ?_) rfl (by kernel_rfl) (by kernel_rfl) (by kernel_rfl) (fun _ _ _ h => h) (Or.inl ⟨by kernel_rfl, ?_⟩) (by assumption) ?_; rotate_left; focus (intro w hSw; (try dsimp only at hSw); go_simp; try (with_reducible rfl)); (try simp only [Act.put, List.setIfInBounds_toArray, List.set_cons_zero, List.set_cons_succ])
  refine wpAnyH_take (i := 2) (v := ?_) rfl (by kernel_rfl) (by kernel_rfl) (by kernel_rfl) (fun _ _ _ h => h) (Or.inl ⟨by kernel_rfl, ?_⟩) (by assumption) ?_; rotate_left; focus (intro w hSw; (try dsimp only at hSw); go_simp; try (with_reducible rfl)); (try simp only [Act.put, List.setIfInBounds_toArray, List.set_cons_zero, List.set_cons_succ])
  refine wpAnyH_take (i := 5) (v := ?_) rfl (by kernel_rfl) (by kernel_rfl) (by kernel_rfl) (fun _ _ _ h => h) (Or.inl ⟨by kernel_rfl, ?_⟩) (by assumption) ?_; rotate_left; focus (intro w hSw; (try dsimp only at hSw); go_simp; try (with_reducible rfl)); (try simp only [Act.put, List.setIfInBounds_toArray, List.set_cons_zero, List.set_cons_succ])
  refine wpAnyH_take (i := 6) (v := ?_) rfl (by kernel_rfl) (by kernel_rfl) (by kernel_rfl) (fun _ _ _ h => h) (Or.inl ⟨by kernel_rfl, ?_⟩) (by assumption) ?_; rotate_left; focus (intro w hSw; (try dsimp only at hSw); go_simp; try (with_reducible rfl)); (try simp only [Act.put, List.setIfInBounds_toArray, List.set_cons_zero, List.set_cons_succ])
  refine wpAnyH_take (i := 7) (v := ?_) rfl (by kernel_rfl) (by kernel_rfl) (by kernel_rfl) (fun _ _ _ h => h) (Or.inl ⟨by kernel_rfl, ?_⟩) (by assumption) ?_; rotate_left; focus (intro w hSw; (try dsimp only at hSw); go_simp; try (with_reducible rfl)); (try simp only [Act.put, List.setIfInBounds_toArray, List.set_cons_zero, List.set_cons_succ])
  refine wpAnyH_ready (rs := [3]) (by kernel_rfl) (by simp) ?_
  refine AllReadyH.cons rfl (fun K hK => ?_) AllReadyH.nil
  go_simp
  go_at_call 48
  refine (next_any _ (by omega) (by omega) B g w1.drew DK.out).mono ?_
  rintro e w2 ⟨x, rfl, x0, x1, hd, k2⟩
  have DK := hide hd
  have kk : Keeps (· = g) w1 w2 := (Keeps.refl (· = g) w1).drew.trans k2
  have BX := hide (BX.out.kept kk hx)
  have C5 := hide (kk.cell_some C5.out h5)
  have KK := hide kk
  clear hd k2 kk
  try go_wp2_with fail
  refine hK.out _ _ C5.out (fun hHeld => ?_)
  clear hK K
  (try simp only [Act.put, List.setIfInBounds_toArray, List.set_cons_zero, List.set_cons_succ])
  have e3 : IntKind.u64.wrap x = x := IntWalk.u64_in _ (by omega)
  obtain ⟨q, hq, q0, q1⟩ := remq x (tot + 1) x0 (by omega)
  have e4 : IntKind.u64.wrap q = q := IntWalk.u64_in _ (by omega)
  refine wpAnyH_take (i := 4) (v := ?_) rfl (by kernel_rfl) (by kernel_rfl) (by kernel_rfl) (fun _ _ _ h => h) (Or.inl ⟨by kernel_rfl, ?_⟩) (by assumption) ?_; rotate_left; focus (intro w hSw; (try dsimp only at hSw); go_simp; try (with_reducible rfl)); (try simp only [Act.put, List.setIfInBounds_toArray, List.set_cons_zero, List.set_cons_succ])
  refine wpAnyH_take (i := 8) (v := ?_) rfl (by kernel_rfl) (by kernel_rfl) (by kernel_rfl) (fun _ _ _ h => h) (Or.inl ⟨by kernel_rfl, ?_⟩) (by assumption) ?_; rotate_left; focus (intro w hSw; (try dsimp only at hSw); go_simp; try (with_reducible rfl)); (try simp only [Act.put, List.setIfInBounds_toArray, List.set_cons_zero, List.set_cons_succ])
  refine wpAnyH_take (i := 9) (v := ?_) rfl (by kernel_rfl) (by kernel_rfl) (by kernel_rfl) (fun _ _ _ h => h) (Or.inl ⟨by kernel_rfl, ?_⟩) (by assumption) ?_; rotate_left; focus (intro w hSw; (try dsimp only at hSw); go_simp; try (with_reducible rfl)); (try simp only [Act.put, List.setIfInBounds_toArray, List.set_cons_zero, List.set_cons_succ])
  have p2 : w2.cell? ⟨gr, i, none⟩ = some (.int .u64 (zs.getD i 0)) := by rw [BX.out.cell]; have := HZ.out; simp [List.getD, show i < zs.length by omega]
  have f2 := BX.out.frozen i
  refine wpAnyH_ready (rs := [10]) (by kernel_rfl) (by simp) ?_
  refine AllReadyH.cons rfl (fun K hK => ?_) AllReadyH.nil
  go_simp
  have kS : Keeps (· = gr) w2 (w2.setCell ⟨gr, i, none⟩ (.int .u64 q)) := Keeps.setCell (S := (· = gr)) (p := ⟨gr, i, none⟩) (Keeps.refl _ _) (.inl rfl) _
  have hBs : Blk (w2.setCell ⟨gr, i, none⟩ (.int .u64 q)) gr 24 ((zs.set i q).map (.int .u64)).toArray := by
    have := BX.out.set i (.int .u64 q)
    simpa [List.map_set] using this
  refine hK.out _ _ (kS.cell_some C5.out (fun h => hx5 h.symm)) (fun hHeld => ?_)
  clear hK K
  (try simp only [Act.put, List.setIfInBounds_toArray, List.set_cons_zero, List.set_cons_succ])
  refine wpAnyH_done (by kernel_rfl) ?_ _
  refine ⟨q, ⟨q0, by omega⟩, hBs, DK.out.kept kS (fun h => hx h.symm) (fun b hb e => by omega), ?_, ⟨_, _, _, _, _, _, _, _, _, _, rfl⟩⟩
  exact ((Keeps.refl (fun b => b = g ∨ b = gr) w1).step KK.out (fun b hb e => Or.inl e)).step kS (fun b hb e => Or.inr e)
end dsum
end Go.Proofs.Ytaiopdipldaimaa
