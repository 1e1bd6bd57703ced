/-
  Deck.Summary: a new entry. No conditions beyond those of the statement.
-/
import Derived.Test.YtaiopdipldaimaaYb
import Derived.Deep.RegionWith
import Derived.Deep.RegionHeld3
import Derived.OrdersHeld
set_option linter.unusedVariables false
set_option linter.unusedSimpArgs false
namespace Go.Proofs.Ytaiopdipldaimaa
open Go.RowKit
namespace dsum
def findReg (q : Nat) : Code → Option Code
  | .region id ops b => if id = q then some (.region id ops b) else none
  | .loop c => findReg q c
  | .seq a b => match findReg q a with
    | some c => some c
    | none => findReg q b
  | .block _ c => findReg q c
  | .scope c => findReg q c
  | .cond _ a b => match findReg q a with
    | some c => some c
    | none => findReg q b
  | _ => none
def NormPost (W : Act → World → Prop) : Exit → Act → World → Prop
  | .normal, a, w => W a w
  | _, _, _ => False
noncomputable def rg10 : Code := ((Try.f24.body.bind (findReg 10)).getD .skip)
/-- an entry in a block of its own -/
def NewE (w1 : World) (B g : Nat) (left y : Int) (gx : Nat) (w' : World) : Prop :=
  ∃ own : Int, 1 ≤ own ∧ own ≤ left ∧ Blk w' gx 99 #[.string (keyOf y.toNat), .int .u64 own, .int .u64 0] ∧ w1.heap.size ≤ gx ∧ IsDeck w' B g ∧ Keeps (· = g) w1 w'
set_option maxRecDepth 1000000 in
set_option maxHeartbeats 4000000 in
theorem reg10 (B g : Nat) (w1 : World) (left y : Int) (l1 : 1 ≤ left) (l2 : left ≤ 9223372036854775808) (y0 : 0 ≤ y) (y1 : y < 256) (hD : IsDeck w1 B g) (s1 s2 s3 s4 s5 s8 s9 s10 s11 s12 s13 s14 s15 s16 s17 s18 s19 s20 s21 s22 s23 s24 s25 s26 s27 s28 s29 s30 s31 s32 s33 s34 s35 s36 s37 s38 s39 s40 s41 s42 s43 s44 s45 s46 s47 s48 s49 s50 s51 s52 s53 s54 s55 s56 s57 s58 s59 s60 s61 s62 s63 s64 s65 s66 s67 s68 s69 s70 s71 s72 s73 s74 s75 s76 s77 s78 s79 s80 s81 s82 s83 s84 s85 s86 s87 s88 s89 s90 s91 s92 s93 s94 s95 s96 s97 s98 s99 s100 s101 s102 s103 s104 s105 s106 s107 s108 s109 s110 s111 s112 s113 s114 s115 s116 s117 : Value) :
    Code.wp Try.prog rg10 (NormPost fun a' w' => ∃ gx, NewE w1 B g left y gx w' ∧ (∃ u44 u45 u46 u47 u48 u49 u50 u51 u52 u53 : Value, a' = ⟨#[.pointer (some ⟨g, 0, none⟩), s1, s2, s3, s4, s5, .int .u64 left, .int .u8 y, s8, .pointer (some ⟨gx, 0, none⟩), s10, s11, s12, s13, s14, s15, s16, s17, s18, s19, s20, s21, s22, s23, s24, s25, s26, s27, s28, s29, s30, s31, s32, s33, s34, s35, s36, s37, s38, s39, s40, s41, s42, s43, u44, u45, u46, u47, u48, u49, u50, u51, u52, u53, s54, s55, s56, s57, s58, s59, s60, s61, s62, s63, s64, s65, s66, s67, s68, s69, s70, s71, s72, s73, s74, s75, s76, s77, s78, s79, s80, s81, s82, s83, s84, s85, s86, s87, s88, s89, s90, s91, s92, s93, s94, s95, s96, s97, s98, s99, s100, s101, s102, s103, s104, s105, s106, s107, s108, s109, s110, s111, s112, s113, s114, s115, s116, s117], []⟩)) ⟨#[.pointer (some ⟨g, 0, none⟩), s1, s2, s3, s4, s5, .int .u64 left, .int .u8 y, s8, s9, s10, s11, s12, s13, s14, s15, s16, s17, s18, s19, s20, s21, s22, s23, s24, s25, s26, s27, s28, s29, s30, s31, s32, s33, s34, s35, s36, s37, s38, s39, s40, s41, s42, s43, s44, s45, s46, s47, s48, s49, s50, s51, s52, s53, s54, s55, s56, s57, s58, s59, s60, s61, s62, s63, s64, s65, s66, s67, s68, s69, s70, s71, s72, s73, s74, s75, s76, s77, s78, s79, s80, s81, s82, s83, s84, s85, s86, s87, s88, s89, s90, s91, s92, s93, s94, s95, s96, s97, s98, s99, s100, s101, s102, s103, s104, s105, s106, s107, s108, s109, s110, s111, s112, s113, s114, s115, s116, s117], []⟩ w1 := by
  have hg := hD.lt
  have hBg := hD.le
  have hl0 : (left == 0) = false := by simp; omega
  have hlz : ¬ left = 0 := by omega
  have KK := hide (Keeps.drew (Keeps.refl (· = g) w1))
  have DK := hide (IsDeck.drew hD)
  have KS : ∀ (W : World) (gx : Nat) (a b c : Value), Keeps (· = gx) W (((W.setCell ⟨gx, 0, none⟩ a).setCell ⟨gx, 1, none⟩ b).setCell ⟨gx, 2, none⟩ c) := fun W gx a b c => Keeps.setCell (S := (· = gx)) (p := ⟨gx, 2, none⟩) (Keeps.setCell (S := (· = gx)) (p := ⟨gx, 1, none⟩) (Keeps.setCell (S := (· = gx)) (p := ⟨gx, 0, none⟩) (Keeps.refl _ _) (.inl rfl) _) (.inl rfl) _) (.inl rfl) _
  clear hD
  conv => arg 2; whnf
  dsimp only
  refine wp_region_held_drew (S := fun _ => True) (by kernel_rfl) trivial (fun hHeld => ?_)
  refine wpAnyH_take (i := 0) (v := ?_) rfl (by kernel_rfl) (by kernel_rfl) (by kernel_rfl) (fun _ _ _ h => h) (Or.inl ⟨by kernel_rfl, ?_⟩) (by trivial) ?_; rotate_left; focus (intro w hSw; (try dsimp only at hSw); go_simp; try (with_reducible rfl)); (try simp only [Act.put, List.setIfInBounds_toArray, List.set_cons_zero, List.set_cons_succ])
  refine wpAnyH_take (i := 3) (v := ?_) rfl (by kernel_rfl) (by kernel_rfl) (by kernel_rfl) (fun _ _ _ h => h) (Or.inl ⟨by kernel_rfl, ?_⟩) (by trivial) ?_; rotate_left; focus (intro w hSw; (try dsimp only at hSw); go_simp; try (with_reducible rfl)); (try simp only [Act.put, List.setIfInBounds_toArray, List.set_cons_zero, List.set_cons_succ])
  refine wpAnyH_take (i := 6) (v := ?_) rfl (by kernel_rfl) (by kernel_rfl) (by kernel_rfl) (fun _ _ _ h => h) (Or.inl ⟨by kernel_rfl, ?_⟩) (by trivial) ?_; rotate_left; focus (intro w hSw; (try dsimp only at hSw); go_simp; try (with_reducible rfl)); (try simp only [Act.put, List.setIfInBounds_toArray, List.set_cons_zero, List.set_cons_succ])
  generalize hWd : w1.drew = W0 at *
  refine wpAnyH_ready (rs := [1, 4, 10]) (by kernel_rfl) (by simp) ?_
  refine AllReadyH.cons rfl (fun K hK => ?_) (AllReadyH.cons rfl (fun K hK => ?_) (AllReadyH.cons rfl (fun K hK => ?_) AllReadyH.nil))
  · go_simp
    have kA := (Keeps.refl (fun _ => False) W0).alloc (.cells #[.int .u8 y] 5)
    have CE : Hid ((W0.alloc (.cells #[.int .u8 y] 5)).cell? ⟨W0.heap.size, 0, none⟩ = some (.int .u8 y)) := hide ((Blk.new W0 5 #[.int .u8 y]).cell 0)
    have KS0 := hide KK.out.size
    have KK := hide (KK.out.step0 kA)
    have DK := hide (DK.out.kept kA (fun h => h) (fun _ _ h => h))
    clear kA
    refine hK.out _ _ trivial (fun hHeld => ?_)
    clear hK K
    generalize W0.alloc _ = W1 at *
    have HGB : w1.heap.size ≤ W0.heap.size := KS0.out
    generalize W0.heap.size = gb at *
    (try simp only [Act.put, List.setIfInBounds_toArray, List.set_cons_zero, List.set_cons_succ])
    refine wpAnyH_ready (rs := [2, 4, 10]) (by kernel_rfl) (by simp) ?_
    refine AllReadyH.cons rfl (fun K hK => ?_) (AllReadyH.cons rfl (fun K hK => ?_) (AllReadyH.cons rfl (fun K hK => ?_) AllReadyH.nil))
    · have hcv := run_conv1w y y0 y1 W1 gb CE.out
      go_simp
      refine hK.out _ _ trivial (fun hHeld => ?_)
      clear hK K hcv CE
      (try simp only [Act.put, List.setIfInBounds_toArray, List.set_cons_zero, List.set_cons_succ])
      (try simp only [Act.put, List.setIfInBounds_toArray, List.set_cons_zero, List.set_cons_succ])
      refine wpAnyH_ready (rs := [4, 10]) (by kernel_rfl) (by simp) ?_
      refine AllReadyH.cons rfl (fun K hK => ?_) (AllReadyH.cons rfl (fun K hK => ?_) AllReadyH.nil)
      · go_simp
        go_at_call 48
        refine (next_any _ (by omega) (by omega) B g W1 DK.out).mono ?_
        rintro e W3 ⟨x, rfl, x0, x1, hd, k2⟩
        have DK := hide hd
        have KK := hide (KK.out.trans k2)
        clear hd k2
        try go_wp2_with fail
        refine hK.out _ _ trivial (fun hHeld => ?_)
        clear hK K
        (try simp only [Act.put, List.setIfInBounds_toArray, List.set_cons_zero, List.set_cons_succ])
        have e1 : IntKind.u64.wrap x = x := IntWalk.u64_in _ (by omega)
        obtain ⟨q, hq, q0, q1⟩ : ∃ q, Int.tmod x left = q ∧ 0 ≤ q ∧ q < left := ⟨_, rfl, by rw [Int.tmod_eq_emod_of_nonneg x0]; exact Int.emod_nonneg _ (by omega), by rw [Int.tmod_eq_emod_of_nonneg x0]; exact Int.emod_lt_of_pos _ (by omega)⟩
        have e2 : IntKind.u64.wrap q = q := IntWalk.u64_in _ (by omega)
        have e3 : IntKind.u64.wrap (1 + q) = 1 + q := IntWalk.u64_in _ (by omega)
        have O1 : 1 ≤ 1 + q := by omega
        have O2 : 1 + q ≤ left := by omega
        refine wpAnyH_take (i := 5) (v := ?_) rfl (by kernel_rfl) (by kernel_rfl) (by kernel_rfl) (fun _ _ _ h => h) (Or.inl ⟨by kernel_rfl, ?_⟩) (by trivial) ?_; rotate_left; focus (intro w hSw; (try dsimp only at hSw); go_simp; try (with_reducible rfl)); (try simp only [Act.put, List.setIfInBounds_toArray, List.set_cons_zero, List.set_cons_succ])
        refine wpAnyH_take (i := 7) (v := ?_) rfl (by kernel_rfl) (by kernel_rfl) (by kernel_rfl) (fun _ _ _ h => h) (Or.inl ⟨by kernel_rfl, ?_⟩) (by trivial) ?_; rotate_left; focus (intro w hSw; (try dsimp only at hSw); go_simp; try (with_reducible rfl)); (try simp only [Act.put, List.setIfInBounds_toArray, List.set_cons_zero, List.set_cons_succ])
        refine wpAnyH_take (i := 8) (v := ?_) rfl (by kernel_rfl) (by kernel_rfl) (by kernel_rfl) (fun _ _ _ h => h) (Or.inl ⟨by kernel_rfl, ?_⟩) (by trivial) ?_; rotate_left; focus (intro w hSw; (try dsimp only at hSw); go_simp; try (with_reducible rfl)); (try simp only [Act.put, List.setIfInBounds_toArray, List.set_cons_zero, List.set_cons_succ])
        (try simp only [Act.put, List.setIfInBounds_toArray, List.set_cons_zero, List.set_cons_succ])
        refine wpAnyH_take (i := 9) (v := ?_) rfl (by kernel_rfl) (by kernel_rfl) (by kernel_rfl) (fun _ _ _ h => h) (Or.inl ⟨by kernel_rfl, ?_⟩) (by trivial) ?_; rotate_left; focus (intro w hSw; (try dsimp only at hSw); go_simp; try (with_reducible rfl)); (try simp only [Act.put, List.setIfInBounds_toArray, List.set_cons_zero, List.set_cons_succ])
        refine wpAnyH_ready (rs := [10]) (by kernel_rfl) (by simp) ?_
        refine AllReadyH.cons rfl (fun K hK => ?_) AllReadyH.nil
        · go_simp
          have kA := (Keeps.refl (fun _ => False) W3).alloc (.cells #[.string ⟨#[]⟩, .int .u64 0, .int .u64 0] 99)
          have BL := hide (Blk.new W3 99 #[.string ⟨#[]⟩, .int .u64 0, .int .u64 0])
          have HGX : w1.heap.size ≤ W3.heap.size := KK.out.size
          have KK := hide (KK.out.step0 kA)
          have DK := hide (DK.out.kept kA (fun h => h) (fun _ _ h => h))
          clear kA
          refine hK.out _ _ trivial (fun hHeld => ?_)
          clear hK K
          generalize W3.alloc _ = W4 at *
          generalize W3.heap.size = gx at *
          (try simp only [Act.put, List.setIfInBounds_toArray, List.set_cons_zero, List.set_cons_succ])
          have p0 := BL.out.cell 0
          have p1 := BL.out.cell 1
          have p2 := BL.out.cell 2
          have f0 := BL.out.frozen 0
          have f1 := BL.out.frozen 1
          have f2 := BL.out.frozen 2
          refine wpAnyH_ready (rs := [11]) (by kernel_rfl) (by simp) ?_
          refine AllReadyH.cons rfl (fun K hK => ?_) AllReadyH.nil
          go_simp
          refine hK.out _ _ trivial (fun hHeld => ?_)
          clear hK K
          (try simp only [Act.put, List.setIfInBounds_toArray, List.set_cons_zero, List.set_cons_succ])
          refine wpAnyH_done (by kernel_rfl) ?_ _
          refine ⟨gx, ⟨_, O1, O2, ((BL.out.set 0 _).set 1 _).set 2 _, HGX, DK.out.kept (S := (· = gx)) (KS _ _ _ _ _) (by omega) (by omega), KK.out.step (KS _ _ _ _ _) (fun b hb e => by omega)⟩, ⟨_, _, _, _, _, _, _, _, _, _, rfl⟩⟩
      · go_simp
        have kA := (Keeps.refl (fun _ => False) W1).alloc (.cells #[.string ⟨#[]⟩, .int .u64 0, .int .u64 0] 99)
        have BL := hide (Blk.new W1 99 #[.string ⟨#[]⟩, .int .u64 0, .int .u64 0])
        have HGX : w1.heap.size ≤ W1.heap.size := KK.out.size
        have KK := hide (KK.out.step0 kA)
        have DK := hide (DK.out.kept kA (fun h => h) (fun _ _ h => h))
        clear kA
        refine hK.out _ _ trivial (fun hHeld => ?_)
        clear hK K
        generalize W1.alloc _ = W5 at *
        generalize W1.heap.size = gx at *
        (try simp only [Act.put, List.setIfInBounds_toArray, List.set_cons_zero, List.set_cons_succ])
        refine wpAnyH_ready (rs := [4]) (by kernel_rfl) (by simp) ?_
        refine AllReadyH.cons rfl (fun K hK => ?_) AllReadyH.nil
        · go_simp
          go_at_call 48
          refine (next_any _ (by omega) (by omega) B g W5 DK.out).mono ?_
          rintro e W6 ⟨x, rfl, x0, x1, hd, k2⟩
          have DK := hide hd
          have BL := hide (BL.out.kept k2 (by omega))
          have KK := hide (KK.out.trans k2)
          clear hd k2
          try go_wp2_with fail
          refine hK.out _ _ trivial (fun hHeld => ?_)
          clear hK K
          (try simp only [Act.put, List.setIfInBounds_toArray, List.set_cons_zero, List.set_cons_succ])
          have e1 : IntKind.u64.wrap x = x := IntWalk.u64_in _ (by omega)
          obtain ⟨q, hq, q0, q1⟩ : ∃ q, Int.tmod x left = q ∧ 0 ≤ q ∧ q < left := ⟨_, rfl, by rw [Int.tmod_eq_emod_of_nonneg x0]; exact Int.emod_nonneg _ (by omega), by rw [Int.tmod_eq_emod_of_nonneg x0]; exact Int.emod_lt_of_pos _ (by omega)⟩
          have e2 : IntKind.u64.wrap q = q := IntWalk.u64_in _ (by omega)
          have e3 : IntKind.u64.wrap (1 + q) = 1 + q := IntWalk.u64_in _ (by omega)
          have O1 : 1 ≤ 1 + q := by omega
          have O2 : 1 + q ≤ left := by omega
          refine wpAnyH_take (i := 5) (v := ?_) rfl (by kernel_rfl) (by kernel_rfl) (by kernel_rfl) (fun _ _ _ h => h) (Or.inl ⟨by kernel_rfl, ?_⟩) (by trivial) ?_; rotate_left; focus (intro w hSw; (try dsimp only at hSw); go_simp; try (with_reducible rfl)); (try simp only [Act.put, List.setIfInBounds_toArray, List.set_cons_zero, List.set_cons_succ])
          refine wpAnyH_take (i := 7) (v := ?_) rfl (by kernel_rfl) (by kernel_rfl) (by kernel_rfl) (fun _ _ _ h => h) (Or.inl ⟨by kernel_rfl, ?_⟩) (by trivial) ?_; rotate_left; focus (intro w hSw; (try dsimp only at hSw); go_simp; try (with_reducible rfl)); (try simp only [Act.put, List.setIfInBounds_toArray, List.set_cons_zero, List.set_cons_succ])
          refine wpAnyH_take (i := 8) (v := ?_) rfl (by kernel_rfl) (by kernel_rfl) (by kernel_rfl) (fun _ _ _ h => h) (Or.inl ⟨by kernel_rfl, ?_⟩) (by trivial) ?_; rotate_left; focus (intro w hSw; (try dsimp only at hSw); go_simp; try (with_reducible rfl)); (try simp only [Act.put, List.setIfInBounds_toArray, List.set_cons_zero, List.set_cons_succ])
          (try simp only [Act.put, List.setIfInBounds_toArray, List.set_cons_zero, List.set_cons_succ])
          refine wpAnyH_take (i := 9) (v := ?_) rfl (by kernel_rfl) (by kernel_rfl) (by kernel_rfl) (fun _ _ _ h => h) (Or.inl ⟨by kernel_rfl, ?_⟩) (by trivial) ?_; rotate_left; focus (intro w hSw; (try dsimp only at hSw); go_simp; try (with_reducible rfl)); (try simp only [Act.put, List.setIfInBounds_toArray, List.set_cons_zero, List.set_cons_succ])
          have p0 := BL.out.cell 0
          have p1 := BL.out.cell 1
          have p2 := BL.out.cell 2
          have f0 := BL.out.frozen 0
          have f1 := BL.out.frozen 1
          have f2 := BL.out.frozen 2
          refine wpAnyH_ready (rs := [11]) (by kernel_rfl) (by simp) ?_
          refine AllReadyH.cons rfl (fun K hK => ?_) AllReadyH.nil
          go_simp
          refine hK.out _ _ trivial (fun hHeld => ?_)
          clear hK K
          (try simp only [Act.put, List.setIfInBounds_toArray, List.set_cons_zero, List.set_cons_succ])
          refine wpAnyH_done (by kernel_rfl) ?_ _
          refine ⟨gx, ⟨_, O1, O2, ((BL.out.set 0 _).set 1 _).set 2 _, HGX, DK.out.kept (S := (· = gx)) (KS _ _ _ _ _) (by omega) (by omega), KK.out.step (KS _ _ _ _ _) (fun b hb e => by omega)⟩, ⟨_, _, _, _, _, _, _, _, _, _, rfl⟩⟩
    · go_simp
      go_at_call 48
      refine (next_any _ (by omega) (by omega) B g W1 DK.out).mono ?_
      rintro e W7 ⟨x, rfl, x0, x1, hd, k2⟩
      have DK := hide hd
      have CE := hide (k2.cell_some CE.out (by have := HGB; dsimp only; omega))
      have KK := hide (KK.out.trans k2)
      clear hd k2
      try go_wp2_with fail
      refine hK.out _ _ trivial (fun hHeld => ?_)
      clear hK K
      (try simp only [Act.put, List.setIfInBounds_toArray, List.set_cons_zero, List.set_cons_succ])
      have e1 : IntKind.u64.wrap x = x := IntWalk.u64_in _ (by omega)
      obtain ⟨q, hq, q0, q1⟩ : ∃ q, Int.tmod x left = q ∧ 0 ≤ q ∧ q < left := ⟨_, rfl, by rw [Int.tmod_eq_emod_of_nonneg x0]; exact Int.emod_nonneg _ (by omega), by rw [Int.tmod_eq_emod_of_nonneg x0]; exact Int.emod_lt_of_pos _ (by omega)⟩
      have e2 : IntKind.u64.wrap q = q := IntWalk.u64_in _ (by omega)
      have e3 : IntKind.u64.wrap (1 + q) = 1 + q := IntWalk.u64_in _ (by omega)
      have O1 : 1 ≤ 1 + q := by omega
      have O2 : 1 + q ≤ left := by omega
      refine wpAnyH_take (i := 5) (v := ?_) rfl (by kernel_rfl) (by kernel_rfl) (by kernel_rfl) (fun _ _ _ h => h) (Or.inl ⟨by kernel_rfl, ?_⟩) (by trivial) ?_; rotate_left; focus (intro w hSw; (try dsimp only at hSw); go_simp; try (with_reducible rfl)); (try simp only [Act.put, List.setIfInBounds_toArray, List.set_cons_zero, List.set_cons_succ])
      refine wpAnyH_take (i := 7) (v := ?_) rfl (by kernel_rfl) (by kernel_rfl) (by kernel_rfl) (fun _ _ _ h => h) (Or.inl ⟨by kernel_rfl, ?_⟩) (by trivial) ?_; rotate_left; focus (intro w hSw; (try dsimp only at hSw); go_simp; try (with_reducible rfl)); (try simp only [Act.put, List.setIfInBounds_toArray, List.set_cons_zero, List.set_cons_succ])
      refine wpAnyH_take (i := 8) (v := ?_) rfl (by kernel_rfl) (by kernel_rfl) (by kernel_rfl) (fun _ _ _ h => h) (Or.inl ⟨by kernel_rfl, ?_⟩) (by trivial) ?_; rotate_left; focus (intro w hSw; (try dsimp only at hSw); go_simp; try (with_reducible rfl)); (try simp only [Act.put, List.setIfInBounds_toArray, List.set_cons_zero, List.set_cons_succ])
      (try simp only [Act.put, List.setIfInBounds_toArray, List.set_cons_zero, List.set_cons_succ])
      refine wpAnyH_ready (rs := [2, 10]) (by kernel_rfl) (by simp) ?_
      refine AllReadyH.cons rfl (fun K hK => ?_) (AllReadyH.cons rfl (fun K hK => ?_) AllReadyH.nil)
      · have hcv := run_conv1w y y0 y1 W7 gb CE.out
        go_simp
        refine hK.out _ _ trivial (fun hHeld => ?_)
        clear hK K hcv CE
        (try simp only [Act.put, List.setIfInBounds_toArray, List.set_cons_zero, List.set_cons_succ])
        (try simp only [Act.put, List.setIfInBounds_toArray, List.set_cons_zero, List.set_cons_succ])
        refine wpAnyH_take (i := 9) (v := ?_) rfl (by kernel_rfl) (by kernel_rfl) (by kernel_rfl) (fun _ _ _ h => h) (Or.inl ⟨by kernel_rfl, ?_⟩) (by trivial) ?_; rotate_left; focus (intro w hSw; (try dsimp only at hSw); go_simp; try (with_reducible rfl)); (try simp only [Act.put, List.setIfInBounds_toArray, List.set_cons_zero, List.set_cons_succ])
        refine wpAnyH_ready (rs := [10]) (by kernel_rfl) (by simp) ?_
        refine AllReadyH.cons rfl (fun K hK => ?_) AllReadyH.nil
        · go_simp
          have kA := (Keeps.refl (fun _ => False) W7).alloc (.cells #[.string ⟨#[]⟩, .int .u64 0, .int .u64 0] 99)
          have BL := hide (Blk.new W7 99 #[.string ⟨#[]⟩, .int .u64 0, .int .u64 0])
          have HGX : w1.heap.size ≤ W7.heap.size := KK.out.size
          have KK := hide (KK.out.step0 kA)
          have DK := hide (DK.out.kept kA (fun h => h) (fun _ _ h => h))
          clear kA
          refine hK.out _ _ trivial (fun hHeld => ?_)
          clear hK K
          generalize W7.alloc _ = W9 at *
          generalize W7.heap.size = gx at *
          (try simp only [Act.put, List.setIfInBounds_toArray, List.set_cons_zero, List.set_cons_succ])
          have p0 := BL.out.cell 0
          have p1 := BL.out.cell 1
          have p2 := BL.out.cell 2
          have f0 := BL.out.frozen 0
          have f1 := BL.out.frozen 1
          have f2 := BL.out.frozen 2
          refine wpAnyH_ready (rs := [11]) (by kernel_rfl) (by simp) ?_
          refine AllReadyH.cons rfl (fun K hK => ?_) AllReadyH.nil
          go_simp
          refine hK.out _ _ trivial (fun hHeld => ?_)
          clear hK K
          (try simp only [Act.put, List.setIfInBounds_toArray, List.set_cons_zero, List.set_cons_succ])
          refine wpAnyH_done (by kernel_rfl) ?_ _
          refine ⟨gx, ⟨_, O1, O2, ((BL.out.set 0 _).set 1 _).set 2 _, HGX, DK.out.kept (S := (· = gx)) (KS _ _ _ _ _) (by omega) (by omega), KK.out.step (KS _ _ _ _ _) (fun b hb e => by omega)⟩, ⟨_, _, _, _, _, _, _, _, _, _, rfl⟩⟩
      · go_simp
        have kA := (Keeps.refl (fun _ => False) W7).alloc (.cells #[.string ⟨#[]⟩, .int .u64 0, .int .u64 0] 99)
        have BL := hide (Blk.new W7 99 #[.string ⟨#[]⟩, .int .u64 0, .int .u64 0])
        have HGX : w1.heap.size ≤ W7.heap.size := KK.out.size
        have KK := hide (KK.out.step0 kA)
        have DK := hide (DK.out.kept kA (fun h => h) (fun _ _ h => h))
        have CE := hide (kA.cell_some CE.out (fun h => h))
        clear kA
        refine hK.out _ _ trivial (fun hHeld => ?_)
        clear hK K
        generalize W7.alloc _ = W10 at *
        generalize W7.heap.size = gx at *
        (try simp only [Act.put, List.setIfInBounds_toArray, List.set_cons_zero, List.set_cons_succ])
        refine wpAnyH_ready (rs := [2]) (by kernel_rfl) (by simp) ?_
        refine AllReadyH.cons rfl (fun K hK => ?_) AllReadyH.nil
        · have hcv := run_conv1w y y0 y1 W10 gb CE.out
          go_simp
          refine hK.out _ _ trivial (fun hHeld => ?_)
          clear hK K hcv CE
          (try simp only [Act.put, List.setIfInBounds_toArray, List.set_cons_zero, List.set_cons_succ])
          (try simp only [Act.put, List.setIfInBounds_toArray, List.set_cons_zero, List.set_cons_succ])
          refine wpAnyH_take (i := 9) (v := ?_) rfl (by kernel_rfl) (by kernel_rfl) (by kernel_rfl) (fun _ _ _ h => h) (Or.inl ⟨by kernel_rfl, ?_⟩) (by trivial) ?_; rotate_left; focus (intro w hSw; (try dsimp only at hSw); go_simp; try (with_reducible rfl)); (try simp only [Act.put, List.setIfInBounds_toArray, List.set_cons_zero, List.set_cons_succ])
          have p0 := BL.out.cell 0
          have p1 := BL.out.cell 1
          have p2 := BL.out.cell 2
          have f0 := BL.out.frozen 0
          have f1 := BL.out.frozen 1
          have f2 := BL.out.frozen 2
          refine wpAnyH_ready (rs := [11]) (by kernel_rfl) (by simp) ?_
          refine AllReadyH.cons rfl (fun K hK => ?_) AllReadyH.nil
          go_simp
          refine hK.out _ _ trivial (fun hHeld => ?_)
          clear hK K
          (try simp only [Act.put, List.setIfInBounds_toArray, List.set_cons_zero, List.set_cons_succ])
          refine wpAnyH_done (by kernel_rfl) ?_ _
          refine ⟨gx, ⟨_, O1, O2, ((BL.out.set 0 _).set 1 _).set 2 _, HGX, DK.out.kept (S := (· = gx)) (KS _ _ _ _ _) (by omega) (by omega), KK.out.step (KS _ _ _ _ _) (fun b hb e => by omega)⟩, ⟨_, _, _, _, _, _, _, _, _, _, rfl⟩⟩
    · go_simp
      have kA := (Keeps.refl (fun _ => False) W1).alloc (.cells #[.string ⟨#[]⟩, .int .u64 0, .int .u64 0] 99)
      have BL := hide (Blk.new W1 99 #[.string ⟨#[]⟩, .int .u64 0, .int .u64 0])
      have HGX : w1.heap.size ≤ W1.heap.size := KK.out.size
      have KK := hide (KK.out.step0 kA)
      have DK := hide (DK.out.kept kA (fun h => h) (fun _ _ h => h))
      have CE := hide (kA.cell_some CE.out (fun h => h))
      clear kA
      refine hK.out _ _ trivial (fun hHeld => ?_)
      clear hK K
      generalize W1.alloc _ = W12 at *
      generalize W1.heap.size = gx at *
      (try simp only [Act.put, List.setIfInBounds_toArray, List.set_cons_zero, List.set_cons_succ])
      refine wpAnyH_ready (rs := [2, 4]) (by kernel_rfl) (by simp) ?_
      refine AllReadyH.cons rfl (fun K hK => ?_) (AllReadyH.cons rfl (fun K hK => ?_) AllReadyH.nil)
      · have hcv := run_conv1w y y0 y1 W12 gb CE.out
        go_simp
        refine hK.out _ _ trivial (fun hHeld => ?_)
        clear hK K hcv CE
        (try simp only [Act.put, List.setIfInBounds_toArray, List.set_cons_zero, List.set_cons_succ])
        (try simp only [Act.put, List.setIfInBounds_toArray, List.set_cons_zero, List.set_cons_succ])
        refine wpAnyH_ready (rs := [4]) (by kernel_rfl) (by simp) ?_
        refine AllReadyH.cons rfl (fun K hK => ?_) AllReadyH.nil
        · go_simp
          go_at_call 48
          refine (next_any _ (by omega) (by omega) B g W12 DK.out).mono ?_
          rintro e W14 ⟨x, rfl, x0, x1, hd, k2⟩
          have DK := hide hd
          have BL := hide (BL.out.kept k2 (by omega))
          have KK := hide (KK.out.trans k2)
          clear hd k2
          try go_wp2_with fail
          refine hK.out _ _ trivial (fun hHeld => ?_)
          clear hK K
          (try simp only [Act.put, List.setIfInBounds_toArray, List.set_cons_zero, List.set_cons_succ])
          have e1 : IntKind.u64.wrap x = x := IntWalk.u64_in _ (by omega)
          obtain ⟨q, hq, q0, q1⟩ : ∃ q, Int.tmod x left = q ∧ 0 ≤ q ∧ q < left := ⟨_, rfl, by rw [Int.tmod_eq_emod_of_nonneg x0]; exact Int.emod_nonneg _ (by omega), by rw [Int.tmod_eq_emod_of_nonneg x0]; exact Int.emod_lt_of_pos _ (by omega)⟩
          have e2 : IntKind.u64.wrap q = q := IntWalk.u64_in _ (by omega)
          have e3 : IntKind.u64.wrap (1 + q) = 1 + q := IntWalk.u64_in _ (by omega)
          have O1 : 1 ≤ 1 + q := by omega
          have O2 : 1 + q ≤ left := by omega
          refine wpAnyH_take (i := 5) (v := ?_) rfl (by kernel_rfl) (by kernel_rfl) (by kernel_rfl) (fun _ _ _ h => h) (Or.inl ⟨by kernel_rfl, ?_⟩) (by trivial) ?_; rotate_left; focus (intro w hSw; (try dsimp only at hSw); go_simp; try (with_reducible rfl)); (try simp only [Act.put, List.setIfInBounds_toArray, List.set_cons_zero, List.set_cons_succ])
          refine wpAnyH_take (i := 7) (v := ?_) rfl (by kernel_rfl) (by kernel_rfl) (by kernel_rfl) (fun _ _ _ h => h) (Or.inl ⟨by kernel_rfl, ?_⟩) (by trivial) ?_; rotate_left; focus (intro w hSw; (try dsimp only at hSw); go_simp; try (with_reducible rfl)); (try simp only [Act.put, List.setIfInBounds_toArray, List.set_cons_zero, List.set_cons_succ])
          refine wpAnyH_take (i := 8) (v := ?_) rfl (by kernel_rfl) (by kernel_rfl) (by kernel_rfl) (fun _ _ _ h => h) (Or.inl ⟨by kernel_rfl, ?_⟩) (by trivial) ?_; rotate_left; focus (intro w hSw; (try dsimp only at hSw); go_simp; try (with_reducible rfl)); (try simp only [Act.put, List.setIfInBounds_toArray, List.set_cons_zero, List.set_cons_succ])
          (try simp only [Act.put, List.setIfInBounds_toArray, List.set_cons_zero, List.set_cons_succ])
          refine wpAnyH_take (i := 9) (v := ?_) rfl (by kernel_rfl) (by kernel_rfl) (by kernel_rfl) (fun _ _ _ h => h) (Or.inl ⟨by kernel_rfl, ?_⟩) (by trivial) ?_; rotate_left; focus (intro w hSw; (try dsimp only at hSw); go_simp; try (with_reducible rfl)); (try simp only [Act.put, List.setIfInBounds_toArray, List.set_cons_zero, List.set_cons_succ])
          have p0 := BL.out.cell 0
          have p1 := BL.out.cell 1
          have p2 := BL.out.cell 2
          have f0 := BL.out.frozen 0
          have f1 := BL.out.frozen 1
          have f2 := BL.out.frozen 2
          refine wpAnyH_ready (rs := [11]) (by kernel_rfl) (by simp) ?_
          refine AllReadyH.cons rfl (fun K hK => ?_) AllReadyH.nil
          go_simp
          refine hK.out _ _ trivial (fun hHeld => ?_)
          clear hK K
          (try simp only [Act.put, List.setIfInBounds_toArray, List.set_cons_zero, List.set_cons_succ])
          refine wpAnyH_done (by kernel_rfl) ?_ _
          refine ⟨gx, ⟨_, O1, O2, ((BL.out.set 0 _).set 1 _).set 2 _, HGX, DK.out.kept (S := (· = gx)) (KS _ _ _ _ _) (by omega) (by omega), KK.out.step (KS _ _ _ _ _) (fun b hb e => by omega)⟩, ⟨_, _, _, _, _, _, _, _, _, _, rfl⟩⟩
      · go_simp
        go_at_call 48
        refine (next_any _ (by omega) (by omega) B g W12 DK.out).mono ?_
        rintro e W15 ⟨x, rfl, x0, x1, hd, k2⟩
        have DK := hide hd
        have CE := hide (k2.cell_some CE.out (by have := HGB; dsimp only; omega))
        have BL := hide (BL.out.kept k2 (by omega))
        have KK := hide (KK.out.trans k2)
        clear hd k2
        try go_wp2_with fail
        refine hK.out _ _ trivial (fun hHeld => ?_)
        clear hK K
        (try simp only [Act.put, List.setIfInBounds_toArray, List.set_cons_zero, List.set_cons_succ])
        have e1 : IntKind.u64.wrap x = x := IntWalk.u64_in _ (by omega)
        obtain ⟨q, hq, q0, q1⟩ : ∃ q, Int.tmod x left = q ∧ 0 ≤ q ∧ q < left := ⟨_, rfl, by rw [Int.tmod_eq_emod_of_nonneg x0]; exact Int.emod_nonneg _ (by omega), by rw [Int.tmod_eq_emod_of_nonneg x0]; exact Int.emod_lt_of_pos _ (by omega)⟩
        have e2 : IntKind.u64.wrap q = q := IntWalk.u64_in _ (by omega)
        have e3 : IntKind.u64.wrap (1 + q) = 1 + q := IntWalk.u64_in _ (by omega)
        have O1 : 1 ≤ 1 + q := by omega
        have O2 : 1 + q ≤ left := by omega
        refine wpAnyH_take (i := 5) (v := ?_) rfl (by kernel_rfl) (by kernel_rfl) (by kernel_rfl) (fun _ _ _ h => h) (Or.inl ⟨by kernel_rfl, ?_⟩) (by trivial) ?_; rotate_left; focus (intro w hSw; (try dsimp only at hSw); go_simp; try (with_reducible rfl)); (try simp only [Act.put, List.setIfInBounds_toArray, List.set_cons_zero, List.set_cons_succ])
        refine wpAnyH_take (i := 7) (v := ?_) rfl (by kernel_rfl) (by kernel_rfl) (by kernel_rfl) (fun _ _ _ h => h) (Or.inl ⟨by kernel_rfl, ?_⟩) (by trivial) ?_; rotate_left; focus (intro w hSw; (try dsimp only at hSw); go_simp; try (with_reducible rfl)); (try simp only [Act.put, List.setIfInBounds_toArray, List.set_cons_zero, List.set_cons_succ])
        refine wpAnyH_take (i := 8) (v := ?_) rfl (by kernel_rfl) (by kernel_rfl) (by kernel_rfl) (fun _ _ _ h => h) (Or.inl ⟨by kernel_rfl, ?_⟩) (by trivial) ?_; rotate_left; focus (intro w hSw; (try dsimp only at hSw); go_simp; try (with_reducible rfl)); (try simp only [Act.put, List.setIfInBounds_toArray, List.set_cons_zero, List.set_cons_succ])
        (try simp only [Act.put, List.setIfInBounds_toArray, List.set_cons_zero, List.set_cons_succ])
        refine wpAnyH_ready (rs := [2]) (by kernel_rfl) (by simp) ?_
        refine AllReadyH.cons rfl (fun K hK => ?_) AllReadyH.nil
        · have hcv := run_conv1w y y0 y1 W15 gb CE.out
          go_simp
          refine hK.out _ _ trivial (fun hHeld => ?_)
          clear hK K hcv CE
          (try simp only [Act.put, List.setIfInBounds_toArray, List.set_cons_zero, List.set_cons_succ])
          (try simp only [Act.put, List.setIfInBounds_toArray, List.set_cons_zero, List.set_cons_succ])
          refine wpAnyH_take (i := 9) (v := ?_) rfl (by kernel_rfl) (by kernel_rfl) (by kernel_rfl) (fun _ _ _ h => h) (Or.inl ⟨by kernel_rfl, ?_⟩) (by trivial) ?_; rotate_left; focus (intro w hSw; (try dsimp only at hSw); go_simp; try (with_reducible rfl)); (try simp only [Act.put, List.setIfInBounds_toArray, List.set_cons_zero, List.set_cons_succ])
          have p0 := BL.out.cell 0
          have p1 := BL.out.cell 1
          have p2 := BL.out.cell 2
          have f0 := BL.out.frozen 0
          have f1 := BL.out.frozen 1
          have f2 := BL.out.frozen 2
          refine wpAnyH_ready (rs := [11]) (by kernel_rfl) (by simp) ?_
          refine AllReadyH.cons rfl (fun K hK => ?_) AllReadyH.nil
          go_simp
          refine hK.out _ _ trivial (fun hHeld => ?_)
          clear hK K
          (try simp only [Act.put, List.setIfInBounds_toArray, List.set_cons_zero, List.set_cons_succ])
          refine wpAnyH_done (by kernel_rfl) ?_ _
          refine ⟨gx, ⟨_, O1, O2, ((BL.out.set 0 _).set 1 _).set 2 _, HGX, DK.out.kept (S := (· = gx)) (KS _ _ _ _ _) (by omega) (by omega), KK.out.step (KS _ _ _ _ _) (fun b hb e => by omega)⟩, ⟨_, _, _, _, _, _, _, _, _, _, rfl⟩⟩
  · go_simp
    go_at_call 48
    refine (next_any _ (by omega) (by omega) B g W0 DK.out).mono ?_
    rintro e W17 ⟨x, rfl, x0, x1, hd, k2⟩
    have DK := hide hd
    have KK := hide (KK.out.trans k2)
    clear hd k2
    try go_wp2_with fail
    refine hK.out _ _ trivial (fun hHeld => ?_)
    clear hK K
    (try simp only [Act.put, List.setIfInBounds_toArray, List.set_cons_zero, List.set_cons_succ])
    have e1 : IntKind.u64.wrap x = x := IntWalk.u64_in _ (by omega)
    obtain ⟨q, hq, q0, q1⟩ : ∃ q, Int.tmod x left = q ∧ 0 ≤ q ∧ q < left := ⟨_, rfl, by rw [Int.tmod_eq_emod_of_nonneg x0]; exact Int.emod_nonneg _ (by omega), by rw [Int.tmod_eq_emod_of_nonneg x0]; exact Int.emod_lt_of_pos _ (by omega)⟩
    have e2 : IntKind.u64.wrap q = q := IntWalk.u64_in _ (by omega)
    have e3 : IntKind.u64.wrap (1 + q) = 1 + q := IntWalk.u64_in _ (by omega)
    have O1 : 1 ≤ 1 + q := by omega
    have O2 : 1 + q ≤ left := by omega
    refine wpAnyH_take (i := 5) (v := ?_) rfl (by kernel_rfl) (by kernel_rfl) (by kernel_rfl) (fun _ _ _ h => h) (Or.inl ⟨by kernel_rfl, ?_⟩) (by trivial) ?_; rotate_left; focus (intro w hSw; (try dsimp only at hSw); go_simp; try (with_reducible rfl)); (try simp only [Act.put, List.setIfInBounds_toArray, List.set_cons_zero, List.set_cons_succ])
    refine wpAnyH_take (i := 7) (v := ?_) rfl (by kernel_rfl) (by kernel_rfl) (by kernel_rfl) (fun _ _ _ h => h) (Or.inl ⟨by kernel_rfl, ?_⟩) (by trivial) ?_; rotate_left; focus (intro w hSw; (try dsimp only at hSw); go_simp; try (with_reducible rfl)); (try simp only [Act.put, List.setIfInBounds_toArray, List.set_cons_zero, List.set_cons_succ])
    refine wpAnyH_take (i := 8) (v := ?_) rfl (by kernel_rfl) (by kernel_rfl) (by kernel_rfl) (fun _ _ _ h => h) (Or.inl ⟨by kernel_rfl, ?_⟩) (by trivial) ?_; rotate_left; focus (intro w hSw; (try dsimp only at hSw); go_simp; try (with_reducible rfl)); (try simp only [Act.put, List.setIfInBounds_toArray, List.set_cons_zero, List.set_cons_succ])
    (try simp only [Act.put, List.setIfInBounds_toArray, List.set_cons_zero, List.set_cons_succ])
    refine wpAnyH_ready (rs := [1, 10]) (by kernel_rfl) (by simp) ?_
    refine AllReadyH.cons rfl (fun K hK => ?_) (AllReadyH.cons rfl (fun K hK => ?_) AllReadyH.nil)
    · go_simp
      have kA := (Keeps.refl (fun _ => False) W17).alloc (.cells #[.int .u8 y] 5)
      have CE : Hid ((W17.alloc (.cells #[.int .u8 y] 5)).cell? ⟨W17.heap.size, 0, none⟩ = some (.int .u8 y)) := hide ((Blk.new W17 5 #[.int .u8 y]).cell 0)
      have KS0 := hide KK.out.size
      have KK := hide (KK.out.step0 kA)
      have DK := hide (DK.out.kept kA (fun h => h) (fun _ _ h => h))
      clear kA
      refine hK.out _ _ trivial (fun hHeld => ?_)
      clear hK K
      generalize W17.alloc _ = W18 at *
      have HGB : w1.heap.size ≤ W17.heap.size := KS0.out
      generalize W17.heap.size = gb at *
      (try simp only [Act.put, List.setIfInBounds_toArray, List.set_cons_zero, List.set_cons_succ])
      refine wpAnyH_ready (rs := [2, 10]) (by kernel_rfl) (by simp) ?_
      refine AllReadyH.cons rfl (fun K hK => ?_) (AllReadyH.cons rfl (fun K hK => ?_) AllReadyH.nil)
      · have hcv := run_conv1w y y0 y1 W18 gb CE.out
        go_simp
        refine hK.out _ _ trivial (fun hHeld => ?_)
        clear hK K hcv CE
        (try simp only [Act.put, List.setIfInBounds_toArray, List.set_cons_zero, List.set_cons_succ])
        (try simp only [Act.put, List.setIfInBounds_toArray, List.set_cons_zero, List.set_cons_succ])
        refine wpAnyH_take (i := 9) (v := ?_) rfl (by kernel_rfl) (by kernel_rfl) (by kernel_rfl) (fun _ _ _ h => h) (Or.inl ⟨by kernel_rfl, ?_⟩) (by trivial) ?_; rotate_left; focus (intro w hSw; (try dsimp only at hSw); go_simp; try (with_reducible rfl)); (try simp only [Act.put, List.setIfInBounds_toArray, List.set_cons_zero, List.set_cons_succ])
        refine wpAnyH_ready (rs := [10]) (by kernel_rfl) (by simp) ?_
        refine AllReadyH.cons rfl (fun K hK => ?_) AllReadyH.nil
        · go_simp
          have kA := (Keeps.refl (fun _ => False) W18).alloc (.cells #[.string ⟨#[]⟩, .int .u64 0, .int .u64 0] 99)
          have BL := hide (Blk.new W18 99 #[.string ⟨#[]⟩, .int .u64 0, .int .u64 0])
          have HGX : w1.heap.size ≤ W18.heap.size := KK.out.size
          have KK := hide (KK.out.step0 kA)
          have DK := hide (DK.out.kept kA (fun h => h) (fun _ _ h => h))
          clear kA
          refine hK.out _ _ trivial (fun hHeld => ?_)
          clear hK K
          generalize W18.alloc _ = W20 at *
          generalize W18.heap.size = gx at *
          (try simp only [Act.put, List.setIfInBounds_toArray, List.set_cons_zero, List.set_cons_succ])
          have p0 := BL.out.cell 0
          have p1 := BL.out.cell 1
          have p2 := BL.out.cell 2
          have f0 := BL.out.frozen 0
          have f1 := BL.out.frozen 1
          have f2 := BL.out.frozen 2
          refine wpAnyH_ready (rs := [11]) (by kernel_rfl) (by simp) ?_
          refine AllReadyH.cons rfl (fun K hK => ?_) AllReadyH.nil
          go_simp
          refine hK.out _ _ trivial (fun hHeld => ?_)
          clear hK K
          (try simp only [Act.put, List.setIfInBounds_toArray, List.set_cons_zero, List.set_cons_succ])
          refine wpAnyH_done (by kernel_rfl) ?_ _
          refine ⟨gx, ⟨_, O1, O2, ((BL.out.set 0 _).set 1 _).set 2 _, HGX, DK.out.kept (S := (· = gx)) (KS _ _ _ _ _) (by omega) (by omega), KK.out.step (KS _ _ _ _ _) (fun b hb e => by omega)⟩, ⟨_, _, _, _, _, _, _, _, _, _, rfl⟩⟩
      · go_simp
        have kA := (Keeps.refl (fun _ => False) W18).alloc (.cells #[.string ⟨#[]⟩, .int .u64 0, .int .u64 0] 99)
        have BL := hide (Blk.new W18 99 #[.string ⟨#[]⟩, .int .u64 0, .int .u64 0])
        have HGX : w1.heap.size ≤ W18.heap.size := KK.out.size
        have KK := hide (KK.out.step0 kA)
        have DK := hide (DK.out.kept kA (fun h => h) (fun _ _ h => h))
        have CE := hide (kA.cell_some CE.out (fun h => h))
        clear kA
        refine hK.out _ _ trivial (fun hHeld => ?_)
        clear hK K
        generalize W18.alloc _ = W21 at *
        generalize W18.heap.size = gx at *
        (try simp only [Act.put, List.setIfInBounds_toArray, List.set_cons_zero, List.set_cons_succ])
        refine wpAnyH_ready (rs := [2]) (by kernel_rfl) (by simp) ?_
        refine AllReadyH.cons rfl (fun K hK => ?_) AllReadyH.nil
        · have hcv := run_conv1w y y0 y1 W21 gb CE.out
          go_simp
          refine hK.out _ _ trivial (fun hHeld => ?_)
          clear hK K hcv CE
          (try simp only [Act.put, List.setIfInBounds_toArray, List.set_cons_zero, List.set_cons_succ])
          (try simp only [Act.put, List.setIfInBounds_toArray, List.set_cons_zero, List.set_cons_succ])
          refine wpAnyH_take (i := 9) (v := ?_) rfl (by kernel_rfl) (by kernel_rfl) (by kernel_rfl) (fun _ _ _ h => h) (Or.inl ⟨by kernel_rfl, ?_⟩) (by trivial) ?_; rotate_left; focus (intro w hSw; (try dsimp only at hSw); go_simp; try (with_reducible rfl)); (try simp only [Act.put, List.setIfInBounds_toArray, List.set_cons_zero, List.set_cons_succ])
          have p0 := BL.out.cell 0
          have p1 := BL.out.cell 1
          have p2 := BL.out.cell 2
          have f0 := BL.out.frozen 0
          have f1 := BL.out.frozen 1
          have f2 := BL.out.frozen 2
          refine wpAnyH_ready (rs := [11]) (by kernel_rfl) (by simp) ?_
          refine AllReadyH.cons rfl (fun K hK => ?_) AllReadyH.nil
          go_simp
          refine hK.out _ _ trivial (fun hHeld => ?_)
          clear hK K
          (try simp only [Act.put, List.setIfInBounds_toArray, List.set_cons_zero, List.set_cons_succ])
          refine wpAnyH_done (by kernel_rfl) ?_ _
          refine ⟨gx, ⟨_, O1, O2, ((BL.out.set 0 _).set 1 _).set 2 _, HGX, DK.out.kept (S := (· = gx)) (KS _ _ _ _ _) (by omega) (by omega), KK.out.step (KS _ _ _ _ _) (fun b hb e => by omega)⟩, ⟨_, _, _, _, _, _, _, _, _, _, rfl⟩⟩
    · go_simp
      have kA := (Keeps.refl (fun _ => False) W17).alloc (.cells #[.string ⟨#[]⟩, .int .u64 0, .int .u64 0] 99)
      have BL := hide (Blk.new W17 99 #[.string ⟨#[]⟩, .int .u64 0, .int .u64 0])
      have HGX : w1.heap.size ≤ W17.heap.size := KK.out.size
      have KK := hide (KK.out.step0 kA)
      have DK := hide (DK.out.kept kA (fun h => h) (fun _ _ h => h))
      clear kA
      refine hK.out _ _ trivial (fun hHeld => ?_)
      clear hK K
      generalize W17.alloc _ = W23 at *
      generalize W17.heap.size = gx at *
      (try simp only [Act.put, List.setIfInBounds_toArray, List.set_cons_zero, List.set_cons_succ])
      refine wpAnyH_ready (rs := [1]) (by kernel_rfl) (by simp) ?_
      refine AllReadyH.cons rfl (fun K hK => ?_) AllReadyH.nil
      · go_simp
        have kA := (Keeps.refl (fun _ => False) W23).alloc (.cells #[.int .u8 y] 5)
        have CE : Hid ((W23.alloc (.cells #[.int .u8 y] 5)).cell? ⟨W23.heap.size, 0, none⟩ = some (.int .u8 y)) := hide ((Blk.new W23 5 #[.int .u8 y]).cell 0)
        have KS0 := hide KK.out.size
        have KK := hide (KK.out.step0 kA)
        have DK := hide (DK.out.kept kA (fun h => h) (fun _ _ h => h))
        have BL := hide (BL.out.kept kA (fun h => h))
        clear kA
        refine hK.out _ _ trivial (fun hHeld => ?_)
        clear hK K
        generalize W23.alloc _ = W24 at *
        have HGB : w1.heap.size ≤ W23.heap.size := KS0.out
        generalize W23.heap.size = gb at *
        (try simp only [Act.put, List.setIfInBounds_toArray, List.set_cons_zero, List.set_cons_succ])
        refine wpAnyH_ready (rs := [2]) (by kernel_rfl) (by simp) ?_
        refine AllReadyH.cons rfl (fun K hK => ?_) AllReadyH.nil
        · have hcv := run_conv1w y y0 y1 W24 gb CE.out
          go_simp
          refine hK.out _ _ trivial (fun hHeld => ?_)
          clear hK K hcv CE
          (try simp only [Act.put, List.setIfInBounds_toArray, List.set_cons_zero, List.set_cons_succ])
          (try simp only [Act.put, List.setIfInBounds_toArray, List.set_cons_zero, List.set_cons_succ])
          refine wpAnyH_take (i := 9) (v := ?_) rfl (by kernel_rfl) (by kernel_rfl) (by kernel_rfl) (fun _ _ _ h => h) (Or.inl ⟨by kernel_rfl, ?_⟩) (by trivial) ?_; rotate_left; focus (intro w hSw; (try dsimp only at hSw); go_simp; try (with_reducible rfl)); (try simp only [Act.put, List.setIfInBounds_toArray, List.set_cons_zero, List.set_cons_succ])
          have p0 := BL.out.cell 0
          have p1 := BL.out.cell 1
          have p2 := BL.out.cell 2
          have f0 := BL.out.frozen 0
          have f1 := BL.out.frozen 1
          have f2 := BL.out.frozen 2
          refine wpAnyH_ready (rs := [11]) (by kernel_rfl) (by simp) ?_
          refine AllReadyH.cons rfl (fun K hK => ?_) AllReadyH.nil
          go_simp
          refine hK.out _ _ trivial (fun hHeld => ?_)
          clear hK K
          (try simp only [Act.put, List.setIfInBounds_toArray, List.set_cons_zero, List.set_cons_succ])
          refine wpAnyH_done (by kernel_rfl) ?_ _
          refine ⟨gx, ⟨_, O1, O2, ((BL.out.set 0 _).set 1 _).set 2 _, HGX, DK.out.kept (S := (· = gx)) (KS _ _ _ _ _) (by omega) (by omega), KK.out.step (KS _ _ _ _ _) (fun b hb e => by omega)⟩, ⟨_, _, _, _, _, _, _, _, _, _, rfl⟩⟩
  · go_simp
    have kA := (Keeps.refl (fun _ => False) W0).alloc (.cells #[.string ⟨#[]⟩, .int .u64 0, .int .u64 0] 99)
    have BL := hide (Blk.new W0 99 #[.string ⟨#[]⟩, .int .u64 0, .int .u64 0])
    have HGX : w1.heap.size ≤ W0.heap.size := KK.out.size
    have KK := hide (KK.out.step0 kA)
    have DK := hide (DK.out.kept kA (fun h => h) (fun _ _ h => h))
    clear kA
    refine hK.out _ _ trivial (fun hHeld => ?_)
    clear hK K
    generalize W0.alloc _ = W26 at *
    generalize W0.heap.size = gx at *
    (try simp only [Act.put, List.setIfInBounds_toArray, List.set_cons_zero, List.set_cons_succ])
    refine wpAnyH_ready (rs := [1, 4]) (by kernel_rfl) (by simp) ?_
    refine AllReadyH.cons rfl (fun K hK => ?_) (AllReadyH.cons rfl (fun K hK => ?_) AllReadyH.nil)
    · go_simp
      have kA := (Keeps.refl (fun _ => False) W26).alloc (.cells #[.int .u8 y] 5)
      have CE : Hid ((W26.alloc (.cells #[.int .u8 y] 5)).cell? ⟨W26.heap.size, 0, none⟩ = some (.int .u8 y)) := hide ((Blk.new W26 5 #[.int .u8 y]).cell 0)
      have KS0 := hide KK.out.size
      have KK := hide (KK.out.step0 kA)
      have DK := hide (DK.out.kept kA (fun h => h) (fun _ _ h => h))
      have BL := hide (BL.out.kept kA (fun h => h))
      clear kA
      refine hK.out _ _ trivial (fun hHeld => ?_)
      clear hK K
      generalize W26.alloc _ = W27 at *
      have HGB : w1.heap.size ≤ W26.heap.size := KS0.out
      generalize W26.heap.size = gb at *
      (try simp only [Act.put, List.setIfInBounds_toArray, List.set_cons_zero, List.set_cons_succ])
      refine wpAnyH_ready (rs := [2, 4]) (by kernel_rfl) (by simp) ?_
      refine AllReadyH.cons rfl (fun K hK => ?_) (AllReadyH.cons rfl (fun K hK => ?_) AllReadyH.nil)
      · have hcv := run_conv1w y y0 y1 W27 gb CE.out
        go_simp
        refine hK.out _ _ trivial (fun hHeld => ?_)
        clear hK K hcv CE
        (try simp only [Act.put, List.setIfInBounds_toArray, List.set_cons_zero, List.set_cons_succ])
        (try simp only [Act.put, List.setIfInBounds_toArray, List.set_cons_zero, List.set_cons_succ])
        refine wpAnyH_ready (rs := [4]) (by kernel_rfl) (by simp) ?_
        refine AllReadyH.cons rfl (fun K hK => ?_) AllReadyH.nil
        · go_simp
          go_at_call 48
          refine (next_any _ (by omega) (by omega) B g W27 DK.out).mono ?_
          rintro e W29 ⟨x, rfl, x0, x1, hd, k2⟩
          have DK := hide hd
          have BL := hide (BL.out.kept k2 (by omega))
          have KK := hide (KK.out.trans k2)
          clear hd k2
          try go_wp2_with fail
          refine hK.out _ _ trivial (fun hHeld => ?_)
          clear hK K
          (try simp only [Act.put, List.setIfInBounds_toArray, List.set_cons_zero, List.set_cons_succ])
          have e1 : IntKind.u64.wrap x = x := IntWalk.u64_in _ (by omega)
          obtain ⟨q, hq, q0, q1⟩ : ∃ q, Int.tmod x left = q ∧ 0 ≤ q ∧ q < left := ⟨_, rfl, by rw [Int.tmod_eq_emod_of_nonneg x0]; exact Int.emod_nonneg _ (by omega), by rw [Int.tmod_eq_emod_of_nonneg x0]; exact Int.emod_lt_of_pos _ (by omega)⟩
          have e2 : IntKind.u64.wrap q = q := IntWalk.u64_in _ (by omega)
          have e3 : IntKind.u64.wrap (1 + q) = 1 + q := IntWalk.u64_in _ (by omega)
          have O1 : 1 ≤ 1 + q := by omega
          have O2 : 1 + q ≤ left := by omega
          refine wpAnyH_take (i := 5) (v := ?_) rfl (by kernel_rfl) (by kernel_rfl) (by kernel_rfl) (fun _ _ _ h => h) (Or.inl ⟨by kernel_rfl, ?_⟩) (by trivial) ?_; rotate_left; focus (intro w hSw; (try dsimp only at hSw); go_simp; try (with_reducible rfl)); (try simp only [Act.put, List.setIfInBounds_toArray, List.set_cons_zero, List.set_cons_succ])
          refine wpAnyH_take (i := 7) (v := ?_) rfl (by kernel_rfl) (by kernel_rfl) (by kernel_rfl) (fun _ _ _ h => h) (Or.inl ⟨by kernel_rfl, ?_⟩) (by trivial) ?_; rotate_left; focus (intro w hSw; (try dsimp only at hSw); go_simp; try (with_reducible rfl)); (try simp only [Act.put, List.setIfInBounds_toArray, List.set_cons_zero, List.set_cons_succ])
          refine wpAnyH_take (i := 8) (v := ?_) rfl (by kernel_rfl) (by kernel_rfl) (by kernel_rfl) (fun _ _ _ h => h) (Or.inl ⟨by kernel_rfl, ?_⟩) (by trivial) ?_; rotate_left; focus (intro w hSw; (try dsimp only at hSw); go_simp; try (with_reducible rfl)); (try simp only [Act.put, List.setIfInBounds_toArray, List.set_cons_zero, List.set_cons_succ])
          (try simp only [Act.put, List.setIfInBounds_toArray, List.set_cons_zero, List.set_cons_succ])
          refine wpAnyH_take (i := 9) (v := ?_) rfl (by kernel_rfl) (by kernel_rfl) (by kernel_rfl) (fun _ _ _ h => h) (Or.inl ⟨by kernel_rfl, ?_⟩) (by trivial) ?_; rotate_left; focus (intro w hSw; (try dsimp only at hSw); go_simp; try (with_reducible rfl)); (try simp only [Act.put, List.setIfInBounds_toArray, List.set_cons_zero, List.set_cons_succ])
          have p0 := BL.out.cell 0
          have p1 := BL.out.cell 1
          have p2 := BL.out.cell 2
          have f0 := BL.out.frozen 0
          have f1 := BL.out.frozen 1
          have f2 := BL.out.frozen 2
          refine wpAnyH_ready (rs := [11]) (by kernel_rfl) (by simp) ?_
          refine AllReadyH.cons rfl (fun K hK => ?_) AllReadyH.nil
          go_simp
          refine hK.out _ _ trivial (fun hHeld => ?_)
          clear hK K
          (try simp only [Act.put, List.setIfInBounds_toArray, List.set_cons_zero, List.set_cons_succ])
          refine wpAnyH_done (by kernel_rfl) ?_ _
          refine ⟨gx, ⟨_, O1, O2, ((BL.out.set 0 _).set 1 _).set 2 _, HGX, DK.out.kept (S := (· = gx)) (KS _ _ _ _ _) (by omega) (by omega), KK.out.step (KS _ _ _ _ _) (fun b hb e => by omega)⟩, ⟨_, _, _, _, _, _, _, _, _, _, rfl⟩⟩
      · go_simp
        go_at_call 48
        refine (next_any _ (by omega) (by omega) B g W27 DK.out).mono ?_
        rintro e W30 ⟨x, rfl, x0, x1, hd, k2⟩
        have DK := hide hd
        have CE := hide (k2.cell_some CE.out (by have := HGB; dsimp only; omega))
        have BL := hide (BL.out.kept k2 (by omega))
        have KK := hide (KK.out.trans k2)
        clear hd k2
        try go_wp2_with fail
        refine hK.out _ _ trivial (fun hHeld => ?_)
        clear hK K
        (try simp only [Act.put, List.setIfInBounds_toArray, List.set_cons_zero, List.set_cons_succ])
        have e1 : IntKind.u64.wrap x = x := IntWalk.u64_in _ (by omega)
        obtain ⟨q, hq, q0, q1⟩ : ∃ q, Int.tmod x left = q ∧ 0 ≤ q ∧ q < left := ⟨_, rfl, by rw [Int.tmod_eq_emod_of_nonneg x0]; exact Int.emod_nonneg _ (by omega), by rw [Int.tmod_eq_emod_of_nonneg x0]; exact Int.emod_lt_of_pos _ (by omega)⟩
        have e2 : IntKind.u64.wrap q = q := IntWalk.u64_in _ (by omega)
        have e3 : IntKind.u64.wrap (1 + q) = 1 + q := IntWalk.u64_in _ (by omega)
        have O1 : 1 ≤ 1 + q := by omega
        have O2 : 1 + q ≤ left := by omega
        refine wpAnyH_take (i := 5) (v := ?_) rfl (by kernel_rfl) (by kernel_rfl) (by kernel_rfl) (fun _ _ _ h => h) (Or.inl ⟨by kernel_rfl, ?_⟩) (by trivial) ?_; rotate_left; focus (intro w hSw; (try dsimp only at hSw); go_simp; try (with_reducible rfl)); (try simp only [Act.put, List.setIfInBounds_toArray, List.set_cons_zero, List.set_cons_succ])
        refine wpAnyH_take (i := 7) (v := ?_) rfl (by kernel_rfl) (by kernel_rfl) (by kernel_rfl) (fun _ _ _ h => h) (Or.inl ⟨by kernel_rfl, ?_⟩) (by trivial) ?_; rotate_left; focus (intro w hSw; (try dsimp only at hSw); go_simp; try (with_reducible rfl)); (try simp only [Act.put, List.setIfInBounds_toArray, List.set_cons_zero, List.set_cons_succ])
        refine wpAnyH_take (i := 8) (v := ?_) rfl (by kernel_rfl) (by kernel_rfl) (by kernel_rfl) (fun _ _ _ h => h) (Or.inl ⟨by kernel_rfl, ?_⟩) (by trivial) ?_; rotate_left; focus (intro w hSw; (try dsimp only at hSw); go_simp; try (with_reducible rfl)); (try simp only [Act.put, List.setIfInBounds_toArray, List.set_cons_zero, List.set_cons_succ])
        (try simp only [Act.put, List.setIfInBounds_toArray, List.set_cons_zero, List.set_cons_succ])
        refine wpAnyH_ready (rs := [2]) (by kernel_rfl) (by simp) ?_
        refine AllReadyH.cons rfl (fun K hK => ?_) AllReadyH.nil
        · have hcv := run_conv1w y y0 y1 W30 gb CE.out
          go_simp
          refine hK.out _ _ trivial (fun hHeld => ?_)
          clear hK K hcv CE
          (try simp only [Act.put, List.setIfInBounds_toArray, List.set_cons_zero, List.set_cons_succ])
          (try simp only [Act.put, List.setIfInBounds_toArray, List.set_cons_zero, List.set_cons_succ])
          refine wpAnyH_take (i := 9) (v := ?_) rfl (by kernel_rfl) (by kernel_rfl) (by kernel_rfl) (fun _ _ _ h => h) (Or.inl ⟨by kernel_rfl, ?_⟩) (by trivial) ?_; rotate_left; focus (intro w hSw; (try dsimp only at hSw); go_simp; try (with_reducible rfl)); (try simp only [Act.put, List.setIfInBounds_toArray, List.set_cons_zero, List.set_cons_succ])
          have p0 := BL.out.cell 0
          have p1 := BL.out.cell 1
          have p2 := BL.out.cell 2
          have f0 := BL.out.frozen 0
          have f1 := BL.out.frozen 1
          have f2 := BL.out.frozen 2
          refine wpAnyH_ready (rs := [11]) (by kernel_rfl) (by simp) ?_
          refine AllReadyH.cons rfl (fun K hK => ?_) AllReadyH.nil
          go_simp
          refine hK.out _ _ trivial (fun hHeld => ?_)
          clear hK K
          (try simp only [Act.put, List.setIfInBounds_toArray, List.set_cons_zero, List.set_cons_succ])
          refine wpAnyH_done (by kernel_rfl) ?_ _
          refine ⟨gx, ⟨_, O1, O2, ((BL.out.set 0 _).set 1 _).set 2 _, HGX, DK.out.kept (S := (· = gx)) (KS _ _ _ _ _) (by omega) (by omega), KK.out.step (KS _ _ _ _ _) (fun b hb e => by omega)⟩, ⟨_, _, _, _, _, _, _, _, _, _, rfl⟩⟩
    · go_simp
      go_at_call 48
      refine (next_any _ (by omega) (by omega) B g W26 DK.out).mono ?_
      rintro e W32 ⟨x, rfl, x0, x1, hd, k2⟩
      have DK := hide hd
      have BL := hide (BL.out.kept k2 (by omega))
      have KK := hide (KK.out.trans k2)
      clear hd k2
      try go_wp2_with fail
      refine hK.out _ _ trivial (fun hHeld => ?_)
      clear hK K
      (try simp only [Act.put, List.setIfInBounds_toArray, List.set_cons_zero, List.set_cons_succ])
      have e1 : IntKind.u64.wrap x = x := IntWalk.u64_in _ (by omega)
      obtain ⟨q, hq, q0, q1⟩ : ∃ q, Int.tmod x left = q ∧ 0 ≤ q ∧ q < left := ⟨_, rfl, by rw [Int.tmod_eq_emod_of_nonneg x0]; exact Int.emod_nonneg _ (by omega), by rw [Int.tmod_eq_emod_of_nonneg x0]; exact Int.emod_lt_of_pos _ (by omega)⟩
      have e2 : IntKind.u64.wrap q = q := IntWalk.u64_in _ (by omega)
      have e3 : IntKind.u64.wrap (1 + q) = 1 + q := IntWalk.u64_in _ (by omega)
      have O1 : 1 ≤ 1 + q := by omega
      have O2 : 1 + q ≤ left := by omega
      refine wpAnyH_take (i := 5) (v := ?_) rfl (by kernel_rfl) (by kernel_rfl) (by kernel_rfl) (fun _ _ _ h => h) (Or.inl ⟨by kernel_rfl, ?_⟩) (by trivial) ?_; rotate_left; focus (intro w hSw; (try dsimp only at hSw); go_simp; try (with_reducible rfl)); (try simp only [Act.put, List.setIfInBounds_toArray, List.set_cons_zero, List.set_cons_succ])
      refine wpAnyH_take (i := 7) (v := ?_) rfl (by kernel_rfl) (by kernel_rfl) (by kernel_rfl) (fun _ _ _ h => h) (Or.inl ⟨by kernel_rfl, ?_⟩) (by trivial) ?_; rotate_left; focus (intro w hSw; (try dsimp only at hSw); go_simp; try (with_reducible rfl)); (try simp only [Act.put, List.setIfInBounds_toArray, List.set_cons_zero, List.set_cons_succ])
      refine wpAnyH_take (i := 8) (v := ?_) rfl (by kernel_rfl) (by kernel_rfl) (by kernel_rfl) (fun _ _ _ h => h) (Or.inl ⟨by kernel_rfl, ?_⟩) (by trivial) ?_; rotate_left; focus (intro w hSw; (try dsimp only at hSw); go_simp; try (with_reducible rfl)); (try simp only [Act.put, List.setIfInBounds_toArray, List.set_cons_zero, List.set_cons_succ])
      (try simp only [Act.put, List.setIfInBounds_toArray, List.set_cons_zero, List.set_cons_succ])
      refine wpAnyH_ready (rs := [1]) (by kernel_rfl) (by simp) ?_
      refine AllReadyH.cons rfl (fun K hK => ?_) AllReadyH.nil
      · go_simp
        have kA := (Keeps.refl (fun _ => False) W32).alloc (.cells #[.int .u8 y] 5)
        have CE : Hid ((W32.alloc (.cells #[.int .u8 y] 5)).cell? ⟨W32.heap.size, 0, none⟩ = some (.int .u8 y)) := hide ((Blk.new W32 5 #[.int .u8 y]).cell 0)
        have KS0 := hide KK.out.size
        have KK := hide (KK.out.step0 kA)
        have DK := hide (DK.out.kept kA (fun h => h) (fun _ _ h => h))
        have BL := hide (BL.out.kept kA (fun h => h))
        clear kA
        refine hK.out _ _ trivial (fun hHeld => ?_)
        clear hK K
        generalize W32.alloc _ = W33 at *
        have HGB : w1.heap.size ≤ W32.heap.size := KS0.out
        generalize W32.heap.size = gb at *
        (try simp only [Act.put, List.setIfInBounds_toArray, List.set_cons_zero, List.set_cons_succ])
        refine wpAnyH_ready (rs := [2]) (by kernel_rfl) (by simp) ?_
        refine AllReadyH.cons rfl (fun K hK => ?_) AllReadyH.nil
        · have hcv := run_conv1w y y0 y1 W33 gb CE.out
          go_simp
          refine hK.out _ _ trivial (fun hHeld => ?_)
          clear hK K hcv CE
          (try simp only [Act.put, List.setIfInBounds_toArray, List.set_cons_zero, List.set_cons_succ])
          (try simp only [Act.put, List.setIfInBounds_toArray, List.set_cons_zero, List.set_cons_succ])
          refine wpAnyH_take (i := 9) (v := ?_) rfl (by kernel_rfl) (by kernel_rfl) (by kernel_rfl) (fun _ _ _ h => h) (Or.inl ⟨by kernel_rfl, ?_⟩) (by trivial) ?_; rotate_left; focus (intro w hSw; (try dsimp only at hSw); go_simp; try (with_reducible rfl)); (try simp only [Act.put, List.setIfInBounds_toArray, List.set_cons_zero, List.set_cons_succ])
          have p0 := BL.out.cell 0
          have p1 := BL.out.cell 1
          have p2 := BL.out.cell 2
          have f0 := BL.out.frozen 0
          have f1 := BL.out.frozen 1
          have f2 := BL.out.frozen 2
          refine wpAnyH_ready (rs := [11]) (by kernel_rfl) (by simp) ?_
          refine AllReadyH.cons rfl (fun K hK => ?_) AllReadyH.nil
          go_simp
          refine hK.out _ _ trivial (fun hHeld => ?_)
          clear hK K
          (try simp only [Act.put, List.setIfInBounds_toArray, List.set_cons_zero, List.set_cons_succ])
          refine wpAnyH_done (by kernel_rfl) ?_ _
          refine ⟨gx, ⟨_, O1, O2, ((BL.out.set 0 _).set 1 _).set 2 _, HGX, DK.out.kept (S := (· = gx)) (KS _ _ _ _ _) (by omega) (by omega), KK.out.step (KS _ _ _ _ _) (fun b hb e => by omega)⟩, ⟨_, _, _, _, _, _, _, _, _, _, rfl⟩⟩
end dsum
end Go.Proofs.Ytaiopdipldaimaa
