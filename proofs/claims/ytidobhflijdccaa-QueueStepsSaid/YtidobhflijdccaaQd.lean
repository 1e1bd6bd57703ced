/-
  queue.Pop. No conditions beyond those of the statement.
-/
import Derived.Test.YtidobhflijdccaaQc
import Derived.Test.YtidobhflijdccaaCo
set_option linter.unusedVariables false
set_option linter.unusedSimpArgs false
namespace Go.Proofs.Ytidobhflijdccaa
open Go.RowKit Cfp
/-- what Pop gives: x is the first event -/
def Pops (w : World) (B q a p mb G n : Nat) (nk : Int) (sh : List (Int × Int)) (x : Wt) (W : List Wt) (M M2 : Int) (e : Ending) (w' : World) : Prop :=
  e = .returned (.tuple #[.int .i64 x.win, .agg #[.string ⟨x.text.toArray⟩, .int .i64 x.time, .int .u64 x.wgt], .bool true]) ∧
    (∃ (R : List Wt) (E : List PE) (EA : Option Addr) (cap : Nat) (D : KD) (s : Ar) (L : Nat → List Nat), Qu w' B q a p mb G n nk sh W R E EA cap D s L M M2) ∧ Keeps (QuS B w) w w'
theorem wtCs_take (l : List Wt) (k : Nat) : wtCs (l.take k) = (wtCs l).take (k * 7) := by
  rcases Nat.lt_or_ge k l.length with h | h
  · have e : wtCs l = wtCs (l.take k) ++ wtCs (l.drop k) := by rw [← wtCs_app, List.take_append_drop]
    rw [e, List.take_left' (by rw [wtCs_len, List.length_take]; omega)]
  · rw [List.take_of_length_le h, List.take_of_length_le (by rw [wtCs_len]; omega)]
theorem wtCs_drop (l : List Wt) (k : Nat) : wtCs (l.drop k) = (wtCs l).drop (k * 7) := by
  rcases Nat.lt_or_ge k l.length with h | h
  · have e : wtCs l = wtCs (l.take k) ++ wtCs (l.drop k) := by rw [← wtCs_app, List.take_append_drop]
    rw [e, List.drop_left' (by rw [wtCs_len, List.length_take]; omega)]
  · rw [List.drop_of_length_le h, List.drop_of_length_le (by rw [wtCs_len]; omega)]
    rfl
/-- what Release does inside Pop -/
def Rel6 (w : World) (B p a mb : Nat) (nk : Int) (sh : List (Int × Int)) (W : List Wt) (EA : Option Addr) (cap : Nat) (E : List PE) (M M2 : Int) (e : Ending) (w' : World) : Prop :=
  e = .returned (.int .i64 0) ∧ ∃ (E' : List PE) (D' : KD) (s' : Ar) (L' : Nat → List Nat), IsPo w' B p a nk E' EA cap mb D' ∧ IsAr w' B a s' ∧ QInv sh W E' s' L' D' M M2 ∧ cntU E' ≤ cntU E ∧ Keeps (PoS B w) w w'
theorem pop_none (w : World) (B q a p G n : Nat) (R : List Wt) (h : IsQ w B q a p G n [] R) :
    Calls Try.prog 60 #[.pointer (some ⟨q, 0, none⟩)] w fun e w' => e = .returned (.tuple #[.int .i64 0, .agg #[.string ⟨#[]⟩, .int .i64 0, .int .u64 0], .bool false]) ∧ Keeps (fun _ => False) w w' := by
  have kb := (Keeps.refl (fun _ => False) w).alloc (.cells #[.string ⟨#[]⟩, .int .i64 0, .int .u64 0] 92)
  have HX := hide (Blk.new w 92 #[.string ⟨#[]⟩, .int .i64 0, .int .u64 0])
  obtain ⟨⟨p0, p1, p2, p3⟩, hpw⟩ := (h.quiet kb).cells
  have p3 : (w.alloc (.cells #[.string ⟨#[]⟩, .int .i64 0, .int .u64 0] 92)).cell? ⟨q, 3, none⟩ = some (.int .i64 0) := p3
  have K1 := hide kb
  clear h kb
  go_enter Try.func60, Try.ntmps60
  go_upto_region 1 with fail
  generalize w.alloc _ = w1 at *
  generalize hXX : w.heap.size = X at *
  have hX1 := HX.out.lt
  have b3 := hide (((HX.out.set 0 (.string ⟨#[]⟩)).set 1 (.int .i64 0)).set 2 (.int .u64 0))
  have K3 := hide (((K1.out.setCell (p := ⟨X, 0, none⟩) (.inr (by show w.heap.size ≤ X; omega)) (.string ⟨#[]⟩)).setCell (p := ⟨X, 1, none⟩) (.inr (by show w.heap.size ≤ X; omega)) (.int .i64 0)).setCell (p := ⟨X, 2, none⟩) (.inr (by show w.heap.size ≤ X; omega)) (.int .u64 0))
  obtain ⟨⟨x0, x1, x2⟩, ⟨f0, f1, f2⟩, hX⟩ := HX.out.three
  clear hXX
  go_wp2_with fail
  trace "P0"
  generalize ((w1.setCell _ _).setCell _ _).setCell _ _ = w3 at *
  have r0 := b3.out.cell 0
  have r1 := b3.out.cell 1
  have r2 := b3.out.cell 2
  refine bodyPost_ret (v := .tuple #[.int .i64 0, .agg #[.string ⟨#[]⟩, .int .i64 0, .int .u64 0], .bool false]) (by simp [results, Try.results60, go_sem, r0, r1, r2]) rfl ?_
  exact ⟨rfl, K3.out⟩
set_option maxRecDepth 100000 in
set_option maxHeartbeats 3000000 in
theorem pop_some (w : World) (B q a p mb G n : Nat) (nk : Int) (sh : List (Int × Int)) (x : Wt) (W R : List Wt) (E : List PE) (EA : Option Addr) (cap : Nat) (D : KD) (s : Ar) (L : Nat → List Nat) (M M2 : Int)
    (h : Qu w B q a p mb G n nk sh (x :: W) R E EA cap D s L M M2) (hM : M ≤ 900000) :
    Calls Try.prog 60 #[.pointer (some ⟨q, 0, none⟩)] w (Pops w B q a p mb G n nk sh x W M M2) := by
  have kb := (Keeps.refl (fun _ => False) w).alloc (.cells #[.string ⟨#[]⟩, .int .i64 0, .int .u64 0] 92)
  have HX := hide (Blk.new w 92 #[.string ⟨#[]⟩, .int .i64 0, .int .u64 0])
  have H1 := hide (h.quiet kb)
  have K1 := hide kb
  obtain ⟨m, hm⟩ : ∃ m, m = (x :: W).length := ⟨_, rfl⟩
  have HM := hide hm
  have hmn : m ≤ n := by have := h.len; omega
  have hm1 : 1 ≤ m := by rw [hm]; simp
  have hn64 := h.n64
  have hmq : ((m : Int) == 0) = false := by simp; omega
  clear h kb hm
  go_enter Try.func60, Try.ntmps60
  go_upto_region 1 with fail
  trace "R1"
  generalize w.alloc _ = w1 at *
  obtain ⟨X, hXe⟩ : ∃ X, X = w.heap.size := ⟨_, rfl⟩
  rw [← hXe] at HX
  rw [← hXe]
  obtain ⟨⟨p0, p1, p2, p3⟩, hpw⟩ := H1.out.qu.cells
  rw [← HM.out] at p3
  have HXe := hide hXe
  clear hXe
  obtain ⟨c0, c1, c2, c3, c4, c5, c6⟩ := H1.out.qu.at (i := 0) (x := x) (by simp)
  simp only [Nat.zero_mul, Nat.zero_add] at c0 c1 c2 c3 c4 c5 c6
  have hnI : (0 : Int) < (n : Int) := by omega
  have hB1 := H1.out.hB
  go_upto_region 4 with fail
  trace "R4"
  obtain ⟨ee, hee, hek, heu, hel1, hel2⟩ := H1.out.iv.users (List.mem_cons_self ..)
  obtain ⟨Y, hYe⟩ : ∃ Y, Y = w1.heap.size := ⟨_, rfl⟩
  have HY := hide (Blk.new_at w1 158 #[.int .i64 x.win, .int .i64 x.time, .int .u64 x.wgt, .int .i64 x.h.1, .int .i64 x.h.2.1, .int .i64 x.h.2.2, .int .i64 x.key] Y hYe)
  have kb := (Keeps.refl (fun _ => False) w1).alloc (.cells #[.int .i64 x.win, .int .i64 x.time, .int .u64 x.wgt, .int .i64 x.h.1, .int .i64 x.h.2.1, .int .i64 x.h.2.2, .int .i64 x.key] 158)
  have H2 := hide (H1.out.quiet kb)
  have HX2 := hide (HX.out.kept kb (fun h => h))
  have K2 := hide (K1.out.trans kb)
  have hYB : B ≤ Y := by rw [hYe]; exact hB1
  have HEe := hide hee
  have HEk := hide hek
  have hGY : G ≠ Y := by have := (H1.out.qu.own.inB ((inB_some _ _ _).2 rfl)).2; omega
  clear kb H1 HX K1 hek
  rw [← hYe]
  generalize w1.alloc _ = w2 at *
  clear hYe hee p0 p1 p2 p3 hpw c0 c1 c2 c3 c4 c5 c6 hB1
  obtain ⟨⟨p0, p1, p2, p3⟩, hpw⟩ := H2.out.qu.cells
  rw [← HM.out] at p3
  have y0 := HY.out.cell 0
  have y1 := HY.out.cell 1
  have y2 := HY.out.cell 2
  have y3 := HY.out.cell 3
  have y4 := HY.out.cell 4
  have y5 := HY.out.cell 5
  have y6 := HY.out.cell 6
  have hB2 := H2.out.hB
  have HT : Hid (∀ wa, Keeps (fun _ => False) w2 wa → Calls Try.prog 40 #[.pointer (some ⟨p, 0, none⟩), .int .i64 x.key] wa fun e w' => e = .returned (.tuple #[.string ⟨x.text.toArray⟩, .int .i64 0]) ∧ Keeps (fun _ => False) w2 w') := hide (fun wa ka => by
    refine (pText_ok wa B p a mb cap nk E EA D s M M2 L (H2.out.po.quiet ka) (H2.out.ar.quiet ka) H2.out.iv.iv H2.out.iv.pv x.key ee HEe.out heu (by have := H2.out.iv.pv.len; omega) (Nat.le_trans hB2 ka.size)).mono ?_
    rintro e w' ⟨rfl, k⟩
    exact ⟨by rw [HEk.out], ka.trans k⟩)
  have HSg : Hid (∀ W, Keeps (fun _ => False) w2 W → (Keeps (fun _ => False) w2 W ∧ W.cell? ⟨q, 1, none⟩ = some (.pointer (some ⟨p, 0, none⟩)) ∧ W.cell? ⟨Y, 6, none⟩ = some (.int .i64 x.key))) := hide (fun W kW => ⟨kW, kW.cell_some p1 (fun h => h), kW.cell_some y6 (fun h => h)⟩)
  refine wp_region_held_drew (S := fun W => Keeps (fun _ => False) w2 W ∧ W.cell? ⟨q, 1, none⟩ = some (.pointer (some ⟨p, 0, none⟩)) ∧ W.cell? ⟨Y, 6, none⟩ = some (.int .i64 x.key)) (by kernel_rfl) (HSg.out _ ((Keeps.refl _ _).drew)) (fun hHeld => ?_)
  refine wpAnyH_take (i := 0) (v := ?_) rfl (by kernel_rfl) (by kernel_rfl) (by kernel_rfl) (fun _ _ _ h => h) (Or.inl ⟨by first | kernel_rfl | rfl, ?_⟩) (by assumption) ?_; rotate_left; focus (intro w hSw; (try dsimp only at hSw); go_simp; try (with_reducible rfl)); (try simp only [Act.put, List.getElem_toArray, List.getElem_cons_succ, List.getElem_cons_zero, List.setIfInBounds_toArray, List.set_cons_zero, List.set_cons_succ])
  refine wpAnyH_take (i := 1) (v := ?_) rfl (by kernel_rfl) (by kernel_rfl) (by kernel_rfl) (fun _ _ _ h => h) (Or.inl ⟨by first | kernel_rfl | rfl, ?_⟩) (by assumption) ?_; rotate_left; focus (intro w hSw; (try dsimp only at hSw); go_simp; try (with_reducible rfl)); (try simp only [Act.put, List.getElem_toArray, List.getElem_cons_succ, List.getElem_cons_zero, List.setIfInBounds_toArray, List.set_cons_zero, List.set_cons_succ])
  refine wpAnyH_take (i := 2) (v := ?_) rfl (by kernel_rfl) (by kernel_rfl) (by kernel_rfl) (fun _ _ _ h => h) (Or.inl ⟨by first | kernel_rfl | rfl, ?_⟩) (by assumption) ?_; rotate_left; focus (intro w hSw; (try dsimp only at hSw); go_simp; try (with_reducible rfl)); (try simp only [Act.put, List.getElem_toArray, List.getElem_cons_succ, List.getElem_cons_zero, List.setIfInBounds_toArray, List.set_cons_zero, List.set_cons_succ])
  refine wpAnyH_take (i := 3) (v := ?_) rfl (by kernel_rfl) (by kernel_rfl) (by kernel_rfl) (fun _ _ _ h => h) (Or.inl ⟨by first | kernel_rfl | rfl, ?_⟩) (by assumption) ?_; rotate_left; focus (intro w hSw; (try dsimp only at hSw); go_simp; try (with_reducible rfl)); (try simp only [Act.put, List.getElem_toArray, List.getElem_cons_succ, List.getElem_cons_zero, List.setIfInBounds_toArray, List.set_cons_zero, List.set_cons_succ])
  refine wpAnyH_take (i := 4) (v := ?_) rfl (by kernel_rfl) (by kernel_rfl) (by kernel_rfl) (fun _ _ _ h => h) (Or.inl ⟨by first | kernel_rfl | rfl, ?_⟩) (by assumption) ?_; rotate_left; focus (intro w hSw; (try dsimp only at hSw); go_simp; try (with_reducible rfl)); (try simp only [Act.put, List.getElem_toArray, List.getElem_cons_succ, List.getElem_cons_zero, List.setIfInBounds_toArray, List.set_cons_zero, List.set_cons_succ])
  refine wpAnyH_take (i := 5) (v := ?_) rfl (by kernel_rfl) (by kernel_rfl) (by kernel_rfl) (fun _ _ _ h => h) (Or.inl ⟨by first | kernel_rfl | rfl, ?_⟩) (by assumption) ?_; rotate_left; focus (intro w hSw; (try dsimp only at hSw); go_simp; try (with_reducible rfl)); (try simp only [Act.put, List.getElem_toArray, List.getElem_cons_succ, List.getElem_cons_zero, List.setIfInBounds_toArray, List.set_cons_zero, List.set_cons_succ])
  refine wpAnyH_ready (rs := [6]) (by kernel_rfl) (by simp) ?_
  refine AllReadyH.cons rfl (fun K hK => ?_) AllReadyH.nil
  go_simp
  trace "TEXT"
  go_at_call 40
  refine (HT.out _ ((Keeps.refl _ _).drew)).mono ?_
  rintro e w3 ⟨rfl, k3⟩
  (try go_wp2_with fail)
  refine hK.out _ _ (HSg.out _ k3) (fun _ => ?_)
  have H3 := hide (H2.out.quiet k3)
  have HX3 := hide (HX2.out.kept k3 (fun h => h))
  have HY3 := hide (HY.out.kept k3 (fun h => h))
  have K3 := hide (K2.out.trans k3)
  clear hK K HSg hHeld k3 HT H2 HX2 HY K2 p0 p1 p2 p3 hpw y0 y1 y2 y3 y4 y5 y6
  (try simp only [Act.put, List.getElem_toArray, List.getElem_cons_succ, List.getElem_cons_zero, List.setIfInBounds_toArray, List.set_cons_zero, List.set_cons_succ])
  refine wpAnyH_take (i := 7) (v := ?_) rfl (by kernel_rfl) (by kernel_rfl) (by kernel_rfl) (fun _ _ _ h => h) (Or.inl ⟨by first | kernel_rfl | rfl, ?_⟩) (by assumption) ?_; rotate_left; focus (intro w hSw; (try dsimp only at hSw); go_simp; try (with_reducible rfl)); (try simp only [Act.put, List.getElem_toArray, List.getElem_cons_succ, List.getElem_cons_zero, List.setIfInBounds_toArray, List.set_cons_zero, List.set_cons_succ])
  refine wpAnyH_take (i := 8) (v := ?_) rfl (by kernel_rfl) (by kernel_rfl) (by kernel_rfl) (fun _ _ _ h => h) (Or.inl ⟨by first | kernel_rfl | rfl, ?_⟩) (by assumption) ?_; rotate_left; focus (intro w hSw; (try dsimp only at hSw); go_simp; try (with_reducible rfl)); (try simp only [Act.put, List.getElem_toArray, List.getElem_cons_succ, List.getElem_cons_zero, List.setIfInBounds_toArray, List.set_cons_zero, List.set_cons_succ])
  refine wpAnyH_take (i := 9) (v := ?_) rfl (by kernel_rfl) (by kernel_rfl) (by kernel_rfl) (fun _ _ _ h => h) (Or.inl ⟨by first | kernel_rfl | rfl, ?_⟩) (by assumption) ?_; rotate_left; focus (intro w hSw; (try dsimp only at hSw); go_simp; try (with_reducible rfl)); (try simp only [Act.put, List.getElem_toArray, List.getElem_cons_succ, List.getElem_cons_zero, List.setIfInBounds_toArray, List.set_cons_zero, List.set_cons_succ])
  refine wpAnyH_take (i := 10) (v := ?_) rfl (by kernel_rfl) (by kernel_rfl) (by kernel_rfl) (fun _ _ _ h => h) (Or.inl ⟨by first | kernel_rfl | rfl, ?_⟩) (by assumption) ?_; rotate_left; focus (intro w hSw; (try dsimp only at hSw); go_simp; try (with_reducible rfl)); (try simp only [Act.put, List.getElem_toArray, List.getElem_cons_succ, List.getElem_cons_zero, List.setIfInBounds_toArray, List.set_cons_zero, List.set_cons_succ])
  refine wpAnyH_take (i := 11) (v := ?_) rfl (by kernel_rfl) (by kernel_rfl) (by kernel_rfl) (fun _ _ _ h => h) (Or.inl ⟨by first | kernel_rfl | rfl, ?_⟩) (by assumption) ?_; rotate_left; focus (intro w hSw; (try dsimp only at hSw); go_simp; try (with_reducible rfl)); (try simp only [Act.put, List.getElem_toArray, List.getElem_cons_succ, List.getElem_cons_zero, List.setIfInBounds_toArray, List.set_cons_zero, List.set_cons_succ])
  refine wpAnyH_done (by kernel_rfl) ?_ _
  (try simp only [Act.put, List.getElem_toArray, List.getElem_cons_succ, List.getElem_cons_zero, List.setIfInBounds_toArray, List.set_cons_zero, List.set_cons_succ])
  trace "TEXT2"
  go_upto_region 5 with fail
  trace "R5"
  obtain ⟨⟨p0, p1, p2, p3⟩, hpw⟩ := H3.out.qu.cells
  rw [← HM.out] at p3
  have y3 := HY3.out.cell 3
  have y4 := HY3.out.cell 4
  have y5 := HY3.out.cell 5
  have y6 := HY3.out.cell 6
  have hB3 := H3.out.hB
  have HSg : Hid (∀ W, Keeps (ArS B w3) w3 W → (Keeps (ArS B w3) w3 W ∧ W.cell? ⟨q, 0, none⟩ = some (.pointer (some ⟨a, 0, none⟩)) ∧ W.cell? ⟨Y, 3, none⟩ = some (.int .i64 x.h.1) ∧ W.cell? ⟨Y, 4, none⟩ = some (.int .i64 x.h.2.1) ∧ W.cell? ⟨Y, 5, none⟩ = some (.int .i64 x.h.2.2))) := hide (fun W kW => by
    have n1 := ArS.not (B := B) H3.out.qu.blk (by decide) (by decide) (by decide)
    have n2 := ArS.not (B := B) HY3.out (by decide) (by decide) (by decide)
    exact ⟨kW, kW.cell_some p0 n1, kW.cell_some y3 n2, kW.cell_some y4 n2, kW.cell_some y5 n2⟩)
  refine wp_region_held_drew (S := fun W => Keeps (ArS B w3) w3 W ∧ W.cell? ⟨q, 0, none⟩ = some (.pointer (some ⟨a, 0, none⟩)) ∧ W.cell? ⟨Y, 3, none⟩ = some (.int .i64 x.h.1) ∧ W.cell? ⟨Y, 4, none⟩ = some (.int .i64 x.h.2.1) ∧ W.cell? ⟨Y, 5, none⟩ = some (.int .i64 x.h.2.2)) (by kernel_rfl) (HSg.out _ ((Keeps.refl _ _).drew)) (fun hHeld => ?_)
  refine wpAnyH_take (i := 0) (v := ?_) rfl (by kernel_rfl) (by kernel_rfl) (by kernel_rfl) (fun _ _ _ h => h) (Or.inl ⟨by first | kernel_rfl | rfl, ?_⟩) (by assumption) ?_; rotate_left; focus (intro w hSw; (try dsimp only at hSw); go_simp; try (with_reducible rfl)); (try simp only [Act.put, List.getElem_toArray, List.getElem_cons_succ, List.getElem_cons_zero, List.setIfInBounds_toArray, List.set_cons_zero, List.set_cons_succ])
  refine wpAnyH_take (i := 1) (v := ?_) rfl (by kernel_rfl) (by kernel_rfl) (by kernel_rfl) (fun _ _ _ h => h) (Or.inl ⟨by first | kernel_rfl | rfl, ?_⟩) (by assumption) ?_; rotate_left; focus (intro w hSw; (try dsimp only at hSw); go_simp; try (with_reducible rfl)); (try simp only [Act.put, List.getElem_toArray, List.getElem_cons_succ, List.getElem_cons_zero, List.setIfInBounds_toArray, List.set_cons_zero, List.set_cons_succ])
  refine wpAnyH_take (i := 2) (v := ?_) rfl (by kernel_rfl) (by kernel_rfl) (by kernel_rfl) (fun _ _ _ h => h) (Or.inl ⟨by first | kernel_rfl | rfl, ?_⟩) (by assumption) ?_; rotate_left; focus (intro w hSw; (try dsimp only at hSw); go_simp; try (with_reducible rfl)); (try simp only [Act.put, List.getElem_toArray, List.getElem_cons_succ, List.getElem_cons_zero, List.setIfInBounds_toArray, List.set_cons_zero, List.set_cons_succ])
  refine wpAnyH_take (i := 3) (v := ?_) rfl (by kernel_rfl) (by kernel_rfl) (by kernel_rfl) (fun _ _ _ h => h) (Or.inl ⟨by first | kernel_rfl | rfl, ?_⟩) (by assumption) ?_; rotate_left; focus (intro w hSw; (try dsimp only at hSw); go_simp; try (with_reducible rfl)); (try simp only [Act.put, List.getElem_toArray, List.getElem_cons_succ, List.getElem_cons_zero, List.setIfInBounds_toArray, List.set_cons_zero, List.set_cons_succ])
  refine wpAnyH_take (i := 4) (v := ?_) rfl (by kernel_rfl) (by kernel_rfl) (by kernel_rfl) (fun _ _ _ h => h) (Or.inl ⟨by first | kernel_rfl | rfl, ?_⟩) (by assumption) ?_; rotate_left; focus (intro w hSw; (try dsimp only at hSw); go_simp; try (with_reducible rfl)); (try simp only [Act.put, List.getElem_toArray, List.getElem_cons_succ, List.getElem_cons_zero, List.setIfInBounds_toArray, List.set_cons_zero, List.set_cons_succ])
  refine wpAnyH_take (i := 5) (v := ?_) rfl (by kernel_rfl) (by kernel_rfl) (by kernel_rfl) (fun _ _ _ h => h) (Or.inl ⟨by first | kernel_rfl | rfl, ?_⟩) (by assumption) ?_; rotate_left; focus (intro w hSw; (try dsimp only at hSw); go_simp; try (with_reducible rfl)); (try simp only [Act.put, List.getElem_toArray, List.getElem_cons_succ, List.getElem_cons_zero, List.setIfInBounds_toArray, List.set_cons_zero, List.set_cons_succ])
  refine wpAnyH_ready (rs := [6]) (by kernel_rfl) (by simp) ?_
  refine AllReadyH.cons rfl (fun K hK => ?_) AllReadyH.nil
  go_simp
  trace "FREE"
  go_at_call 25
  have kd : Keeps (fun _ => False) w3 w3.drew := (Keeps.refl _ _).drew
  refine (free_any B a s L M2 x.h.1 x.h.2.1 x.h.2.2 [] _ (H3.out.ar.quiet kd) H3.out.iv.iv (H3.out.iv.hs x (List.mem_cons_self ..))).mono ?_
  rintro e w4 ⟨rfl, ⟨s4, L4, h4, v4, g4⟩, k4⟩
  have k34 := ArS.quiet kd k4
  have HA4 := hide h4
  have HV4 := hide v4
  have HG4 := hide g4
  have HPv4 := hide (H3.out.iv.gone g4)
  have HIv := hide H3.out.iv
  have hkn := hide H3.out.kn
  have HP4 := hide (H3.out.po.ar k34)
  have HQ4 := hide (H3.out.qu.ar k34)
  have HY4 := hide (HY3.out.kept k34 (ArS.not HY3.out (by decide) (by decide) (by decide)))
  have HX4 := hide (HX3.out.kept k34 (ArS.not HX3.out (by decide) (by decide) (by decide)))
  have K4 := hide (QuS.trans (QuS.zero (B := B) K3.out) (QuS.po (PoS.ar k34)))
  have hB4 := Nat.le_trans hB3 k34.size
  (try go_wp2_with fail)
  refine hK.out _ _ (HSg.out _ k34) (fun _ => ?_)
  clear hK K HSg hHeld kd k4 k34 h4 v4 g4 H3 HY3 HX3 K3 p0 p1 p2 p3 hpw y3 y4 y5 y6
  (try simp only [Act.put, List.getElem_toArray, List.getElem_cons_succ, List.getElem_cons_zero, List.setIfInBounds_toArray, List.set_cons_zero, List.set_cons_succ])
  refine wpAnyH_done (by kernel_rfl) ?_ _
  (try simp only [Act.put, List.getElem_toArray, List.getElem_cons_succ, List.getElem_cons_zero, List.setIfInBounds_toArray, List.set_cons_zero, List.set_cons_succ])
  go_upto_region 6 with fail
  trace "R6"
  obtain ⟨⟨p0, p1, p2, p3⟩, hpw⟩ := HQ4.out.cells
  rw [← HM.out] at p3
  have y6 := HY4.out.cell 6
  have HRl : Hid (∀ wa, Keeps (fun _ => False) w4 wa → Calls Try.prog 45 #[.pointer (some ⟨p, 0, none⟩), .int .i64 x.key] wa (Rel6 w4 B p a mb nk sh W EA cap E M M2)) := hide (fun wa ka => by
    refine (prelease_ok wa B p a mb cap nk E EA D s4 M M2 L4 (HP4.out.quiet ka) (HA4.out.quiet ka) HV4.out HPv4.out (by omega) x.key ee HEe.out heu (by have := HPv4.out.len; omega) (Nat.le_trans hB4 ka.size)).mono ?_
    rintro e w' ⟨he, E', D', s', L', h5, a5, v5, pv5, hw, kk⟩
    rcases hw with ⟨h1, rfl, rfl, rfl⟩ | ⟨h1, rfl, g5, rfl⟩
    · refine ⟨he, _, _, _, _, h5, a5, HIv.out.more HG4.out v5 HEe.out h1 pv5, ?_, PoS.quiet ka kk⟩
      have := cntU_set E x.key ee { ee with users := ee.users - 1 } HEe.out
      simp only [heu, show (0 : Int) < ee.users - 1 by omega, if_true] at this
      omega
    · refine ⟨he, _, _, _, _, h5, a5, HIv.out.last HG4.out HEe.out h1 g5 v5 pv5, ?_, PoS.quiet ka kk⟩
      have := cntU_set E x.key ee { ee with users := 0 } HEe.out
      rw [if_pos heu, if_neg (by show ¬ (0 : Int) < 0; omega)] at this
      omega)
  have HSg : Hid (∀ W, Keeps (PoS B w4) w4 W → (Keeps (PoS B w4) w4 W ∧ W.cell? ⟨q, 1, none⟩ = some (.pointer (some ⟨p, 0, none⟩)) ∧ W.cell? ⟨Y, 6, none⟩ = some (.int .i64 x.key))) := hide (fun W kW => by
    have n1 := PoS.not (B := B) HQ4.out.blk (by decide) (by decide) (by decide) (by decide) (by decide)
    have n2 := PoS.not (B := B) HY4.out (by decide) (by decide) (by decide) (by decide) (by decide)
    exact ⟨kW, kW.cell_some p1 n1, kW.cell_some y6 n2⟩)
  refine wp_region_held_drew (S := fun W => Keeps (PoS B w4) w4 W ∧ W.cell? ⟨q, 1, none⟩ = some (.pointer (some ⟨p, 0, none⟩)) ∧ W.cell? ⟨Y, 6, none⟩ = some (.int .i64 x.key)) (by kernel_rfl) (HSg.out _ ((Keeps.refl _ _).drew)) (fun hHeld => ?_)
  refine wpAnyH_take (i := 0) (v := ?_) rfl (by kernel_rfl) (by kernel_rfl) (by kernel_rfl) (fun _ _ _ h => h) (Or.inl ⟨by first | kernel_rfl | rfl, ?_⟩) (by assumption) ?_; rotate_left; focus (intro w hSw; (try dsimp only at hSw); go_simp; try (with_reducible rfl)); (try simp only [Act.put, List.getElem_toArray, List.getElem_cons_succ, List.getElem_cons_zero, List.setIfInBounds_toArray, List.set_cons_zero, List.set_cons_succ])
  refine wpAnyH_take (i := 1) (v := ?_) rfl (by kernel_rfl) (by kernel_rfl) (by kernel_rfl) (fun _ _ _ h => h) (Or.inl ⟨by first | kernel_rfl | rfl, ?_⟩) (by assumption) ?_; rotate_left; focus (intro w hSw; (try dsimp only at hSw); go_simp; try (with_reducible rfl)); (try simp only [Act.put, List.getElem_toArray, List.getElem_cons_succ, List.getElem_cons_zero, List.setIfInBounds_toArray, List.set_cons_zero, List.set_cons_succ])
  refine wpAnyH_take (i := 2) (v := ?_) rfl (by kernel_rfl) (by kernel_rfl) (by kernel_rfl) (fun _ _ _ h => h) (Or.inl ⟨by first | kernel_rfl | rfl, ?_⟩) (by assumption) ?_; rotate_left; focus (intro w hSw; (try dsimp only at hSw); go_simp; try (with_reducible rfl)); (try simp only [Act.put, List.getElem_toArray, List.getElem_cons_succ, List.getElem_cons_zero, List.setIfInBounds_toArray, List.set_cons_zero, List.set_cons_succ])
  refine wpAnyH_take (i := 3) (v := ?_) rfl (by kernel_rfl) (by kernel_rfl) (by kernel_rfl) (fun _ _ _ h => h) (Or.inl ⟨by first | kernel_rfl | rfl, ?_⟩) (by assumption) ?_; rotate_left; focus (intro w hSw; (try dsimp only at hSw); go_simp; try (with_reducible rfl)); (try simp only [Act.put, List.getElem_toArray, List.getElem_cons_succ, List.getElem_cons_zero, List.setIfInBounds_toArray, List.set_cons_zero, List.set_cons_succ])
  refine wpAnyH_take (i := 4) (v := ?_) rfl (by kernel_rfl) (by kernel_rfl) (by kernel_rfl) (fun _ _ _ h => h) (Or.inl ⟨by first | kernel_rfl | rfl, ?_⟩) (by assumption) ?_; rotate_left; focus (intro w hSw; (try dsimp only at hSw); go_simp; try (with_reducible rfl)); (try simp only [Act.put, List.getElem_toArray, List.getElem_cons_succ, List.getElem_cons_zero, List.setIfInBounds_toArray, List.set_cons_zero, List.set_cons_succ])
  refine wpAnyH_take (i := 5) (v := ?_) rfl (by kernel_rfl) (by kernel_rfl) (by kernel_rfl) (fun _ _ _ h => h) (Or.inl ⟨by first | kernel_rfl | rfl, ?_⟩) (by assumption) ?_; rotate_left; focus (intro w hSw; (try dsimp only at hSw); go_simp; try (with_reducible rfl)); (try simp only [Act.put, List.getElem_toArray, List.getElem_cons_succ, List.getElem_cons_zero, List.setIfInBounds_toArray, List.set_cons_zero, List.set_cons_succ])
  refine wpAnyH_ready (rs := [6]) (by kernel_rfl) (by simp) ?_
  refine AllReadyH.cons rfl (fun K hK => ?_) AllReadyH.nil
  go_simp
  trace "RELEASE"
  go_at_call 45
  refine (HRl.out _ ((Keeps.refl _ _).drew)).mono ?_
  rintro e w5 ⟨rfl, E5, D5, s5, L5, h5, a5, i5, n5, k5⟩
  have HP5 := hide h5
  have HA5 := hide a5
  have HI5 := hide i5
  have HN5 := hide n5
  have HQ5 := hide (HQ4.out.pos k5)
  have HY5 := hide (HY4.out.kept k5 (PoS.not HY4.out (by decide) (by decide) (by decide) (by decide) (by decide)))
  have HX5 := hide (HX4.out.kept k5 (PoS.not HX4.out (by decide) (by decide) (by decide) (by decide) (by decide)))
  have K5 := hide (QuS.trans K4.out (QuS.po k5))
  have hB5 := Nat.le_trans hB4 k5.size
  (try go_wp2_with fail)
  refine hK.out _ _ (HSg.out _ k5) (fun _ => ?_)
  clear hK K HSg hHeld HRl h5 a5 i5 n5 k5 HQ4 HY4 HX4 HP4 HA4 HV4 HPv4 HG4 HIv K4 p0 p1 p2 p3 hpw y6 HEe HEk heu
  (try simp only [Act.put, List.getElem_toArray, List.getElem_cons_succ, List.getElem_cons_zero, List.setIfInBounds_toArray, List.set_cons_zero, List.set_cons_succ])
  refine wpAnyH_done (by kernel_rfl) ?_ _
  (try simp only [Act.put, List.getElem_toArray, List.getElem_cons_succ, List.getElem_cons_zero, List.setIfInBounds_toArray, List.set_cons_zero, List.set_cons_succ])
  go_upto_region 7 with fail
  trace "R7"
  obtain ⟨⟨p0, p1, p2, p3⟩, hpw⟩ := HQ5.out.cells
  rw [← HM.out] at p3
  obtain ⟨A', hsl, hrd, _⟩ := sub_lh (P := Try.prog) elemWt (some ⟨G, 0, none⟩) n n .i64 .i64 1 (m : Int) (by omega) (by omega) (by omega) (Nat.le_refl _)
  rw [show (1 : Int).toNat = 1 from rfl, Int.toNat_natCast] at hsl hrd
  have HRd := hide (hrd w5.drew w5.drew.heap.size _ ((HQ5.out.quiet ((Keeps.refl _ _).drew)).own.rd (by omega)))
  clear hrd
  have HSg : Hid (∀ W, Keeps (· = G) w5 W → (Keeps (· = G) w5 W ∧ W.cell? ⟨q, 2, none⟩ = some (.slice (some ⟨G, 0, none⟩) n n) ∧ W.cell? ⟨q, 3, none⟩ = some (.int .i64 m))) := hide (fun W kW => ⟨kW, kW.cell_some p2 HQ5.out.ne, kW.cell_some p3 HQ5.out.ne⟩)
  refine wp_region_held_drew (S := fun W => Keeps (· = G) w5 W ∧ W.cell? ⟨q, 2, none⟩ = some (.slice (some ⟨G, 0, none⟩) n n) ∧ W.cell? ⟨q, 3, none⟩ = some (.int .i64 m)) (by kernel_rfl) (HSg.out _ ((Keeps.refl _ _).drew)) (fun hHeld => ?_)
  refine wpAnyH_take (i := 0) (v := ?_) rfl (by kernel_rfl) (by kernel_rfl) (by kernel_rfl) (fun _ _ _ h => h) (Or.inl ⟨by first | kernel_rfl | rfl, ?_⟩) (by assumption) ?_; rotate_left; focus (intro w hSw; (try dsimp only at hSw); go_simp; try (with_reducible rfl)); (try simp only [Act.put, List.getElem_toArray, List.getElem_cons_succ, List.getElem_cons_zero, List.setIfInBounds_toArray, List.set_cons_zero, List.set_cons_succ])
  refine wpAnyH_take (i := 1) (v := ?_) rfl (by kernel_rfl) (by kernel_rfl) (by kernel_rfl) (fun _ _ _ h => h) (Or.inl ⟨by first | kernel_rfl | rfl, ?_⟩) (by assumption) ?_; rotate_left; focus (intro w hSw; (try dsimp only at hSw); go_simp; try (with_reducible rfl)); (try simp only [Act.put, List.getElem_toArray, List.getElem_cons_succ, List.getElem_cons_zero, List.setIfInBounds_toArray, List.set_cons_zero, List.set_cons_succ])
  refine wpAnyH_take (i := 2) (v := ?_) rfl (by kernel_rfl) (by kernel_rfl) (by kernel_rfl) (fun _ _ _ h => h) (Or.inl ⟨by first | kernel_rfl | rfl, ?_⟩) (by assumption) ?_; rotate_left; focus (intro w hSw; (try dsimp only at hSw); go_simp; try (with_reducible rfl)); (try simp only [Act.put, List.getElem_toArray, List.getElem_cons_succ, List.getElem_cons_zero, List.setIfInBounds_toArray, List.set_cons_zero, List.set_cons_succ])
  refine wpAnyH_take (i := 3) (v := ?_) rfl (by kernel_rfl) (by kernel_rfl) (by kernel_rfl) (fun _ _ _ h => h) (Or.inl ⟨by first | kernel_rfl | rfl, ?_⟩) (by assumption) ?_; rotate_left; focus (intro w hSw; (try dsimp only at hSw); go_simp; try (with_reducible rfl)); (try simp only [Act.put, List.getElem_toArray, List.getElem_cons_succ, List.getElem_cons_zero, List.setIfInBounds_toArray, List.set_cons_zero, List.set_cons_succ])
  refine wpAnyH_take (i := 4) (v := ?_) rfl (by kernel_rfl) (by kernel_rfl) (by kernel_rfl) (fun _ _ _ h => h) (Or.inl ⟨by first | kernel_rfl | rfl, ?_⟩) (by assumption) ?_; rotate_left; focus (intro w hSw; (try dsimp only at hSw); go_simp; try (with_reducible rfl)); (try simp only [Act.put, List.getElem_toArray, List.getElem_cons_succ, List.getElem_cons_zero, List.setIfInBounds_toArray, List.set_cons_zero, List.set_cons_succ])
  refine wpAnyH_take (i := 5) (v := ?_) rfl (by kernel_rfl) (by kernel_rfl) (by kernel_rfl) (fun _ _ _ h => h) (Or.inl ⟨by first | kernel_rfl | rfl, ?_⟩) (by assumption) ?_; rotate_left; focus (intro w hSw; (try dsimp only at hSw); go_simp; try (with_reducible rfl)); (try simp only [Act.put, List.getElem_toArray, List.getElem_cons_succ, List.getElem_cons_zero, List.setIfInBounds_toArray, List.set_cons_zero, List.set_cons_succ])
  refine wpAnyH_take (i := 6) (v := ?_) rfl (by kernel_rfl) (by kernel_rfl) (by kernel_rfl) (fun _ _ _ h => h) (Or.inl ⟨by first | kernel_rfl | rfl, ?_⟩) (by assumption) ?_; rotate_left; focus (intro w hSw; (try dsimp only at hSw); go_simp; try (with_reducible rfl)); (try simp only [Act.put, List.getElem_toArray, List.getElem_cons_succ, List.getElem_cons_zero, List.setIfInBounds_toArray, List.set_cons_zero, List.set_cons_succ])
  refine wpAnyH_take (i := 7) (v := ?_) rfl (by kernel_rfl) (by kernel_rfl) (by kernel_rfl) (fun _ _ _ h => h) (Or.inl ⟨by first | kernel_rfl | rfl, ?_⟩) (by assumption) ?_; rotate_left; focus (intro w hSw; (try dsimp only at hSw); go_simp; try (with_reducible rfl)); (try simp only [Act.put, List.getElem_toArray, List.getElem_cons_succ, List.getElem_cons_zero, List.setIfInBounds_toArray, List.set_cons_zero, List.set_cons_succ])
  refine wpAnyH_take (i := 8) (v := ?_) rfl (by kernel_rfl) (by kernel_rfl) (by kernel_rfl) (fun _ _ _ h => h) (Or.inl ⟨by first | kernel_rfl | rfl, ?_⟩) (by assumption) ?_; rotate_left; focus (intro w hSw; (try dsimp only at hSw); go_simp; try (with_reducible rfl)); (try simp only [Act.put, List.getElem_toArray, List.getElem_cons_succ, List.getElem_cons_zero, List.setIfInBounds_toArray, List.set_cons_zero, List.set_cons_succ])
  refine wpAnyH_take (i := 9) (v := ?_) rfl (by kernel_rfl) (by kernel_rfl) (by kernel_rfl) (fun _ _ _ h => h) (Or.inl ⟨by first | kernel_rfl | rfl, ?_⟩) (by assumption) ?_; rotate_left; focus (intro w hSw; (try dsimp only at hSw); go_simp; try (with_reducible rfl)); (try simp only [Act.put, List.getElem_toArray, List.getElem_cons_succ, List.getElem_cons_zero, List.setIfInBounds_toArray, List.set_cons_zero, List.set_cons_succ])
  refine wpAnyH_take (i := 10) (v := ?_) rfl (by kernel_rfl) (by kernel_rfl) (by kernel_rfl) (fun _ _ _ h => h) (Or.inl ⟨by first | kernel_rfl | rfl, ?_⟩) (by assumption) ?_; rotate_left; focus (intro w hSw; (try dsimp only at hSw); go_simp; try (with_reducible rfl)); (try simp only [Act.put, List.getElem_toArray, List.getElem_cons_succ, List.getElem_cons_zero, List.setIfInBounds_toArray, List.set_cons_zero, List.set_cons_succ])
  refine wpAnyH_take (i := 11) (v := ?_) rfl (by kernel_rfl) (by kernel_rfl) (by kernel_rfl) (fun _ _ _ h => h) (Or.inl ⟨by first | kernel_rfl | rfl, ?_⟩) (by assumption) ?_; rotate_left; focus (intro w hSw; (try dsimp only at hSw); go_simp; try (with_reducible rfl)); (try simp only [Act.put, List.getElem_toArray, List.getElem_cons_succ, List.getElem_cons_zero, List.setIfInBounds_toArray, List.set_cons_zero, List.set_cons_succ])
  refine wpAnyH_take (i := 12) (v := ?_) rfl (by kernel_rfl) (by kernel_rfl) (by kernel_rfl) (fun _ _ _ h => h) (Or.inl ⟨by first | kernel_rfl | rfl, ?_⟩) (by assumption) ?_; rotate_left; focus (intro w hSw; (try dsimp only at hSw); go_simp; try (with_reducible rfl)); (try simp only [Act.put, List.getElem_toArray, List.getElem_cons_succ, List.getElem_cons_zero, List.setIfInBounds_toArray, List.set_cons_zero, List.set_cons_succ])
  refine wpAnyH_ready (rs := [13]) (by kernel_rfl) (by simp) ?_
  refine AllReadyH.cons rfl (fun K hK => ?_) AllReadyH.nil
  refine step_copyO elemWt rfl (.tmp 51) (.tmp 60) rfl B G n n _ (HQ5.out.quiet ((Keeps.refl _ _).drew)).own 0 n n ?hd _ (m := m - 1) (c2 := n - 1) _ ?hs HRd.out ?h1 (by omega) (by omega) ?_
  case hd => simp [Act.eval, Act.put]
  case hs => simp [Act.eval, Act.put]
  case h1 => exact fun u hu => wtCs_one _ u (List.mem_of_mem_drop (List.mem_of_mem_take hu))
  intro w6 o6 k6
  have k56 : Keeps (· = G) w5 w6 := ((Keeps.refl (· = G) w5).drew).trans k6
  have hW : m - 1 = W.length := by have := HM.out; simp at this; omega
  have e6 : (wtCs (x :: W ++ R)).take (0 * 7) ++ ((wtCs (x :: W ++ R)).drop (1 * 7)).take ((m - 1) * 7) ++ (wtCs (x :: W ++ R)).drop ((0 + (m - 1)) * 7) = wtCs (W ++ (x :: W ++ R).drop W.length) := by
    rw [Nat.zero_mul, List.take_zero, List.nil_append, ← wtCs_drop, ← wtCs_take, ← wtCs_drop, ← wtCs_app, Nat.zero_add, hW]
    simp
  have HO6 := hide (show Own w6 B 158 7 (some ⟨G, 0, none⟩) n n (wtCs (W ++ (x :: W ++ R).drop W.length)) from by rw [← e6]; exact o6)
  have HB6 := hide (HQ5.out.blk.kept k56 HQ5.out.ne)
  have HP6 := hide (HP5.out.kept k56 (fun b hb => HQ5.out.othP (.inr hb)))
  have HA6 := hide (HA5.out.kept k56 (fun b hb => HQ5.out.othQ (.inr hb)))
  have HY6 := hide (HY5.out.kept k56 (fun h => hGY h.symm))
  have HX6 := hide (HX5.out.kept k56 (fun h => by obtain ⟨cs, h4⟩ := HQ5.out.blkG; subst h; exact absurd (blk_type HX5.out h4) (by decide)))
  have K6 := hide (QuS.trans K5.out (k56.weak (S' := QuS B w5) (fun b _ hb => by subst hb; exact HQ5.out.inG)))
  have HLe := hide HQ5.out.le
  have hB6 := Nat.le_trans hB5 k56.size
  have HW := hide hW
  refine hK.out _ _ (HSg.out _ k56) (fun _ => ?_)
  clear hK K HSg hHeld k6 k56 o6 e6 hW HQ5 HP5 HA5 HY5 HX5 K5 HRd hsl p0 p1 p2 p3 hpw
  (try simp only [Act.put, List.getElem_toArray, List.getElem_cons_succ, List.getElem_cons_zero, List.setIfInBounds_toArray, List.set_cons_zero, List.set_cons_succ])
  refine wpAnyH_done (by kernel_rfl) ?_ _
  (try simp only [Act.put, List.getElem_toArray, List.getElem_cons_succ, List.getElem_cons_zero, List.setIfInBounds_toArray, List.set_cons_zero, List.set_cons_succ])
  trace "COPIED"
  have p3 := HB6.out.cell 3
  have p3 : w6.cell? ⟨q, 3, none⟩ = some (.int .i64 (m : Int)) := by rw [HM.out]; exact p3
  have f3 := HB6.out.frozen 3
  have hpw := HB6.out.lt
  have kS := keepsOne w6 q 3 (.int .i64 ((m : Int) - 1))
  have HB7 := hide (HB6.out.set 3 (.int .i64 ((m : Int) - 1)))
  have hqG : q ≠ G := fun e => by
    obtain ⟨cs, h4⟩ := HO6.out.blk (b := G) ((inB_some _ _ _).2 rfl)
    subst e
    exact absurd (blk_type HB6.out h4) (by decide)
  have HO7 := hide (HO6.out.kept kS (fun b hb e => by have := (inB_some _ _ _).1 hb; omega))
  have HP7 := hide (HP6.out.kept kS (fun b hb => by subst hb; exact .inr ⟨_, _, HB6.out, by decide, by decide⟩))
  have HA7 := hide (HA6.out.kept kS (fun b hb => by subst hb; exact .inr ⟨_, _, HB6.out, by decide, by decide, by decide, by decide⟩))
  have HY7 := hide (HY6.out.kept kS (fun h => by subst h; exact absurd (blk_type HY6.out HB6.out) (by decide)))
  have HX7 := hide (HX6.out.kept kS (fun h => by subst h; exact absurd (blk_type HX6.out HB6.out) (by decide)))
  have K7 := hide (QuS.trans K6.out (kS.weak (S' := QuS B w6) (fun b _ hb => by subst hb; exact .inr ⟨HLe.out, _, _, HB6.out, .inl rfl⟩)))
  have hB7 := Nat.le_trans hB6 kS.size
  clear kS HB6 HO6 HP6 HA6 HY6 HX6 K6
  go_upto_region 9 with fail
  trace "R9"
  generalize w6.setCell _ _ = w7 at *
  have y0 := HY7.out.cell 0
  have y1 := HY7.out.cell 1
  have y2 := HY7.out.cell 2
  obtain ⟨⟨x0, x1, x2⟩, ⟨g0, g1, g2⟩, hX⟩ := HX7.out.three
  clear p3 f3
  go_region
  trace "R9b"
  have b3 := hide ((HX7.out.set3 (.string ⟨x.text.toArray⟩) (.int .i64 x.time) (.int .u64 x.wgt)).drew)
  have k3 := (keeps3 w7 X (.string ⟨x.text.toArray⟩) (.int .i64 x.time) (.int .u64 x.wgt))
  have hXno : ∀ b, b = X → Other w7 B b ∧ OthP w7 B b := fun b e => by subst e; exact ⟨.inr ⟨_, _, HX7.out, by decide, by decide, by decide, by decide⟩, .inr ⟨_, _, HX7.out, by decide, by decide⟩⟩
  have HB9 := hide ((HB7.out.kept k3 (fun e => by subst e; exact absurd (blk_type HX7.out HB7.out) (by decide))).drew)
  have HO9 := hide (HO7.out.kept (Keeps.drew k3) (fun b hb e => by subst e; obtain ⟨cs, h4⟩ := HO7.out.blk hb; exact absurd (blk_type HX7.out h4) (by decide)))
  have HP9 := hide ((HP7.out.kept k3 (fun b hb => (hXno b hb).2)).quiet ((Keeps.refl (fun _ => False) _).drew))
  have HA9 := hide ((HA7.out.kept k3 (fun b hb => (hXno b hb).1)).quiet ((Keeps.refl (fun _ => False) _).drew))
  have K9 := hide (K7.out.step (Keeps.drew k3) (fun b hb e => by have := HXe.out; omega))
  have hB9 := Nat.le_trans hB7 (Keeps.drew k3).size
  go_wp2_with fail
  trace "END"
  clear k3 hXno
  generalize World.drew _ = w9 at *
  have r0 := b3.out.cell 0
  have r1 := b3.out.cell 1
  have r2 := b3.out.cell 2
  have hmw : (m : Int) - 1 = (W.length : Int) := by have := HW.out; omega
  refine bodyPost_ret (v := .tuple #[.int .i64 x.win, .agg #[.string ⟨x.text.toArray⟩, .int .i64 x.time, .int .u64 x.wgt], .bool true]) (by simp [results, Try.results60, go_sem, r0, r1, r2]) rfl ?_
  rw [hmw] at HB9
  exact ⟨rfl, ⟨_, E5, EA, cap, D5, s5, L5, ⟨HLe.out, HB9.out, HO9.out⟩, HP9.out, HA9.out, HI5.out, hB9, by have := HN5.out; have := hkn.out; omega, hn64⟩, K9.out⟩
end Go.Proofs.Ytidobhflijdccaa
