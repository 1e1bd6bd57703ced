
/-
  Bounds: of an entry, sums, caps and what they contain, each by its contract; the reference's too. No conditions beyond those of the statement.
-/
import Derived.Test.YtmbgnekilgobaaaSat
import Derived.Test.YtmbgnekilgobaaaMem3
import Derived.Deep.CutRange
import Derived.Deep.RegionWith
import Derived.Deep.RegionHeld3
set_option linter.unusedVariables false
set_option linter.unusedSimpArgs false
namespace Go.Proofs.Ytmbgnekilgobaaa
open Go.RowKit
/-- a value of bounds -/
abbrev bnd (lo hi : Int) : Value := .agg #[.int .u64 lo, .int .u64 hi]
abbrev bndC (lo hi : Int) : Array Value := #[.int .u64 lo, .int .u64 hi]
abbrev ent (k : ByteArray) (own slack : Int) : Value := .agg #[.string k, .int .u64 own, .int .u64 slack]
abbrev U (a : Int) : Prop := 0 ≤ a ∧ a < 18446744073709551616
theorem sum_bd (a b : Int) (ha : U a) (hb : U b) : U (Sat.add a b) := Sat.add_bd a b ha.1 hb.1
theorem rsum_any (a b : Int) (ha : U a) (hb : U b) (w : World) : Calls Try.prog 61 #[.int .u64 a, .int .u64 b] w fun e w' => e = .returned (.int .u64 (Sat.add a b)) ∧ w = w' := by
  obtain ⟨a0, a1⟩ := ha
  obtain ⟨b0, b1⟩ := hb
  go_enter Try.func61, Try.ntmps61
  go_wp2_with (go_at_call 77; refine (Sat.radd_any _ _ (by omega) (by omega) (by omega) (by omega) _).mono ?_; rintro e w1 ⟨rfl, rfl⟩)
  go_ret
  exact ⟨rfl, rfl⟩
theorem bof_any (k : ByteArray) (a b : Int) (ha : U a) (hb : U b) (w : World) :
    Calls Try.prog 31 #[ent k a b] w fun e w' => e = .returned (bnd a (Sat.add a b)) ∧ Keeps (fun _ => False) w w' := by
  obtain ⟨a0, a1⟩ := ha
  obtain ⟨b0, b1⟩ := hb
  go_enter Try.func31, Try.ntmps31
  go_wp2_with (go_at_call 60; refine (Sat.add_any _ _ (by omega) (by omega) (by omega) (by omega) _).mono ?_; rintro e w1 ⟨rfl, rfl⟩)
  refine bodyPost_ret (v := bnd a (Sat.add a b)) (by simp [results, Try.results31, go_sem]) rfl ?_
  exact ⟨rfl, by first | exact ((Keeps.refl _ _).alloc _).alloc _⟩
theorem badd_any (a b c d : Int) (ha : U a) (hb : U b) (hc : U c) (hd : U d) (w : World) :
    Calls Try.prog 29 #[bnd a b, bnd c d] w fun e w' => e = .returned (bnd (Sat.add a c) (Sat.add b d)) ∧ Keeps (fun _ => False) w w' := by
  obtain ⟨a0, a1⟩ := ha
  obtain ⟨b0, b1⟩ := hb
  obtain ⟨c0, c1⟩ := hc
  obtain ⟨d0, d1⟩ := hd
  go_enter Try.func29, Try.ntmps29
  go_wp2_with (go_at_call 60; refine (Sat.add_any _ _ (by omega) (by omega) (by omega) (by omega) _).mono ?_; rintro e w1 ⟨rfl, rfl⟩)
  refine bodyPost_ret (v := bnd (Sat.add a c) (Sat.add b d)) (by simp [results, Try.results29, go_sem]) rfl ?_
  exact ⟨rfl, by first | exact (((Keeps.refl _ _).alloc _).alloc _).alloc _⟩
theorem rof_any (k : ByteArray) (a b : Int) (ha : U a) (hb : U b) (w : World) :
    Calls Try.prog 32 #[ent k a b] w fun e w' => e = .returned (bnd a (Sat.add a b)) ∧ Keeps (fun _ => False) w w' := by
  obtain ⟨w2, hw2⟩ : ∃ w2, w2 = (w.alloc (.cells #[.string k, .int .u64 a, .int .u64 b] 53)).alloc (.cells (bndC 0 0) 46) := ⟨_, rfl⟩
  obtain ⟨g, hg⟩ : ∃ g, g = w.heap.size := ⟨_, rfl⟩
  have k2 : Keeps (fun _ => False) w w2 := by rw [hw2]; exact ((Keeps.refl _ _).alloc _).alloc _
  have b1 : Blk w2 g 53 #[.string k, .int .u64 a, .int .u64 b] := by rw [hw2, hg]; exact (Blk.new _ _ _).alloc _
  have b2 : Blk w2 (g + 1) 46 (bndC 0 0) := by rw [hw2, hg]; exact Blk.new_at _ _ _ _ (by simp)
  have c1 := b1.cell 1
  have c2 := b1.cell 2
  have f0 := b2.frozen 0
  have f1 := b2.frozen 1
  have d0 := b2.cell 0
  have d1 := b2.cell 1
  have hl := b2.lt
  have K2 := hide k2
  have HW2 := hide hw2
  have HG := hide hg
  clear hw2 k2 b1 hg
  obtain ⟨a0, a1⟩ := ha
  obtain ⟨e0, e1⟩ := hb
  go_enter Try.func32, Try.ntmps32
  go_upto_region 1 with fail
  rw [← HG.out] at ⊢
  rw [← HW2.out]
  have b2d : Hid (Blk w2.drew (g + 1) 46 (bndC 0 0)) := b2
  have HSg : Hid (∀ W, Keeps (· = g + 1) w2 W → (Keeps (· = g + 1) w2 W ∧ W.cell? ⟨g, 1, none⟩ = some (.int .u64 a) ∧ W.cell? ⟨g, 2, none⟩ = some (.int .u64 b))) := hide (fun W kW => ⟨kW, kW.cell_some c1 (by dsimp only; omega), kW.cell_some c2 (by dsimp only; omega)⟩)
  refine wp_region_held_drew (S := fun W => Keeps (· = g + 1) w2 W ∧ W.cell? ⟨g, 1, none⟩ = some (.int .u64 a) ∧ W.cell? ⟨g, 2, none⟩ = some (.int .u64 b)) (by kernel_rfl) (HSg.out _ (Keeps.refl _ _).drew) (fun hHeld => ?_)
  refine wpAnyH_take (i := 0) (v := ?_) rfl (by kernel_rfl) (by kernel_rfl) (by kernel_rfl) (fun _ _ _ h => h) (Or.inl ⟨by first | kernel_rfl | rfl, ?_⟩) (by assumption) ?_; rotate_left; focus (intro w hSw; (try dsimp only at hSw); go_simp; try (with_reducible rfl)); (try simp only [Act.put, List.getElem_toArray, List.getElem_cons_succ, List.getElem_cons_zero, List.setIfInBounds_toArray, List.set_cons_zero, List.set_cons_succ])
  refine wpAnyH_take (i := 1) (v := ?_) rfl (by kernel_rfl) (by kernel_rfl) (by kernel_rfl) (fun _ _ _ h => h) (Or.inl ⟨by first | kernel_rfl | rfl, ?_⟩) (by assumption) ?_; rotate_left; focus (intro w hSw; (try dsimp only at hSw); go_simp; try (with_reducible rfl)); (try simp only [Act.put, List.getElem_toArray, List.getElem_cons_succ, List.getElem_cons_zero, List.setIfInBounds_toArray, List.set_cons_zero, List.set_cons_succ])
  refine wpAnyH_take (i := 2) (v := ?_) rfl (by kernel_rfl) (by kernel_rfl) (by kernel_rfl) (fun _ _ _ h => h) (Or.inl ⟨by first | kernel_rfl | rfl, ?_⟩) (by assumption) ?_; rotate_left; focus (intro w hSw; (try dsimp only at hSw); go_simp; try (with_reducible rfl)); (try simp only [Act.put, List.getElem_toArray, List.getElem_cons_succ, List.getElem_cons_zero, List.setIfInBounds_toArray, List.set_cons_zero, List.set_cons_succ])
  refine wpAnyH_take (i := 3) (v := ?_) rfl (by kernel_rfl) (by kernel_rfl) (by kernel_rfl) (fun _ _ _ h => h) (Or.inl ⟨by first | kernel_rfl | rfl, ?_⟩) (by assumption) ?_; rotate_left; focus (intro w hSw; (try dsimp only at hSw); go_simp; try (with_reducible rfl)); (try simp only [Act.put, List.getElem_toArray, List.getElem_cons_succ, List.getElem_cons_zero, List.setIfInBounds_toArray, List.set_cons_zero, List.set_cons_succ])
  refine wpAnyH_take (i := 4) (v := ?_) rfl (by kernel_rfl) (by kernel_rfl) (by kernel_rfl) (fun _ _ _ h => h) (Or.inl ⟨by first | kernel_rfl | rfl, ?_⟩) (by assumption) ?_; rotate_left; focus (intro w hSw; (try dsimp only at hSw); go_simp; try (with_reducible rfl)); (try simp only [Act.put, List.getElem_toArray, List.getElem_cons_succ, List.getElem_cons_zero, List.setIfInBounds_toArray, List.set_cons_zero, List.set_cons_succ])
  refine wpAnyH_take (i := 5) (v := ?_) rfl (by kernel_rfl) (by kernel_rfl) (by kernel_rfl) (fun _ _ _ h => h) (Or.inl ⟨by first | kernel_rfl | rfl, ?_⟩) (by assumption) ?_; rotate_left; focus (intro w hSw; (try dsimp only at hSw); go_simp; try (with_reducible rfl)); (try simp only [Act.put, List.getElem_toArray, List.getElem_cons_succ, List.getElem_cons_zero, List.setIfInBounds_toArray, List.set_cons_zero, List.set_cons_succ])
  refine wpAnyH_ready (rs := [6]) (by kernel_rfl) (by simp) ?_
  refine AllReadyH.cons rfl (fun K hK => ?_) AllReadyH.nil
  go_simp
  go_at_call 61
  refine (rsum_any _ _ ⟨by omega, by omega⟩ ⟨by omega, by omega⟩ _).mono ?_
  rintro e w5 ⟨rfl, rfl⟩
  (try go_wp2_with fail)
  refine hK.out _ _ (HSg.out _ (Keeps.refl _ _).drew) (fun _ => ?_)
  clear hK K
  (try simp only [Act.put, List.getElem_toArray, List.getElem_cons_succ, List.getElem_cons_zero, List.setIfInBounds_toArray, List.set_cons_zero, List.set_cons_succ])
  refine wpAnyH_take (i := 7) (v := ?_) rfl (by kernel_rfl) (by kernel_rfl) (by kernel_rfl) (fun _ _ _ h => h) (Or.inl ⟨by first | kernel_rfl | rfl, ?_⟩) (by assumption) ?_; rotate_left; focus (intro w hSw; (try dsimp only at hSw); go_simp; try (with_reducible rfl)); (try simp only [Act.put, List.getElem_toArray, List.getElem_cons_succ, List.getElem_cons_zero, List.setIfInBounds_toArray, List.set_cons_zero, List.set_cons_succ])
  refine wpAnyH_ready (rs := [8]) (by kernel_rfl) (by simp) ?_
  refine AllReadyH.cons rfl (fun K hK => ?_) AllReadyH.nil
  go_simp
  obtain ⟨w6, hw6⟩ : ∃ w6, w6 = ((w2.setCell ⟨g + 1, 0, none⟩ (.int .u64 a)).setCell ⟨g + 1, 1, none⟩ (.int .u64 (Sat.add a b))).drew := ⟨_, rfl⟩
  rw [← hw6]
  have b6 : Blk w6 (g + 1) 46 (bndC a (Sat.add a b)) := by rw [hw6]; exact ((show Blk w2 _ _ _ from b2d.out).set 0 _).set 1 _
  have k6 : Keeps (· = g + 1) w2 w6 := by
    rw [hw6]
    exact (Keeps.setCell (S := (· = g + 1)) (p := ⟨g + 1, 1, none⟩) (Keeps.setCell (S := (· = g + 1)) (p := ⟨g + 1, 0, none⟩) (Keeps.refl _ _) (.inl rfl) _) (.inl rfl) _).drew
  refine hK.out _ _ (HSg.out _ k6) (fun _ => ?_)
  clear hK K
  (try simp only [Act.put, List.getElem_toArray, List.getElem_cons_succ, List.getElem_cons_zero, List.setIfInBounds_toArray, List.set_cons_zero, List.set_cons_succ])
  refine wpAnyH_done (by kernel_rfl) ?_ _
  (try simp only [Act.put, List.getElem_toArray, List.getElem_cons_succ, List.getElem_cons_zero, List.setIfInBounds_toArray, List.set_cons_zero, List.set_cons_succ])
  have r0 := b6.cell 0
  have r1 := b6.cell 1
  clear hHeld HSg hw6
  go_wp2_with fail
  refine bodyPost_ret (v := bnd a (Sat.add a b)) (by simp [results, Try.results32, go_sem, r0, r1]) rfl ?_
  exact ⟨rfl, K2.out.step k6 (fun b hb e => by have := HG.out; omega)⟩
theorem raddb_any (a b c d : Int) (ha : U a) (hb : U b) (hc : U c) (hd : U d) (w : World) :
    Calls Try.prog 33 #[bnd a b, bnd c d] w fun e w' => e = .returned (bnd (Sat.add a c) (Sat.add b d)) ∧ Keeps (fun _ => False) w w' := by
  obtain ⟨w2, hw2⟩ : ∃ w2, w2 = ((w.alloc (.cells (bndC a b) 46)).alloc (.cells (bndC c d) 46)).alloc (.cells (bndC 0 0) 46) := ⟨_, rfl⟩
  obtain ⟨g, hg⟩ : ∃ g, g = w.heap.size := ⟨_, rfl⟩
  have k2 : Keeps (fun _ => False) w w2 := by rw [hw2]; exact (((Keeps.refl _ _).alloc _).alloc _).alloc _
  have b1 : Blk w2 g 46 (bndC a b) := by rw [hw2, hg]; exact ((Blk.new _ _ _).alloc _).alloc _
  have b3 : Blk w2 (g + 1) 46 (bndC c d) := by rw [hw2, hg]; exact (Blk.new_at _ _ _ _ (by simp)).alloc _
  have b2 : Blk w2 (g + 1 + 1) 46 (bndC 0 0) := by rw [hw2, hg]; exact Blk.new_at _ _ _ _ (by simp)
  have c0 := b1.cell 0
  have c1 := b1.cell 1
  have e0 := b3.cell 0
  have e1 := b3.cell 1
  have f0 := b2.frozen 0
  have f1 := b2.frozen 1
  have d0 := b2.cell 0
  have d1 := b2.cell 1
  have hl := b2.lt
  have K2 := hide k2
  have HW2 := hide hw2
  have HG := hide hg
  clear hw2 k2 b1 b3 hg
  obtain ⟨a0, a1⟩ := ha
  obtain ⟨b0, b1⟩ := hb
  obtain ⟨c0', c1'⟩ := hc
  obtain ⟨d0', d1'⟩ := hd
  go_enter Try.func33, Try.ntmps33
  go_upto_region 1 with fail
  rw [← HG.out] at ⊢
  rw [← HW2.out]
  have b2d : Hid (Blk w2.drew (g + 1 + 1) 46 (bndC 0 0)) := b2
  have HSg : Hid (∀ W, Keeps (· = g + 1 + 1) w2 W → (Keeps (· = g + 1 + 1) w2 W ∧ W.cell? ⟨g, 0, none⟩ = some (.int .u64 a) ∧ W.cell? ⟨g, 1, none⟩ = some (.int .u64 b) ∧ W.cell? ⟨g + 1, 0, none⟩ = some (.int .u64 c) ∧ W.cell? ⟨g + 1, 1, none⟩ = some (.int .u64 d))) := hide (fun W kW => ⟨kW, kW.cell_some c0 (by dsimp only; omega), kW.cell_some c1 (by dsimp only; omega), kW.cell_some e0 (by dsimp only; omega), kW.cell_some e1 (by dsimp only; omega)⟩)
  refine wp_region_held_drew (S := fun W => Keeps (· = g + 1 + 1) w2 W ∧ W.cell? ⟨g, 0, none⟩ = some (.int .u64 a) ∧ W.cell? ⟨g, 1, none⟩ = some (.int .u64 b) ∧ W.cell? ⟨g + 1, 0, none⟩ = some (.int .u64 c) ∧ W.cell? ⟨g + 1, 1, none⟩ = some (.int .u64 d)) (by kernel_rfl) (HSg.out _ (Keeps.refl _ _).drew) (fun hHeld => ?_)
  refine wpAnyH_take (i := 0) (v := ?_) rfl (by kernel_rfl) (by kernel_rfl) (by kernel_rfl) (fun _ _ _ h => h) (Or.inl ⟨by first | kernel_rfl | rfl, ?_⟩) (by assumption) ?_; rotate_left; focus (intro w hSw; (try dsimp only at hSw); go_simp; try (with_reducible rfl)); (try simp only [Act.put, List.getElem_toArray, List.getElem_cons_succ, List.getElem_cons_zero, List.setIfInBounds_toArray, List.set_cons_zero, List.set_cons_succ])
  refine wpAnyH_take (i := 1) (v := ?_) rfl (by kernel_rfl) (by kernel_rfl) (by kernel_rfl) (fun _ _ _ h => h) (Or.inl ⟨by first | kernel_rfl | rfl, ?_⟩) (by assumption) ?_; rotate_left; focus (intro w hSw; (try dsimp only at hSw); go_simp; try (with_reducible rfl)); (try simp only [Act.put, List.getElem_toArray, List.getElem_cons_succ, List.getElem_cons_zero, List.setIfInBounds_toArray, List.set_cons_zero, List.set_cons_succ])
  refine wpAnyH_take (i := 2) (v := ?_) rfl (by kernel_rfl) (by kernel_rfl) (by kernel_rfl) (fun _ _ _ h => h) (Or.inl ⟨by first | kernel_rfl | rfl, ?_⟩) (by assumption) ?_; rotate_left; focus (intro w hSw; (try dsimp only at hSw); go_simp; try (with_reducible rfl)); (try simp only [Act.put, List.getElem_toArray, List.getElem_cons_succ, List.getElem_cons_zero, List.setIfInBounds_toArray, List.set_cons_zero, List.set_cons_succ])
  refine wpAnyH_take (i := 3) (v := ?_) rfl (by kernel_rfl) (by kernel_rfl) (by kernel_rfl) (fun _ _ _ h => h) (Or.inl ⟨by first | kernel_rfl | rfl, ?_⟩) (by assumption) ?_; rotate_left; focus (intro w hSw; (try dsimp only at hSw); go_simp; try (with_reducible rfl)); (try simp only [Act.put, List.getElem_toArray, List.getElem_cons_succ, List.getElem_cons_zero, List.setIfInBounds_toArray, List.set_cons_zero, List.set_cons_succ])
  refine wpAnyH_take (i := 5) (v := ?_) rfl (by kernel_rfl) (by kernel_rfl) (by kernel_rfl) (fun _ _ _ h => h) (Or.inl ⟨by first | kernel_rfl | rfl, ?_⟩) (by assumption) ?_; rotate_left; focus (intro w hSw; (try dsimp only at hSw); go_simp; try (with_reducible rfl)); (try simp only [Act.put, List.getElem_toArray, List.getElem_cons_succ, List.getElem_cons_zero, List.setIfInBounds_toArray, List.set_cons_zero, List.set_cons_succ])
  refine wpAnyH_take (i := 6) (v := ?_) rfl (by kernel_rfl) (by kernel_rfl) (by kernel_rfl) (fun _ _ _ h => h) (Or.inl ⟨by first | kernel_rfl | rfl, ?_⟩) (by assumption) ?_; rotate_left; focus (intro w hSw; (try dsimp only at hSw); go_simp; try (with_reducible rfl)); (try simp only [Act.put, List.getElem_toArray, List.getElem_cons_succ, List.getElem_cons_zero, List.setIfInBounds_toArray, List.set_cons_zero, List.set_cons_succ])
  refine wpAnyH_take (i := 7) (v := ?_) rfl (by kernel_rfl) (by kernel_rfl) (by kernel_rfl) (fun _ _ _ h => h) (Or.inl ⟨by first | kernel_rfl | rfl, ?_⟩) (by assumption) ?_; rotate_left; focus (intro w hSw; (try dsimp only at hSw); go_simp; try (with_reducible rfl)); (try simp only [Act.put, List.getElem_toArray, List.getElem_cons_succ, List.getElem_cons_zero, List.setIfInBounds_toArray, List.set_cons_zero, List.set_cons_succ])
  refine wpAnyH_take (i := 8) (v := ?_) rfl (by kernel_rfl) (by kernel_rfl) (by kernel_rfl) (fun _ _ _ h => h) (Or.inl ⟨by first | kernel_rfl | rfl, ?_⟩) (by assumption) ?_; rotate_left; focus (intro w hSw; (try dsimp only at hSw); go_simp; try (with_reducible rfl)); (try simp only [Act.put, List.getElem_toArray, List.getElem_cons_succ, List.getElem_cons_zero, List.setIfInBounds_toArray, List.set_cons_zero, List.set_cons_succ])
  refine wpAnyH_ready (rs := [4]) (by kernel_rfl) (by simp) ?_
  refine AllReadyH.cons rfl (fun K hK => ?_) AllReadyH.nil
  skip
  go_simp
  go_at_call 61
  refine (rsum_any _ _ ⟨by omega, by omega⟩ ⟨by omega, by omega⟩ _).mono ?_
  rintro e w5 ⟨rfl, rfl⟩
  (try go_wp2_with fail)
  refine hK.out _ _ (HSg.out _ (Keeps.refl _ _).drew) (fun _ => ?_)
  clear hK K
  (try simp only [Act.put, List.getElem_toArray, List.getElem_cons_succ, List.getElem_cons_zero, List.setIfInBounds_toArray, List.set_cons_zero, List.set_cons_succ])
  refine wpAnyH_ready (rs := [9]) (by kernel_rfl) (by simp) ?_
  refine AllReadyH.cons rfl (fun K hK => ?_) AllReadyH.nil
  skip
  go_simp
  go_at_call 61
  refine (rsum_any _ _ ⟨by omega, by omega⟩ ⟨by omega, by omega⟩ _).mono ?_
  rintro e w5 ⟨rfl, rfl⟩
  (try go_wp2_with fail)
  refine hK.out _ _ (HSg.out _ (Keeps.refl _ _).drew) (fun _ => ?_)
  clear hK K
  (try simp only [Act.put, List.getElem_toArray, List.getElem_cons_succ, List.getElem_cons_zero, List.setIfInBounds_toArray, List.set_cons_zero, List.set_cons_succ])
  refine wpAnyH_take (i := 10) (v := ?_) rfl (by kernel_rfl) (by kernel_rfl) (by kernel_rfl) (fun _ _ _ h => h) (Or.inl ⟨by first | kernel_rfl | rfl, ?_⟩) (by assumption) ?_; rotate_left; focus (intro w hSw; (try dsimp only at hSw); go_simp; try (with_reducible rfl)); (try simp only [Act.put, List.getElem_toArray, List.getElem_cons_succ, List.getElem_cons_zero, List.setIfInBounds_toArray, List.set_cons_zero, List.set_cons_succ])
  refine wpAnyH_ready (rs := [11]) (by kernel_rfl) (by simp) ?_
  refine AllReadyH.cons rfl (fun K hK => ?_) AllReadyH.nil
  go_simp
  obtain ⟨w6, hw6⟩ : ∃ w6, w6 = ((w2.setCell ⟨g + 1 + 1, 0, none⟩ (.int .u64 (Sat.add a c))).setCell ⟨g + 1 + 1, 1, none⟩ (.int .u64 (Sat.add b d))).drew := ⟨_, rfl⟩
  rw [← hw6]
  have b6 : Blk w6 (g + 1 + 1) 46 (bndC (Sat.add a c) (Sat.add b d)) := by rw [hw6]; exact ((show Blk w2 _ _ _ from b2d.out).set 0 _).set 1 _
  have k6 : Keeps (· = g + 1 + 1) w2 w6 := by
    rw [hw6]
    exact (Keeps.setCell (S := (· = g + 1 + 1)) (p := ⟨g + 1 + 1, 1, none⟩) (Keeps.setCell (S := (· = g + 1 + 1)) (p := ⟨g + 1 + 1, 0, none⟩) (Keeps.refl _ _) (.inl rfl) _) (.inl rfl) _).drew
  refine hK.out _ _ (HSg.out _ k6) (fun _ => ?_)
  clear hK K
  (try simp only [Act.put, List.getElem_toArray, List.getElem_cons_succ, List.getElem_cons_zero, List.setIfInBounds_toArray, List.set_cons_zero, List.set_cons_succ])
  refine wpAnyH_done (by kernel_rfl) ?_ _
  (try simp only [Act.put, List.getElem_toArray, List.getElem_cons_succ, List.getElem_cons_zero, List.setIfInBounds_toArray, List.set_cons_zero, List.set_cons_succ])
  have r0 := b6.cell 0
  have r1 := b6.cell 1
  clear hHeld HSg hw6
  go_wp2_with fail
  refine bodyPost_ret (v := bnd (Sat.add a c) (Sat.add b d)) (by simp [results, Try.results33, go_sem, r0, r1]) rfl ?_
  exact ⟨rfl, K2.out.step k6 (fun b hb e => by have := HG.out; omega)⟩
def imin (a b : Int) : Int := if a ≤ b then a else b
theorem bcap_any (a b m : Int) (w : World) :
    Calls Try.prog 30 #[bnd a b, .int .u64 m] w fun e w' => e = .returned (bnd (imin a m) (imin b m)) ∧ Keeps (fun _ => False) w w' := by
  go_enter Try.func30, Try.ntmps30
  go_wp2_with fail
  all_goals
    refine bodyPost_ret (v := bnd (imin a m) (imin b m)) (by simp [results, Try.results30, go_sem]; constructor <;> (unfold imin; split <;> omega)) rfl ?_
    exact ⟨rfl, by first | exact (((Keeps.refl _ _).alloc _).alloc _)⟩
theorem rcap_any (a b m : Int) (w : World) :
    Calls Try.prog 34 #[bnd a b, .int .u64 m] w fun e w' => e = .returned (bnd (imin a m) (imin b m)) ∧ Keeps (fun _ => False) w w' := by
  go_enter Try.func34, Try.ntmps34
  go_wp2_with fail
  all_goals
    refine bodyPost_ret (v := bnd (imin a m) (imin b m)) (by simp [results, Try.results34, go_sem]; constructor <;> (unfold imin; split <;> omega)) rfl ?_
    exact ⟨rfl, by first | exact (((Keeps.refl _ _).alloc _).alloc _)⟩
def cont (a b n : Int) : Bool := decide (a ≤ n) && decide (n ≤ b)
theorem bcont_any (a b n : Int) (w : World) : Calls Try.prog 28 #[bnd a b, .int .u64 n] w fun e w' => e = .returned (.bool (cont a b n)) ∧ Keeps (fun _ => False) w w' := by
  rcases h1 : decide (a ≤ n) with _ | _
  · go_enter Try.func28, Try.ntmps28
    go_wp2_with fail
    go_ret
    exact ⟨ret_bool (by simp [cont, h1]), by first | exact ((Keeps.refl _ _).alloc _)⟩
  · rcases h2 : decide (n ≤ b) with _ | _
    all_goals
      go_enter Try.func28, Try.ntmps28
      go_wp2_with fail
      go_ret
      exact ⟨ret_bool (by simp [cont, h1, h2]), by first | exact ((Keeps.refl _ _).alloc _)⟩
theorem rcont_any (a b n : Int) (w : World) : Calls Try.prog 35 #[bnd a b, .int .u64 n] w fun e w' => e = .returned (.bool (cont a b n)) ∧ Keeps (fun _ => False) w w' := by
  rcases h1 : decide (a ≤ n) with _ | _
  · go_enter Try.func35, Try.ntmps35
    go_wp2_with fail
    go_ret
    exact ⟨ret_bool (by simp [cont, h1]), by first | exact ((Keeps.refl _ _).alloc _)⟩
  · rcases h2 : decide (n ≤ b) with _ | _
    all_goals
      go_enter Try.func35, Try.ntmps35
      go_wp2_with fail
      go_ret
      exact ⟨ret_bool (by simp [cont, h1, h2]), by first | exact ((Keeps.refl _ _).alloc _)⟩
end Go.Proofs.Ytmbgnekilgobaaa
