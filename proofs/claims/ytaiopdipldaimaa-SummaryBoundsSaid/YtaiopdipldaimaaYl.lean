
/-
  Bounds: of an entry, sums, caps and what they contain, each by its contract; the reference's too. No conditions beyond those of the statement.
-/
import Derived.Test.YtaiopdipldaimaaSat
import Derived.Test.YtaiopdipldaimaaMem3
import Derived.Deep.CutRange
import Derived.Deep.RegionWith
import Derived.Deep.RegionHeld3
set_option linter.unusedVariables false
set_option linter.unusedSimpArgs false
namespace Go.Proofs.Ytaiopdipldaimaa
open Go.RowKit
/-- a value of bounds -/
abbrev bnd (lo hi : Int) : Value := .agg #[.int .u64 lo, .int .u64 hi]
abbrev bndC (lo hi : Int) : Array Value := #[.int .u64 lo, .int .u64 hi]
abbrev ent (k : ByteArray) (own slack : Int) : Value := .agg #[.string k, .int .u64 own, .int .u64 slack]
abbrev U (a : Int) : Prop := 0 ≤ a ∧ a < 18446744073709551616
theorem sum_bd (a b : Int) (ha : U a) (hb : U b) : U (Sat.add a b) := Sat.add_bd a b ha.1 hb.1
theorem rsum_any (a b : Int) (ha : U a) (hb : U b) (w : World) : Calls Try.prog 72 #[.int .u64 a, .int .u64 b] w fun e w' => e = .returned (.int .u64 (Sat.add a b)) ∧ w = w' := by
  obtain ⟨a0, a1⟩ := ha
  obtain ⟨b0, b1⟩ := hb
  go_enter Try.func72, Try.ntmps72
  go_wp2_with (go_at_call 91; refine (Sat.radd_any _ _ (by omega) (by omega) (by omega) (by omega) _).mono ?_; rintro e w1 ⟨rfl, rfl⟩)
  go_ret
  exact ⟨rfl, rfl⟩
theorem bof_any (k : ByteArray) (a b : Int) (ha : U a) (hb : U b) (w : World) :
    Calls Try.prog 77 #[ent k a b] w fun e w' => e = .returned (bnd a (Sat.add a b)) ∧ Keeps (fun _ => False) w w' := by
  obtain ⟨a0, a1⟩ := ha
  obtain ⟨b0, b1⟩ := hb
  go_enter Try.func77, Try.ntmps77
  go_wp2_with (go_at_call 69; refine (Sat.add_any _ _ (by omega) (by omega) (by omega) (by omega) _).mono ?_; rintro e w1 ⟨rfl, rfl⟩)
  refine bodyPost_ret (v := bnd a (Sat.add a b)) (by simp [results, Try.results77, go_sem]) rfl ?_
  exact ⟨rfl, by first | exact ((Keeps.refl _ _).alloc _).alloc _⟩
theorem rofe_any (k : ByteArray) (a b : Int) (ha : U a) (hb : U b) (w : World) :
    Calls Try.prog 80 #[ent k a b] w fun e w' => e = .returned (bnd a (Sat.add a b)) ∧ Keeps (fun _ => False) w w' := by
  obtain ⟨w2, hw2⟩ : ∃ w2, w2 = (w.alloc (.cells #[.string k, .int .u64 a, .int .u64 b] 99)).alloc (.cells (bndC 0 0) 81) := ⟨_, rfl⟩
  obtain ⟨g, hg⟩ : ∃ g, g = w.heap.size := ⟨_, rfl⟩
  have k2 : Keeps (fun _ => False) w w2 := by rw [hw2]; exact ((Keeps.refl _ _).alloc _).alloc _
  have b1 : Blk w2 g 99 #[.string k, .int .u64 a, .int .u64 b] := by rw [hw2, hg]; exact (Blk.new _ _ _).alloc _
  have b2 : Blk w2 (g + 1) 81 (bndC 0 0) := by rw [hw2, hg]; exact Blk.new_at _ _ _ _ (by simp)
  have c1 := b1.cell 1
  have c2 := b1.cell 2
  have f0 := b2.frozen 0
  have f1 := b2.frozen 1
  have d0 := b2.cell 0
  have d1 := b2.cell 1
  have hl := b2.lt
  have K2 := hide k2
  have HW2 := hide hw2
  have HG := hide hg
  clear hw2 k2 b1 hg
  obtain ⟨a0, a1⟩ := ha
  obtain ⟨e0, e1⟩ := hb
  go_enter Try.func80, Try.ntmps80
  go_upto_region 1 with fail
  rw [← HG.out] at ⊢
  rw [← HW2.out]
  have b2d : Hid (Blk w2.drew (g + 1) 81 (bndC 0 0)) := b2
  have HSg : Hid (∀ W, Keeps (· = g + 1) w2 W → (Keeps (· = g + 1) w2 W ∧ W.cell? ⟨g, 1, none⟩ = some (.int .u64 a) ∧ W.cell? ⟨g, 2, none⟩ = some (.int .u64 b))) := hide (fun W kW => ⟨kW, kW.cell_some c1 (by dsimp only; omega), kW.cell_some c2 (by dsimp only; omega)⟩)
  refine wp_region_held_drew (S := fun W => Keeps (· = g + 1) w2 W ∧ W.cell? ⟨g, 1, none⟩ = some (.int .u64 a) ∧ W.cell? ⟨g, 2, none⟩ = some (.int .u64 b)) (by kernel_rfl) (HSg.out _ (Keeps.refl _ _).drew) (fun hHeld => ?_)
  refine wpAnyH_take (i := 0) (v := ?_) rfl (by kernel_rfl) (by kernel_rfl) (by kernel_rfl) (fun _ _ _ h => h) (Or.inl ⟨by first | kernel_rfl | rfl, ?_⟩) (by assumption) ?_; rotate_left; focus (intro w hSw; (try dsimp only at hSw); go_simp; try (with_reducible rfl)); (try simp only [Act.put, List.getElem_toArray, List.getElem_cons_succ, List.getElem_cons_zero, List.setIfInBounds_toArray, List.set_cons_zero, List.set_cons_succ])
  refine wpAnyH_take (i := 1) (v := ?_) rfl (by kernel_rfl) (by kernel_rfl) (by kernel_rfl) (fun _ _ _ h => h) (Or.inl ⟨by first | kernel_rfl | rfl, ?_⟩) (by assumption) ?_; rotate_left; focus (intro w hSw; (try dsimp only at hSw); go_simp; try (with_reducible rfl)); (try simp only [Act.put, List.getElem_toArray, List.getElem_cons_succ, List.getElem_cons_zero, List.setIfInBounds_toArray, List.set_cons_zero, List.set_cons_succ])
  refine wpAnyH_take (i := 2) (v := ?_) rfl (by kernel_rfl) (by kernel_rfl) (by kernel_rfl) (fun _ _ _ h => h) (Or.inl ⟨by first | kernel_rfl | rfl, ?_⟩) (by assumption) ?_; rotate_left; focus (intro w hSw; (try dsimp only at hSw); go_simp; try (with_reducible rfl)); (try simp only [Act.put, List.getElem_toArray, List.getElem_cons_succ, List.getElem_cons_zero, List.setIfInBounds_toArray, List.set_cons_zero, List.set_cons_succ])
  refine wpAnyH_take (i := 3) (v := ?_) rfl (by kernel_rfl) (by kernel_rfl) (by kernel_rfl) (fun _ _ _ h => h) (Or.inl ⟨by first | kernel_rfl | rfl, ?_⟩) (by assumption) ?_; rotate_left; focus (intro w hSw; (try dsimp only at hSw); go_simp; try (with_reducible rfl)); (try simp only [Act.put, List.getElem_toArray, List.getElem_cons_succ, List.getElem_cons_zero, List.setIfInBounds_toArray, List.set_cons_zero, List.set_cons_succ])
  refine wpAnyH_take (i := 4) (v := ?_) rfl (by kernel_rfl) (by kernel_rfl) (by kernel_rfl) (fun _ _ _ h => h) (Or.inl ⟨by first | kernel_rfl | rfl, ?_⟩) (by assumption) ?_; rotate_left; focus (intro w hSw; (try dsimp only at hSw); go_simp; try (with_reducible rfl)); (try simp only [Act.put, List.getElem_toArray, List.getElem_cons_succ, List.getElem_cons_zero, List.setIfInBounds_toArray, List.set_cons_zero, List.set_cons_succ])
  refine wpAnyH_take (i := 5) (v := ?_) rfl (by kernel_rfl) (by kernel_rfl) (by kernel_rfl) (fun _ _ _ h => h) (Or.inl ⟨by first | kernel_rfl | rfl, ?_⟩) (by assumption) ?_; rotate_left; focus (intro w hSw; (try dsimp only at hSw); go_simp; try (with_reducible rfl)); (try simp only [Act.put, List.getElem_toArray, List.getElem_cons_succ, List.getElem_cons_zero, List.setIfInBounds_toArray, List.set_cons_zero, List.set_cons_succ])
  refine wpAnyH_ready (rs := [6]) (by kernel_rfl) (by simp) ?_
  refine AllReadyH.cons rfl (fun K hK => ?_) AllReadyH.nil
  go_simp
  go_at_call 72
  refine (rsum_any _ _ ⟨by omega, by omega⟩ ⟨by omega, by omega⟩ _).mono ?_
  rintro e w5 ⟨rfl, rfl⟩
  (try go_wp2_with fail)
  refine hK.out _ _ (HSg.out _ (Keeps.refl _ _).drew) (fun _ => ?_)
  clear hK K
  (try simp only [Act.put, List.getElem_toArray, List.getElem_cons_succ, List.getElem_cons_zero, List.setIfInBounds_toArray, List.set_cons_zero, List.set_cons_succ])
  refine wpAnyH_take (i := 7) (v := ?_) rfl (by kernel_rfl) (by kernel_rfl) (by kernel_rfl) (fun _ _ _ h => h) (Or.inl ⟨by first | kernel_rfl | rfl, ?_⟩) (by assumption) ?_; rotate_left; focus (intro w hSw; (try dsimp only at hSw); go_simp; try (with_reducible rfl)); (try simp only [Act.put, List.getElem_toArray, List.getElem_cons_succ, List.getElem_cons_zero, List.setIfInBounds_toArray, List.set_cons_zero, List.set_cons_succ])
  refine wpAnyH_ready (rs := [8]) (by kernel_rfl) (by simp) ?_
  refine AllReadyH.cons rfl (fun K hK => ?_) AllReadyH.nil
  go_simp
  obtain ⟨w6, hw6⟩ : ∃ w6, w6 = ((w2.setCell ⟨g + 1, 0, none⟩ (.int .u64 a)).setCell ⟨g + 1, 1, none⟩ (.int .u64 (Sat.add a b))).drew := ⟨_, rfl⟩
  rw [← hw6]
  have b6 : Blk w6 (g + 1) 81 (bndC a (Sat.add a b)) := by rw [hw6]; exact ((show Blk w2 _ _ _ from b2d.out).set 0 _).set 1 _
  have k6 : Keeps (· = g + 1) w2 w6 := by
    rw [hw6]
    exact (Keeps.setCell (S := (· = g + 1)) (p := ⟨g + 1, 1, none⟩) (Keeps.setCell (S := (· = g + 1)) (p := ⟨g + 1, 0, none⟩) (Keeps.refl _ _) (.inl rfl) _) (.inl rfl) _).drew
  refine hK.out _ _ (HSg.out _ k6) (fun _ => ?_)
  clear hK K
  (try simp only [Act.put, List.getElem_toArray, List.getElem_cons_succ, List.getElem_cons_zero, List.setIfInBounds_toArray, List.set_cons_zero, List.set_cons_succ])
  refine wpAnyH_done (by kernel_rfl) ?_ _
  (try simp only [Act.put, List.getElem_toArray, List.getElem_cons_succ, List.getElem_cons_zero, List.setIfInBounds_toArray, List.set_cons_zero, List.set_cons_succ])
  have r0 := b6.cell 0
  have r1 := b6.cell 1
  clear hHeld HSg hw6
  go_wp2_with fail
  refine bodyPost_ret (v := bnd a (Sat.add a b)) (by simp [results, Try.results80, go_sem, r0, r1]) rfl ?_
  exact ⟨rfl, K2.out.step k6 (fun b hb e => by have := HG.out; omega)⟩
def imin (a b : Int) : Int := if a ≤ b then a else b
theorem bcap_any (a b m : Int) (w : World) :
    Calls Try.prog 78 #[bnd a b, .int .u64 m] w fun e w' => e = .returned (bnd (imin a m) (imin b m)) ∧ Keeps (fun _ => False) w w' := by
  go_enter Try.func78, Try.ntmps78
  go_wp2_with fail
  all_goals
    refine bodyPost_ret (v := bnd (imin a m) (imin b m)) (by simp [results, Try.results78, go_sem]; constructor <;> (unfold imin; split <;> omega)) rfl ?_
    exact ⟨rfl, by first | exact (((Keeps.refl _ _).alloc _).alloc _)⟩
theorem rcap_any (a b m : Int) (w : World) :
    Calls Try.prog 79 #[bnd a b, .int .u64 m] w fun e w' => e = .returned (bnd (imin a m) (imin b m)) ∧ Keeps (fun _ => False) w w' := by
  go_enter Try.func79, Try.ntmps79
  go_wp2_with fail
  all_goals
    refine bodyPost_ret (v := bnd (imin a m) (imin b m)) (by simp [results, Try.results79, go_sem]; constructor <;> (unfold imin; split <;> omega)) rfl ?_
    exact ⟨rfl, by first | exact (((Keeps.refl _ _).alloc _).alloc _)⟩
def cont (a b n : Int) : Bool := decide (a ≤ n) && decide (n ≤ b)
end Go.Proofs.Ytaiopdipldaimaa
