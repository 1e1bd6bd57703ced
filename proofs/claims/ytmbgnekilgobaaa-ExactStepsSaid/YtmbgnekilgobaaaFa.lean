/-
  The chapter's example of the exact store. No conditions beyond those of the statement.
-/
import Derived.Test.YtmbgnekilgobaaaEr
set_option linter.unusedVariables false
set_option linter.unusedSimpArgs false
namespace Go.Proofs.Ytmbgnekilgobaaa
open Go.RowKit
def exA : Ln := ⟨⟨#[97]⟩, 5, 1⟩
def exB : Ln := ⟨⟨#[98]⟩, 4, 2⟩
def exC : Ln := ⟨⟨#[98]⟩, 5, 2⟩
theorem exl_ab : kLt exA exB.key = true := by simp [kLt, exA, exB, ByteArray.toList_eq, Op.bytesLess]
theorem exl_bb : kLt exB exB.key = false := kLt_irr _ _ rfl
theorem ex1 : posK [] exA.key = 0 ∧ foundK [] exA.key = false := ⟨rfl, rfl⟩
theorem ex2 : posK [exA] exB.key = 1 ∧ foundK [exA] exB.key = false := by
  have h : posK [exA] exB.key = 1 := by unfold posK; rw [List.takeWhile_cons, if_pos exl_ab]; rfl
  exact ⟨h, by unfold foundK; rw [h]; rfl⟩
theorem ex3 : posK [exA, exB] exB.key = 1 ∧ foundK [exA, exB] exB.key = true := by
  have h : posK [exA, exB] exB.key = 1 := by unfold posK; rw [List.takeWhile_cons, if_pos exl_ab, List.takeWhile_cons, if_neg (by rw [exl_bb]; decide)]; rfl
  exact ⟨h, by unfold foundK; rw [h]; exact (cmp_zero _ _).2 rfl⟩
theorem exk (x : Ln) (h : x = exA ∨ x = exB) : (x.key.toList == []) = false := by
  rcases h with rfl | rfl <;> (rw [ByteArray.toList_eq]; rfl)
theorem ex4 : putC 3 0 [] exA = 0 := by unfold putC; rw [exk exA (.inl rfl), ex1.2]; rfl
theorem ex5 : putL 3 0 [] exA = [exA] := by unfold putL; rw [if_pos ex4, ex1.1]; rfl
theorem ex6 : putC 3 1 [exA] exB = 0 := by unfold putC; rw [exk exB (.inr rfl), ex2.2]; rfl
theorem ex7 : putL 3 1 [exA] exB = [exA, exB] := by unfold putL; rw [if_pos ex6, ex2.1]; rfl
theorem ex8 : getE [exA, exB] exB.key = exB := by unfold getE; rw [ex3.1, ex3.2]; rfl
theorem ex9 : addC [exA, exB] exB.key 1 = 0 := by unfold addC; rw [ex3.2, ex8]; rfl
theorem ex10 : addL [exA, exB] exB.key 1 = [exA, exC] := by unfold addL; rw [if_pos ex9, ex3.1, ex8]; rfl
theorem ex11 : leastL [exA, exB] = exB := rfl
theorem ex12 : leastL [exA, exC] = exA := rfl
set_option maxRecDepth 100000 in
theorem awake17 (w : World) : Calls Try.prog 43 #[] w fun e w' => e = .returned (.bool true) ∧ Keeps (fun _ => False) w w' := by
  go_enter Try.func43, Try.ntmps43
  go_wp2_with fail
  refine (enew_ok 3 w (by omega) (by omega)).mono ?_
  rintro e w1 ⟨rfl, hw1⟩
  have HS := hide (show IsS w1 (fun k => k < w.heap.size) w.heap.size 3 [] from by rw [hw1]; exact IsS.new w _ 3 _ rfl (fun k h => h) (by omega) (by omega))
  have hz : w.heap.size + 1 ≤ w1.heap.size := by rw [hw1]; simp
  have K1 : Hid (Keeps (fun k => ¬ k < w.heap.size) w w1) := hide (by rw [hw1]; exact (Keeps.refl _ _).alloc _)
  clear hw1
  go_wp2_with fail
  refine (sput_any w1 _ _ _ _ exA HS.out (fun k h => by omega) ⟨⟨by decide, by decide⟩, ⟨by decide, by decide⟩⟩).mono ?_
  rintro e w2 ⟨rfl, h2, k2⟩
  rw [show putL 3 ([] : List Ln).length [] exA = [exA] from ex5] at h2
  have hz2 := k2.size
  have HS2 := hide h2
  have K2 := hide (K1.out.trans k2)
  clear h2 k2
  go_wp2_with fail
  refine (sput_any w2 _ _ _ _ exB HS2.out (fun k h => by omega) ⟨⟨by decide, by decide⟩, ⟨by decide, by decide⟩⟩).mono ?_
  rintro e w3 ⟨rfl, h3, k3⟩
  rw [show putL 3 [exA].length [exA] exB = [exA, exB] from ex7] at h3
  have hz3 := k3.size
  have HS3 := hide h3
  have K3 := hide (K2.out.trans k3)
  clear h3 k3
  go_wp2_with fail
  refine (sleast_any w3 _ _ _ _ HS3.out).mono ?_
  rintro e w4 ⟨rfl, k4⟩
  rw [ex11, show decide (0 < [exA, exB].length) = true from rfl]
  have k5 := k4.alloc (.cells (lnC exB).toArray 53)
  have HX5 := hide (Blk.new w4 53 (lnC exB).toArray)
  have HS5 := hide (HS3.out.grow k5 (fun _ h => h.elim))
  have hz4 := k4.size
  have K5 := hide (K3.out.step k5 (fun _ _ h => h.elim))
  have hz5 : (w4.alloc (.cells (lnC exB).toArray 53)).heap.size = w4.heap.size + 1 := by simp
  obtain ⟨w5, hw5⟩ : ∃ w5, w5 = w4.alloc (.cells (lnC exB).toArray 53) := ⟨_, rfl⟩
  rw [← hw5] at HX5 HS5 K5 hz5
  have HW5 := hide hw5
  obtain ⟨gx, hgx⟩ : ∃ gx, gx = w4.heap.size := ⟨_, rfl⟩
  rw [← hgx] at HX5
  have HGX := hide hgx
  have hgl : w3.heap.size ≤ gx ∧ gx < w5.heap.size := by omega
  clear k4 k5 hw5 hgx hz5
  unfold exB lnC at HW5
  unfold exB
  go_upto_region 7 with fail
  rw [← HGX.out, ← HW5.out]
  go_wp2_with fail
  refine (sadd_any w5 _ _ _ _ exB.key 1 HS5.out ⟨by decide, by decide⟩).mono ?_
  rintro e w6 ⟨rfl, h6, k6⟩
  rw [ex10] at h6
  rw [ex9]
  have HX6 := hide (HX5.out.kept k6 (fun h => h (.inr hgl)))
  have HS6 := hide h6
  have hz6 := k6.size
  have K6 := hide (K5.out.step k6 (fun q hq h e => h (.inl e)))
  clear h6 k6
  go_wp2_with fail
  refine (sleast_any w6 _ _ _ _ HS6.out).mono ?_
  rintro e w7 ⟨rfl, k7⟩
  rw [ex12, show decide (0 < [exA, exC].length) = true from rfl]
  have x7 := HX6.out.kept k7 (fun h => h)
  have K7 := hide (K6.out.step k7 (fun _ _ h => h.elim))
  obtain ⟨x0, x1, x2⟩ := ln_cells x7
  have hxl := x7.lt
  clear x7 k7
  unfold exB at x0 x1 x2
  dsimp only at x0 x1 x2
  unfold exA
  go_wp2_with fail
  go_ret
  exact ⟨rfl, (K7.out.alloc _).weak (fun q hq h => h hq)⟩
end Go.Proofs.Ytmbgnekilgobaaa
