/-
  The chapter's examples of streams: 'awake'.
-/
import Derived.Test.YtmbmlkllhcgkgaaLaw06
set_option linter.unusedVariables false
set_option linter.unusedSimpArgs false
namespace Go.Proofs.Ytmbmlkllhcgkgaa
open Go.RowKit
open Vp Stp

theorem Own.zero {w : World} {base n c sz : Nat} {e : TypeId} {A : Option Addr} (h : Own w base e sz A n c []) (hs : 0 < sz) : n = 0 := by
  have := h.len
  rcases Nat.eq_zero_or_pos n with h0 | h0
  · exact h0
  · have := Nat.mul_pos h0 hs; simp at *; omega
theorem by8_0 : by8 0 = .int .u8 0 := rfl
theorem by8_2 : by8 2 = .int .u8 2 := rfl
theorem by8_7 : by8 7 = .int .u8 7 := rfl
theorem by8_9 : by8 9 = .int .u8 9 := rfl
theorem by8_32 : by8 32 = .int .u8 32 := rfl
theorem by8_129 : by8 129 = .int .u8 129 := rfl
theorem feed_a : feedL init [2, 7] = (⟨[2, 7], 0, false⟩, []) := by rfl
theorem feed_b : feedL ⟨[2, 7], 0, false⟩ [9, 0] = (init, [⟨[7, 9], 0⟩, ⟨[], 0⟩]) := by rfl
theorem feed_c : feedL init [129, 32] = (⟨[], 4097, false⟩, [⟨[], 2⟩]) := by rfl
set_option maxRecDepth 100000 in
set_option maxHeartbeats 400000 in
theorem awake06 (w : World) : Calls Try.prog 12 #[] w fun e w' => e = .returned (.bool true) ∧ Keeps (fun _ => False) w w' := by
  have H1 := fun (w : World) (g : Nat) (hg : g = w.heap.size) => Feed_any init good_init (by decide) none 0 0 0 (World.alloc w (.cells #[by8 2, by8 7] 5)) (Rd.zero rfl) (Nat.zero_le _) [2, 7] (some ⟨g, 0, none⟩) 2 2 _ (Blk.rd (xs := [by8 2, by8 7]) (Blk.new_at w _ _ g hg) rfl) (Nat.le_refl _) (by omega) (by rw [feed_a]; decide)
  rw [feed_a] at H1
  dsimp only [init] at H1
  simp only [by8_2, by8_7] at H1
  have H2 := fun (w : World) (g : Nat) (hg : g = w.heap.size) (A : Option Addr) (c B : Nat) (hB : B ≤ w.heap.size) (h : Rd w B A 1 2 ([2, 7].map by8)) => Feed_any ⟨[2, 7], 0, false⟩ (by have := good_feedL init [2, 7] good_init; rwa [feed_a] at this) (by decide) A 2 c B (World.alloc w (.cells #[by8 9, by8 0] 5)) (h.kept ((Keeps.refl (fun _ => False) w).alloc _) (fun _ _ h => h)) (by simp; omega) [9, 0] (some ⟨g, 0, none⟩) 2 2 _ (Blk.rd (xs := [by8 9, by8 0]) (Blk.new_at w _ _ g hg) rfl) (Nat.le_refl _) (by omega) (by rw [feed_b]; decide)
  rw [feed_b] at H2
  dsimp only [init] at H2
  simp only [by8_9, by8_0] at H2
  have H3 := fun (w : World) (g : Nat) (hg : g = w.heap.size) => Feed_any init good_init (by decide) none 0 0 0 (World.alloc w (.cells #[by8 129, by8 32] 5)) (Rd.zero rfl) (Nat.zero_le _) [129, 32] (some ⟨g, 0, none⟩) 2 2 _ (Blk.rd (xs := [by8 129, by8 32]) (Blk.new_at w _ _ g hg) rfl) (Nat.le_refl _) (by omega) (by rw [feed_c]; decide)
  rw [feed_c] at H3
  dsimp only [init] at H3
  simp only [by8_129, by8_32] at H3
  have G1 := hide H1
  have G2 := hide H2
  have G3 := hide H3
  clear H1 H2 H3
  go_enter Try.func12, Try.ntmps12
  go_wp2_with fail
  refine (G1.out _ _ (by first | rfl | simp)).mono ?_
  rintro e w1 ⟨A1, n1, c1, C1, m1, mc1, cells1, rfl, o1, oc1, ch1, k1⟩
  dsimp only at ch1 o1
  obtain rfl : cells1 = [] := List.eq_nil_of_length_eq_zero (by simpa using ch1.len)
  obtain rfl : m1 = 0 := oc1.zero (by omega)
  obtain rfl : n1 = 2 := by simpa using o1.len.symm
  have HO1 := hide (o1.rd (by omega))
  have K1 := hide (((Keeps.refl (fun _ => False) w).alloc _).trans k1)
  clear ch1 oc1 o1 k1
  go_wp2_with fail
  refine (G2.out _ _ (by first | rfl | simp) A1 c1 w1.heap.size (by simp) (by exact HO1.out.kept ((Keeps.refl (fun _ => False) _).alloc _) (fun _ _ h => h))).mono ?_
  rintro e w2 ⟨A2, n2, c2, C2, m2, mc2, cells2, rfl, o2, oc2, ch2, k2⟩
  dsimp only at ch2 o2
  obtain rfl : m2 = 2 := by have h1 := oc2.len; have h2 := ch2.len; simp at h2; omega
  obtain ⟨g2, rfl, hg2, hg2'⟩ := oc2.some_ (by omega)
  obtain ⟨B0, p0, q0, y1, y2, y3⟩ := ch2.at_ 0 ⟨[7, 9], 0⟩ rfl
  obtain ⟨B1, p1, q1, y4, y5, y6⟩ := ch2.at_ 1 ⟨[], 0⟩ rfl
  obtain rfl : p0 = 2 := by simpa using y3.1.symm
  obtain rfl : p1 = 0 := by simpa using y6.1.symm
  have z1 := oc2.cell 0 (by omega)
  have z4 := oc2.cell 2 (by omega)
  rw [y1] at z1
  rw [y4] at z4
  have Y3 := hide y3.rd
  have K2 := hide ((K1.out.alloc _).alloc _ |>.trans k2)
  clear o2 oc2 ch2 k2 y1 y2 y3 y4 y5 y6
  go_wp2_with fail
  refine (G3.out _ _ (by first | rfl | simp)).mono ?_
  rintro e w3 ⟨A3, n3, c3, C3, m3, mc3, cells3, rfl, o3, oc3, ch3, k3⟩
  dsimp only at ch3 o3
  obtain rfl : m3 = 1 := by have h1 := oc3.len; have h2 := ch3.len; simp at h2; omega
  obtain ⟨g3, rfl, hg3, hg3'⟩ := oc3.some_ (by omega)
  obtain ⟨B2, p2, q2, x1, x2, x3⟩ := ch3.at_ 0 ⟨[], 2⟩ rfl
  have z5 := oc3.cell 1 (by omega)
  rw [x2] at z5
  have k3' := ((Keeps.refl (fun _ => False) w2).alloc (.cells #[.slice A2 n2 c2, .int .u64 0, .bool false] 28)).alloc (.cells #[by8 129, by8 32] 5) |>.trans k3
  have z1' := k3'.cell_some z1 (fun h => h)
  have z4' := k3'.cell_some z4 (fun h => h)
  have Y3' := hide (Y3.out.kept k3' (fun _ _ h => h))
  have K3 := hide (K2.out.trans k3')
  have lt2 : g2 < w3.heap.size := block_lt_of_cell z1'
  have lt3 : g3 < w3.heap.size := block_lt_of_cell z5
  clear o3 oc3 ch3 k3 x1 x2 x3 z1 z4 k3'
  go_wp2_with fail
  have HR : Hid (Rd ((w3.alloc (.cells #[.slice A3 n3 c3, .int .u64 4097, .bool false] 28)).alloc (.cells #[.int .u8 7, .int .u8 9] 5)) (w3.heap.size + 1 + 1) (some ⟨w3.heap.size + 1, 0, none⟩) 1 2 ([7, 9].map by8)) := by
    have := Blk.rd (xs := [by8 7, by8 9]) (sz := 1) (n := 2) (Blk.new_at (w3.alloc (.cells #[.slice A3 n3 c3, .int .u64 4097, .bool false] 28)) 5 #[.int .u8 7, .int .u8 9] (w3.heap.size + 1) (by simp)) rfl
    rwa [World.size_alloc, World.size_alloc] at this
  refine (same_any [7, 9] [7, 9] B0 _ 2 2 q0 2 _ _ _ (by exact Y3'.out.kept (((Keeps.refl (fun _ => False) w3).alloc _).alloc _) (fun _ _ h => h)) HR.out (by omega) (by omega)).mono ?_
  rintro e w4 ⟨rfl, nq, rfl⟩
  clear HR
  go_wp2_with fail
  go_ret
  exact ⟨rfl, ((K3.out.alloc _).alloc _).drewN _⟩
end Go.Proofs.Ytmbmlkllhcgkgaa
