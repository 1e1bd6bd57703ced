/-
  TopRest: for every input the law returns true. No conditions beyond those of the statement.
-/
import Derived.Test.YtmbgnekilgobaaaMd
set_option linter.unusedVariables false
set_option linter.unusedSimpArgs false
namespace Go.Proofs.Ytmbgnekilgobaaa
open Go.RowKit
def ln23a : Ln := ⟨⟨#[97]⟩, 1, 4⟩
def ln23b : Ln := ⟨⟨#[98]⟩, 2, 9⟩
def ln23c : Ln := ⟨⟨#[99]⟩, 0, 9⟩
theorem awake23_srt : srtL [ln23a, ln23b, ln23c] = [ln23b, ln23c, ln23a] := by
  have h1 : lnLt ln23b ln23a = true := by simp [lnLt, ln23a, ln23b]
  have h2 : lnLt ln23c ln23b = false := by simp [lnLt, ln23b, ln23c, ByteArray.toList_eq, Op.bytesLess]
  have h3 : lnLt ln23c ln23a = true := by simp [lnLt, ln23a, ln23c]
  show Srt.srt lnLt ([ln23a, ln23b] ++ [ln23c]) = _
  rw [Srt.srt_snoc, show [ln23a, ln23b] = [ln23a] ++ [ln23b] from rfl, Srt.srt_snoc, Srt.srt_one, Srt.mrg_lt h1, Srt.mrg_nil', Srt.mrg_ge h2, Srt.mrg_lt h3, Srt.mrg_nil']
set_option maxRecDepth 100000 in
theorem awake23 (w : World) : Calls Try.prog 15 #[] w fun e w' => e = .returned (.bool true) ∧ Keeps (fun _ => False) w w' := by
  have R1 : Hid (Rd (w.alloc (.cells (lnCs [ln23a, ln23b, ln23c]).toArray 38)) (w.alloc (.cells (lnCs [ln23a, ln23b, ln23c]).toArray 38)).heap.size (some ⟨w.heap.size, 0, none⟩) 3 3 (lnCs [ln23a, ln23b, ln23c])) := hide (Blk.rd (Blk.new _ _ _) (by rw [lnCs_len]; rfl))
  go_enter Try.func15, Try.ntmps15
  go_wp2_with fail
  refine (select_any (w.alloc (.cells (lnCs [ln23a, ln23b, ln23c]).toArray 38)) _ _ _ _ [ln23a, ln23b, ln23c] 2 R1.out (by omega) (by omega) (by omega)).mono ?_
  rintro e w2 ⟨A2, c2, B2, d2, rfl, h2, g2, k2⟩
  rw [awake23_srt] at h2 g2
  rw [show selN 2 3 = 2 from rfl] at h2 g2 ⊢
  have K2 := hide (((Keeps.refl (fun _ => False) w).alloc _).trans k2)
  obtain ⟨b3, o3, rfl, hb3, p0, _, _⟩ := lnRd_at h2 (i := 0) (x := ln23b) rfl (by omega)
  obtain ⟨b4, o4, hA, _, p1, _, _⟩ := lnRd_at h2 (i := 1) (x := ln23c) rfl (by omega)
  injection hA with hA
  injection hA with hA1 hA2 _
  subst hA1 hA2
  simp only [ln23b, ln23c, Nat.zero_mul, Nat.one_mul, Nat.add_zero] at p0 p1
  have G2 := hide g2
  clear k2 g2 R1 h2
  go_wp2_with fail
  refine (rest_any 3 _ _ _ _ _ [ln23a] G2.out (by omega)).mono ?_
  rintro e w3 ⟨rfl, k3⟩
  rw [show abv [ln23a] 3 = 4 from rfl]
  have K3 := hide (K2.out.trans k3)
  clear k3 p0 p1
  go_wp2_with fail
  go_ret
  exact ⟨rfl, K3.out⟩
namespace topRest
set_option maxRecDepth 100000 in
set_option maxHeartbeats 2000000 in
theorem main (w : World) (A : Option Addr) (n c : Nat) (L : List Ln) (r : Rd w w.heap.size A 3 n (lnCs L)) (A2 : Option Addr) (n2 c2 : Nat) (z : List Int) (r2 : Rd w w.heap.size A2 1 n2 (z.map (.int .i64))) (b2 : ∀ v ∈ z, -9223372036854775808 ≤ v ∧ v < 9223372036854775808) (hn2 : n2 ≤ 35184372088832) (hn : n ≤ 140737488351232) (u : Int) :
    Calls Try.prog 4 #[.slice A n c, .slice A2 n2 c2, .int .u64 u] w fun e w' => e = .returned (.bool true) ∧ Keeps (fun _ => False) w w' := by
  by_cases h80 : 80 < n
  · have e1 : decide (80 < n) = true := by simpa using h80
    go_enter Try.func4, Try.ntmps4
    go_wp2_with fail
    refine (awake23 _).mono ?_
    rintro e w1 ⟨rfl, k1⟩
    have K1 := hide k1
    clear k1
    go_wp2_with fail
    go_ret
    exact ⟨rfl, K1.out⟩
  have e1 : decide (80 < n) = false := by simpa using h80
  have HR := hide r
  have hn80 : n ≤ 80 := by omega
  clear r h80
  go_enter Try.func4, Try.ntmps4
  go_wp2_with fail
  refine (new_deck A2 n2 c2 z w.heap.size w (Nat.le_refl _) r2 b2 hn2).mono ?_
  rintro e w1 ⟨rfl, d1, k1⟩
  have D1 := hide d1
  have K1 := hide k1
  clear d1 k1 r2 b2
  go_wp2_with fail
  refine (lines_any 30 (by omega) (by omega) w.heap.size _ w1 D1.out).mono ?_
  rintro e w2 ⟨A1, k, c1, l, rfl, hk, hS, o1, d2, k2⟩
  have K2 := hide (K1.out.step k2 (fun q hq e => by omega))
  have RL := hide (o1.rd (by omega))
  have RR := hide ((HR.out.kept K2.out (fun _ _ h => h)))
  have hk30 : k ≤ 30 := by omega
  clear o1 d2 k2 hS hk D1 K1 HR
  go_wp2_with fail
  refine (rest_any u _ _ _ _ _ L RR.out (by omega)).mono ?_
  rintro e w3 ⟨rfl, k3⟩
  have RL3 := hide (RL.out.kept k3 (fun _ _ h => h))
  have RR3 := hide (RR.out.kept k3 (fun _ _ h => h))
  have K3 := hide (K2.out.trans k3)
  clear k3
  go_wp2_with fail
  refine (above_any u _ _ _ _ _ L RR3.out (by omega)).mono ?_
  rintro e w4 ⟨rfl, k4⟩
  have RL4 := hide (RL3.out.kept k4 (fun _ _ h => h))
  have K4 := hide (K3.out.trans k4)
  clear k4
  generalize abv L u = m1 at *
  go_wp2_with fail
  refine (rest_any _ _ _ _ _ _ l RL4.out (by omega)).mono ?_
  rintro e w5 ⟨rfl, k5⟩
  have RL5 := hide (RL4.out.kept k5 (fun _ _ h => h))
  have K5 := hide (K4.out.trans k5)
  clear k5
  go_wp2_with fail
  refine (above_any _ _ _ _ _ _ l RL5.out (by omega)).mono ?_
  rintro e w6 ⟨rfl, k6⟩
  have K6 := hide (K5.out.trans k6)
  clear k6
  generalize abv l _ = m2 at *
  go_wp2_with fail
  refine (rest_any u _ 0 _ _ _ [] (Rd.zero rfl) (by omega)).mono ?_
  rintro e w7 ⟨rfl, k7⟩
  rw [show abv [] u = u from rfl]
  have K7 := hide (K6.out.trans k7)
  clear k7
  go_wp2_with fail
  refine (awake23 _).mono ?_
  rintro e w8 ⟨rfl, k8⟩
  have K8 := hide (K7.out.trans k8)
  clear k8
  go_wp2_with fail
  go_ret
  exact ⟨rfl, K8.out⟩
theorem walk (w : World) (A1 : Option Addr) (n1 c1 : Nat) (L : List Ln) (r1 : Rd w w.heap.size A1 3 n1 (lnCs L)) (b1 : ∀ x ∈ L, U x.lo ∧ U x.hi) (s1 : n1 * 32 ≤ 140737488351232) (l1 : n1 ≤ c1)
    (A2 : Option Addr) (n2 c2 : Nat) (z2 : List Int) (r2 : Rd w w.heap.size A2 1 n2 (z2.map (.int .i64))) (b2 : ∀ z ∈ z2, -9223372036854775808 ≤ z ∧ z < 9223372036854775808) (s2 : n2 * 8 ≤ 140737488351232) (l2 : n2 ≤ c2)
    (u : Int) (u0 : 0 ≤ u) (u1 : u < 18446744073709551616) :
    Calls Try.prog 4 #[.slice A1 n1 c1, .slice A2 n2 c2, .int .u64 u] w fun e w' => e = .returned (.bool true) ∧ Below w.heap.size w w' :=
  (main w A1 n1 c1 L r1 A2 n2 c2 z2 r2 b2 (by omega) (by omega) u).mono fun e w' ⟨he, hk⟩ => ⟨he, hk.done⟩
end topRest
end Go.Proofs.Ytmbgnekilgobaaa
