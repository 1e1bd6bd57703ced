/-
  The reference's body and frame of few short events.
-/
import Derived.Test.YtmbmlkllhcgkgaaEv4
set_option linter.unusedVariables false
set_option linter.unusedSimpArgs false
namespace Go.Proofs.Ytmbmlkllhcgkgaa
open Go.RowKit
open Vp

set_option maxRecDepth 100000 in
set_option maxHeartbeats 1000000 in
theorem rbody_any (C : Option Addr) (m mc base : Nat) (cells : List Value) (w : World) (hr : Rd w w.heap.size C 3 m cells) (hev : EvCells w base m cells) (m0 : 1 ≤ m) (m1 : m ≤ 3) :
    Calls Try.prog 25 #[.slice C m mc] w (SomeBytes 1810 w) := by
  have HR := hide hr
  have HE := hide hev
  have e0 : ((m : Int) == 0) = false := by simp; omega
  clear hr hev
  go_enter Try.func25, Try.ntmps25
  go_wp2_with fail
  refine (Varint.rappend_any [] none 0 0 0 _ (Rd.zero rfl) (by omega) (by omega) (m : Int) (by omega) (by omega)).mono ?_
  rintro e w1 ⟨A1, n1, c1, hn1, rfl, o1, k1⟩
  rw [List.nil_append] at o1 hn1
  have hb1 : n1 ≤ 10 := by have := enc_len (m : Int).toNat; omega
  have O1 := hide o1
  have K1 := hide k1
  generalize enc (m : Int).toNat = l1 at *
  clear o1 k1 hn1
  go_wp2_with fail
  go_loopw [4, 23] (fun bv iv wr => ∃ (j : Nat) (A : Option Addr) (k c : Nat) (l : List UInt8), j ≤ m ∧ iv = .int .i64 j ∧ bv = .slice A k c ∧ k ≤ 10 + 600 * j ∧ Own wr w.heap.size 5 1 A k c (l.map by8) ∧ Keeps (fun _ => False) w wr) (fun _ iv _ => m - (intOf iv).toNat)
  case atStart => exact ⟨0, A1, n1, c1, _, by omega, rfl, rfl, by omega, O1.out, K1.out⟩
  case round =>
    obtain ⟨j, A4, k4, c4, l4, hj, rfl, rfl, hk4, o4, kp⟩ := hrel
    have O4 := hide o4
    have KP := hide kp
    have hs := kp.size
    clear O1 K1 o4 kp
    by_cases hlt : j < m
    · obtain ⟨A, n, c, xs, tm, wt, g1, g2, g3, hn, ho, ht, t0, t1, y0, y1⟩ := HE.out.2 j hlt
      obtain ⟨b, off, rfl, hbB, hcell⟩ := (HR.out.kept KP.out (fun _ _ h => h)).2 (by omega)
      have f1 := hcell _ _ g1
      have f2 := hcell _ _ g2
      have f3 := hcell _ _ g3
      rw [← Nat.add_assoc] at f2 f3
      have hltI : (j : Int) < (m : Int) := by omega
      have RT := hide ((ho.rd (by omega)).kept KP.out (fun _ _ h => h))
      have HT := hide ht
      have kA := (Keeps.refl (fun _ => False) wr).alloc (.cells #[.slice A n c, .int .i64 tm, .int .u64 wt] 62)
      have RT5 := hide (RT.out.kept kA (fun _ _ h => h))
      have O5 := hide (O4.out.kept kA (fun _ _ h => h))
      have KP5 := hide (KP.out.trans kA)
      have hs5 := KP5.out.size
      clear hcell g1 g2 g3 ho ht kA O4 KP RT
      go_wp2_with fail
      refine (revent_any A n c _ xs tm wt _ RT5.out (by omega) HT.out hn t0 t1 y0 y1).mono ?_
      rintro e w6 ⟨A6, n6, c6, l6, rfl, hn6, o6, k6⟩
      have O6 := hide (o6.rd (by omega))
      have OB := hide (O5.out.kept k6 (fun _ _ h => h))
      have K6 := hide (KP5.out.trans k6)
      have hs6 := K6.out.size
      clear o6 k6 O5 KP5 RT5
      go_wp2_with (at_builtin; refine wpList_app _ elem8 rfl (.tmp 35) (.tmp 36) rfl w.heap.size _ rfl OB.out _ (m := n6) _ rfl O6.out (by8_one _) (by simp only [maxLen]; omega) (by omega) (by omega) ?_; intro A7 c7 w7 o7 k7 hA7; rw [← List.map_append] at o7; have O7 := hide o7; have K7 := hide (K6.out.step k7 (fun b hb h => by have := OB.out.inB h; omega)); clear o7 k7 hA7)
      go_roundw
      case rel => exact ⟨j + 1, _, _, _, _, by omega, by go_num, rfl, by omega, O7.out, K7.out⟩
      case measure => simp [intOf]; omega
    · go_wp2_with fail
      go_ret2
      exact ⟨A4, k4, c4, l4, rfl, by omega, O4.out, KP.out⟩

set_option maxRecDepth 100000 in
theorem rframe_any (C : Option Addr) (m mc base : Nat) (cells : List Value) (w : World) (hr : Rd w w.heap.size C 3 m cells) (hev : EvCells w base m cells) (m0 : 1 ≤ m) (m1 : m ≤ 3) :
    Calls Try.prog 20 #[.slice C m mc] w (SomeBytes 1820 w) := by
  go_enter Try.func20, Try.ntmps20
  go_wp2_with fail
  refine (rbody_any C m mc base cells _ hr hev m0 m1).mono ?_
  rintro e w1 ⟨A1, n1, c1, l1, rfl, hn1, o1, k1⟩
  have O1 := hide (o1.rd (by omega))
  have K1 := hide k1
  clear o1 k1 hr hev
  go_wp2_with fail
  refine (Varint.rappend_any [] none 0 0 0 _ (Rd.zero rfl) (by omega) (by omega) (n1 : Int) (by omega) (by omega)).mono ?_
  rintro e w2 ⟨A2, n2, c2, hn2, rfl, o2, k2⟩
  rw [List.nil_append] at o2 hn2
  have hb2 : n2 ≤ 10 := by have := enc_len (n1 : Int).toNat; omega
  have O2 := hide (o2.base_le K1.out.size)
  have R2 := hide (O1.out.kept k2 (fun _ _ h => h))
  have K2 := hide (K1.out.trans k2)
  have hs2 := K2.out.size
  clear o2 k2 hn2 O1 K1
  go_wp2_with (at_builtin; refine wpList_app _ elem8 rfl (.tmp 17) (.tmp 18) rfl w.heap.size _ rfl O2.out _ (m := n1) _ rfl R2.out (by8_one _) (by simp only [maxLen]; omega) (by omega) (by omega) ?_; intro A7 c7 w7 o7 k7 hA7; rw [← List.map_append] at o7; have O7 := hide o7; have K7 := hide (K2.out.step k7 (fun b hb h => by have := O2.out.inB h; omega)); clear o7 k7 hA7)
  go_ret2
  exact ⟨A7, _, c7, _, rfl, by omega, O7.out, K7.out⟩
end Go.Proofs.Ytmbmlkllhcgkgaa
