/-
  StreamBound: the buffer is short, and a broken stream stays broken; the walk. No conditions beyond those of the statement.
-/
import Derived.Test.YtmbmlkllhcgkgaaLaw06b
import Derived.Test.YtmbmlkllhcgkgaaEv6
import Derived.Test.YtmbmlkllhcgkgaaSt2
import Derived.Deep.CutRange
set_option linter.unusedVariables false
set_option linter.unusedSimpArgs false
namespace Go.Proofs.Ytmbmlkllhcgkgaa
open Go.RowKit
open Vp Stp

namespace streamBound
set_option maxRecDepth 100000 in
set_option maxHeartbeats 4000000 in
theorem main (w : World) (A1 : Option Addr) (n1 c1 : Nat) (zs : List Int) (hd : Rd w w.heap.size A1 1 n1 (zs.map (.int .i64))) (hz : ∀ z ∈ zs, -9223372036854775808 ≤ z ∧ z < 9223372036854775808) (hn1 : n1 ≤ 17592186043904)
    (A : Option Addr) (m c : Nat) (l : List UInt8) (hr : Rd w w.heap.size A 1 m (l.map by8)) (hl : l.length = m) (hm : m ≤ 140737488351232) (hmc : m ≤ c) :
    Calls Try.prog 4 #[.slice A1 n1 c1, .slice A m c] w fun e w' => e = .returned (.bool true) ∧ Keeps (fun _ => False) w w' := by
  obtain ⟨A2, k, hk2, hkm, _, _, hsr, _, hmin, hsl⟩ := sub_min_k elem8 A m c 300 hmc
  have hr1 := hsr w _ _ hr
  rw [Nat.mul_one, ← List.map_take] at hr1
  have hkl : (l.take k).length = k := by rw [List.length_take]; omega
  have HL := hide hl
  have HW := hide hr
  have hbr := fun w' (hr' : Rd w' w'.heap.size A 1 m (l.map by8)) => Feed_any ⟨[], 0, true⟩ ⟨by decide, by decide, fun h => by simp at h⟩ (by decide) none 0 0 0 w' (Rd.zero rfl) (Nat.zero_le _) l A m c w'.heap.size hr' (Nat.le_refl _) hm (by rw [broken_feedL]; decide)
  rw [broken_feedL] at hbr
  dsimp only at hbr
  have HBR := hide hbr
  generalize l.take k = b at *
  have HR := hide hr1
  have HBL := hide hkl
  have HB := hide (fun w' (hd' : Rd w' w'.heap.size A1 1 n1 (zs.map (.int .i64))) => bytes_any A1 n1 c1 zs w' hd' hz (by omega))
  have HD := hide hd
  clear hr hsr hr1 hkl hl hd hz hbr
  rw [show ((300 : Nat) : Int) = 300 from rfl] at hmin
  have hb0 : (0 : Int) ≤ (m : Int) := by omega
  have hb1 : (m : Int) ≤ (c : Int) := by omega
  have hb2 : (0 : Int) ≤ (k : Int) := by omega
  go_enter Try.func4, Try.ntmps4
  go_wp2_with fail
  go_cut [5, 6] from 5 to 21 (fun s5 s6 wx => ∃ (G : Nat) (A : Option Addr) (n c : Nat) (sk : Int) (br : Bool), s5 = .pointer (some ⟨G, 0, none⟩) ∧ Blk wx G 28 #[.slice A n c, .int .u64 sk, .bool br] ∧ n ≤ 4098 ∧ Keeps (fun _ => False) w wx)
  case first =>
    go_region_held3 (fun _ => True) (exact trivial) (first
      | (go_at_call 8; refine (HB.out _ (by first | exact HD.out.drew | exact (HD.out.kept (((Keeps.refl (fun _ => False) w).alloc (.cells #[.slice none 0 0, .int .u64 0, .bool false] 28)).drew) (fun _ _ h => h)).more (Keeps.size (((Keeps.refl (fun _ => False) w).alloc (.cells #[.slice none 0 0, .int .u64 0, .bool false] 28)).drew)))).mono ?_; rintro e w2 ⟨A3, n3, c3, l3, rfl, hn3, o3, k3⟩; (first | (have b3 := hide ((Blk.new w 28 #[.slice none 0 0, .int .u64 0, .bool false]).drew.kept k3 (fun h => h)); have K3 := hide ((((Keeps.refl (fun _ => False) w).alloc (.cells #[.slice none 0 0, .int .u64 0, .bool false] 28)).drew).trans k3)) | (have K3 := hide (((Keeps.refl (fun _ => False) w).drew).trans k3))); have O3 := hide (o3.base_le (b := w.heap.size) (by simp)); have R3 := hide (HR.out.kept K3.out (fun _ _ h => h)); have hs3 := Keeps.size K3.out; clear o3 k3)
      | ((refine step_app _ elem8 (by rfl) (.tmp 12) (.tmp 17) (by rfl) w.heap.size _ (by rfl) (by first | exact O3.out | exact Own.kept O3.out ((Keeps.refl (fun _ => False) _).alloc (.cells #[.slice none 0 0, .int .u64 0, .bool false] 28)) (fun _ _ h => h)) _ (m := k) _ (by rfl) (by first | exact R3.out | exact Rd.kept R3.out ((Keeps.refl (fun _ => False) _).alloc (.cells #[.slice none 0 0, .int .u64 0, .bool false] 28)) (fun _ _ h => h)) (by8_one _) (by simp only [maxLen]; omega) (by omega) (by first | exact hs3 | (simp; omega)) ?_); intro A5 c5 w5 o5 k5 hA5; rw [← List.map_append] at o5; have O5 := hide o5; (first | (have K5 := hide (K3.out.step k5 (fun b hb h => by have := O3.out.inB h; omega)); (first | (have b5 := hide (b3.out.kept k5 (fun h => (O3.out.ne_blk b3.out (by decide) h) rfl))) | skip)) | (have K5 := hide ((K3.out.alloc (.cells #[.slice none 0 0, .int .u64 0, .bool false] 28)).step k5 (fun b hb h => by have := O3.out.inB h; omega)); have b5 := hide ((Blk.new w2 28 #[.slice none 0 0, .int .u64 0, .bool false]).kept k5 (fun h => by have := O3.out.inB h; omega)))); have hs5 := Keeps.size K5.out; have hfeed := fun w' (kw : Keeps (fun _ => False) w5 w') => Feed_any init good_init (by decide) none 0 0 0 w' (Rd.zero rfl) (Nat.zero_le _) _ A5 (n3 + k) c5 _ ((O5.out.kept kw (fun _ _ h => h)).rd (by omega)) (Nat.le_refl _) (by omega) (Nat.le_trans (feedL_chunks _ _) (by have := O5.out.len; simp only [List.length_map] at this; omega)); dsimp only [init] at hfeed; have HF := hide hfeed; clear o5 k5 hA5 hfeed)
      | (go_at_call 9; (first | ((with_reducible refine (HF.out _ (Keeps.refl _ _)).mono ?_); rintro e w6 ⟨A6, n6, c6, C6, m6, mc6, cells6, rfl, o6, oc6, ch6, k6⟩; have K6 := hide (K5.out.trans k6); (first | (have b6 := b5.out.kept k6 (fun h => h); obtain ⟨⟨_, _, _⟩, ⟨_, _, _⟩, _⟩ := b6.three; have b6 := hide b6) | skip)) | (refine (HF.out _ ((Keeps.refl _ _).alloc (.cells #[.slice none 0 0, .int .u64 0, .bool false] 28))).mono ?_; rintro e w6 ⟨A6, n6, c6, C6, m6, mc6, cells6, rfl, o6, oc6, ch6, k6⟩; have K6 := hide ((K5.out.alloc (.cells #[.slice none 0 0, .int .u64 0, .bool false] 28)).trans k6); have b6 := (Blk.new w5 28 #[.slice none 0 0, .int .u64 0, .bool false]).kept k6 (fun h => h); obtain ⟨⟨_, _, _⟩, ⟨_, _, _⟩, _⟩ := b6.three; have b6 := hide b6)); have hn6 := o6.len; simp only [List.length_map] at hn6; have hbf := buf_feedL init (l3 ++ b) good_init emp_init; have HN6 : Hid (n6 ≤ 4098) := (show n6 ≤ 4098 by simp only [init] at hbf; omega); clear o6 oc6 ch6 k6 hn6 hbf))
    all_goals
      trace "WAY"
      go_wp2_with fail
      go_meet
      first
        | exact ⟨_, A6, n6, c6, _, _, rfl, Blk.new _ _ _, HN6.out, K6.out.alloc _⟩
        | exact ⟨_, A6, n6, c6, _, _, rfl, ((b6.out.set 0 _).set 1 _).set 2 _, HN6.out, ((K6.out.setCell (.inr (by dsimp only; omega)) _).setCell (.inr (by dsimp only; omega)) _).setCell (.inr (by dsimp only; omega)) _⟩
  case rest =>
  obtain ⟨G, A6, n6, c6, sk, br, rfl, b6, hn6, k6⟩ := hcut
  obtain ⟨⟨c10, c11, c12⟩, ⟨f10, f11, f12⟩, hGl⟩ := b6.three
  have B6 := hide b6
  have K6 := hide k6
  have RW := hide ((HW.out.kept k6 (fun _ _ h => h)).more k6.size)
  have hn6' : (n6 : Int) ≤ 4098 := by omega
  clear b6 k6 HB HD HR HBL HW hsl
  go_wp2_with fail
  refine (HBR.out _ RW.out).mono ?_
  rintro e w7 ⟨A7, n7, c7, C7, m7, mc7, cells7, rfl, o7, oc7, ch7, k7⟩
  obtain rfl : n7 = 0 := by simpa using o7.len.symm
  obtain rfl : m7 = 0 := by have h1 := oc7.len; have h2 := ch7.len; simp at h2; subst h2; simp at h1; omega
  have B7 := B6.out.kept k7 (fun h => h)
  obtain ⟨⟨g10, g11, g12⟩, _, hGl7⟩ := B7.three
  have K7 := hide (K6.out.trans k7)
  clear o7 oc7 ch7 k7 c10 c11 c12 f10 f11 f12 B6 K6 B7
  go_wp2_with fail
  refine (awake06 _).mono ?_
  rintro e w8 ⟨rfl, k8⟩
  go_wp2_with fail
  go_ret
  exact ⟨rfl, (K7.out.alloc _).trans k8⟩
theorem walk (w : World) (A1 : Option Addr) (n1 c1 : Nat) (z1 : List Int) (r1 : Rd w w.heap.size A1 1 n1 (z1.map (.int .i64))) (b1 : ∀ z ∈ z1, -9223372036854775808 ≤ z ∧ z < 9223372036854775808) (s1 : n1 * 8 ≤ 140737488351232) (l1 : n1 ≤ c1)
    (A : Option Addr) (m c : Nat) (zs : List Int) (hr0 : Rd w w.heap.size A 1 m (zs.map (.int .u8))) (hb : ∀ z ∈ zs, 0 ≤ z ∧ z < 256) (hm : m * 1 ≤ 140737488351232) (hmc : m ≤ c) :
    Calls Try.prog 4 #[.slice A1 n1 c1, .slice A m c] w fun e w' => e = .returned (.bool true) ∧ Below w.heap.size w w' := by
  obtain ⟨l, hr, hl⟩ := bytes_of hr0 hb
  exact (main w A1 n1 c1 z1 r1 b1 (by omega) A m c l hr hl (by omega) hmc).mono fun e w' ⟨he, hk⟩ => ⟨he, hk.done⟩
end streamBound
end Go.Proofs.Ytmbmlkllhcgkgaa
