/-
  StreamLong: after a frame that is too long the next one is found; the walk. No conditions beyond those of the statement.
-/
import Derived.Test.YtmbmlkllhcgkgaaLaw06a
import Derived.Test.YtmbmlkllhcgkgaaMem3
import Derived.Test.YtmbmlkllhcgkgaaVarintW
set_option linter.unusedVariables false
set_option linter.unusedSimpArgs false
namespace Go.Proofs.Ytmbmlkllhcgkgaa
open Go.RowKit
open Vp Stp

/-- a slice of bytes as an argument: its bytes -/
theorem bytes_of {W : World} {B n : Nat} {A : Option Addr} {zs : List Int} (hr : Rd W B A 1 n (zs.map (.int .u8))) (hb : ∀ z ∈ zs, 0 ≤ z ∧ z < 256) :
    ∃ l : List UInt8, Rd W B A 1 n (l.map by8) ∧ l.length = n := by
  refine ⟨zs.map (fun z => z.toNat.toUInt8), ?_, by simpa using hr.1⟩
  have e : (zs.map (fun z => z.toNat.toUInt8)).map by8 = zs.map (.int .u8) := by
    rw [List.map_map]
    refine List.map_congr_left fun z hz => ?_
    have := hb z hz
    show Value.int .u8 ((z.toNat.toUInt8.toNat : Nat) : Int) = _
    rw [u8_toNat _ (by omega)]
    congr 1; omega
  rw [e]; exact hr

namespace streamLong
set_option maxRecDepth 100000 in
set_option maxHeartbeats 1000000 in
theorem main (w : World) (A : Option Addr) (m c : Nat) (l : List UInt8) (hr : Rd w w.heap.size A 1 m (l.map by8)) (hl : l.length = m) (hm : m * 1 ≤ 140737488351232) (hmc : m ≤ c)
    (n : Int) (n0 : 0 ≤ n) (n1 : n < 65536) :
    Calls Try.prog 7 #[.int .u16 n, .slice A m c] w fun e w' => e = .returned (.bool true) ∧ Keeps (fun _ => False) w w' := by
  obtain ⟨A1, k, hk2, hkm, hsr, _, hsl⟩ := sub_min elem8 A m c 200 hmc
  have hr1 := hsr w _ _ hr
  rw [Nat.mul_one, ← List.map_take] at hr1
  have hkl : (l.take k).length = k := by rw [List.length_take]; omega
  generalize l.take k = b at *
  have HR := hide hr1
  have HBL := hide hkl
  clear hr hsr hr1 hkl hl
  have z0 : 4097 ≤ 4097 + n % 2000 := by omega
  have z1 : 4097 + n % 2000 < 6097 := by omega
  rcases hsl with ⟨hc1, hkk, hsl⟩ | ⟨hc1, hkk, hsl⟩
  all_goals
    clear hkk
    rw [show ((200 : Nat) : Int) = 200 from rfl] at hc1
    try rw [show ((200 : Nat) : Int) = 200 from rfl] at hsl
    go_enter Try.func7, Try.ntmps7
    go_wp2_with fail
    obtain ⟨z, hz⟩ : ∃ z, z = 4097 + n % 2000 := ⟨_, rfl⟩
    rw [← hz]
    rw [← hz] at z0 z1
    clear hz
    refine (Varint.rappend_any [] none 0 0 0 _ (Rd.zero rfl) (by omega) (by omega) z (by omega) (by omega)).mono ?_
    rintro e w1 ⟨A2, n2, c2, hn2, rfl, o2, k2⟩
    rw [List.nil_append] at o2 hn2
    have hn2' : n2 ≤ 10 := by have := enc_len z.toNat; omega
    have HN2 := hide hn2
    have HO2 := hide o2
    have HK2 := hide k2
    have hw1 := k2.size
    clear o2 k2 hn2
    go_wp2_with (at_builtin; refine wpList_app_zero _ rfl _ _ rfl w.heap.size _ rfl HO2.out z rfl (by omega) (by omega) (by omega) (by omega) ?_; intro A3 c3 w3 o3 k3 hA3; have HO3 := hide o3; have HK3 := hide k3; have hw3 := k3.size; clear o3 k3 hA3)
    have hz2 : z.toNat ≤ 6097 := by omega
    have R1 := hide (HR.out.kept HK2.out (fun _ _ h => h))
    have hA2 : ∀ j, inB A2 j → w.heap.size ≤ j := fun j h => (HO2.out.inB h).1
    have R3 := hide (HR.out.kept (HK2.out.step HK3.out (fun j hj h => by have := hA2 j h; omega)) (fun _ _ h => h))
    have K3 := hide (HK2.out.step HK3.out (fun j hj h => by have := hA2 j h; omega))
    refine (Varint.rappend_any _ A3 _ c3 _ _ (HO3.out.rd (by omega)) (by omega) (by omega) (k : Int) (by omega) (by omega)).mono ?_
    rintro e w4 ⟨A4, n4, c4, hn4, rfl, o4, k4⟩
    rw [Int.toNat_natCast] at o4 hn4
    have hn4' : n4 ≤ 7000 := by
      have h1 := enc_len k
      have h2 := HN2.out
      rw [hn4]; simp; omega
    have HO4 := hide o4
    have HK4 := hide (K3.out.trans k4)
    have HN4 := hide hn4
    have R4 := hide (R3.out.kept k4 (fun _ _ h => h))
    have hw4 := k4.size
    clear o4 k4 hn4 R1 R3 K3 HK2 HK3 hA2
    go_wp2_with (at_builtin; refine wpList_app _ elem8 rfl _ _ rfl w3.heap.size _ rfl HO4.out _ (m := k) _ rfl R4.out (by8_one _) (by simp only [maxLen]; omega) (by omega) (by omega) ?_; intro A5 c5 w5 o5 k5 hA5; rw [← List.map_append] at o5; have HO5 := hide o5; have hw5 := k5.size; have HK5 := hide (HK4.out.step k5 (fun j hj h => by have := HO4.out.inB h; omega)); have R5 := hide (R4.out.kept k5 (fun j hj h => by have := HO4.out.inB h; omega)); clear o5 k5 hA5)
    have HE : Hid (enc z.toNat ++ List.replicate z.toNat 0 ++ enc k ++ b = enc z.toNat ++ List.replicate z.toNat 0 ++ frame b) := by
      show _ = _
      unfold frame
      rw [HBL.out]; simp only [List.append_assoc]
    have HF : Hid (feedL init (enc z.toNat ++ List.replicate z.toNat 0 ++ enc k ++ b) = (init, [⟨[], 2⟩, ⟨b, 0⟩])) := by
      show _ = _
      rw [HE.out]
      exact feed_after z.toNat (by omega) (by omega) _ (by simp) b (by have := HBL.out; omega)
    have hfeed := Feed_any init good_init (by decide) none 0 0 0 w5 (Rd.zero rfl) (Nat.zero_le _) _ A5 (n4 + k) c5 _ (HO5.out.rd (by omega)) (Nat.le_refl _) (by omega) (by rw [HF.out]; exact (by decide : 2 ≤ 1000000))
    rw [HF.out] at hfeed
    dsimp only [init] at hfeed
    have HFD := hide hfeed
    clear hfeed HE HF
    go_wp2_with fail
    refine HFD.out.mono ?_
    rintro e w6 ⟨A6, n6, c6, C6, m6, mc6, cells6, rfl, o6, oc6, ch6, k6⟩
    dsimp only at o6 ch6
    obtain rfl : m6 = 2 := by have h1 := oc6.len; have h2 := ch6.len; simp at h2; omega
    obtain rfl : n6 = 0 := by simpa using o6.len.symm
    obtain ⟨g6, rfl, hg6, hg6'⟩ := oc6.some_ (by omega)
    obtain ⟨B0, p0, q0, y1, y2, y3⟩ := ch6.at_ 0 ⟨[], 2⟩ rfl
    obtain ⟨B1, p1, q1, y4, y5, y6⟩ := ch6.at_ 1 ⟨b, 0⟩ rfl
    obtain rfl : p1 = k := by have := y6.1; have h2 := HBL.out; simp at this; omega
    have z1 := oc6.cell 1 (by omega)
    have z4 := oc6.cell 2 (by omega)
    have z5 := oc6.cell 3 (by omega)
    rw [y2] at z1
    rw [y4] at z4
    rw [y5] at z5
    have R6 := hide (R5.out.kept k6 (fun _ _ h => h))
    have K6 := hide (HK5.out.trans k6)
    have hs := same_any b b B1 A1 p1 p1 q1 c _ _ (w6.alloc (.cells #[.slice A6 0 c6, .int .u64 0, .bool false] 28)) (y6.rd.kept ((Keeps.refl (fun _ => False) w6).alloc _) (fun _ _ h => h)) (R6.out.kept ((Keeps.refl (fun _ => False) w6).alloc _) (fun _ _ h => h)) (by omega) (by omega)
    rw [decide_eq_true (rfl : b = b)] at hs
    have HS := hide hs
    clear o6 oc6 ch6 k6 y1 y2 y3 y4 y5 y6 hs
    go_wp2_with fail
    refine HS.out.mono ?_
    rintro e w7 ⟨rfl, nq, rfl⟩
    go_wp2_with fail
    refine (idle_any 0 false A6 0 c6 _).mono ?_
    rintro e w8 ⟨rfl, k8⟩
    rw [show idleB 0 false 0 = true from rfl]
    have K8 := hide (((K6.out.alloc _).drewN nq).trans k8)
    clear k8
    go_wp2_with fail
    refine (awake06 _).mono ?_
    rintro e w9 ⟨rfl, k9⟩
    have K9 := hide (K8.out.trans k9)
    clear k9
    go_wp2_with fail
    go_ret
    exact ⟨rfl, K9.out⟩
theorem walk (w : World) (n : Int) (n0 : 0 ≤ n) (n1 : n < 65536) (A : Option Addr) (m c : Nat) (zs : List Int) (hr0 : Rd w w.heap.size A 1 m (zs.map (.int .u8))) (hb : ∀ z ∈ zs, 0 ≤ z ∧ z < 256) (hm : m * 1 ≤ 140737488351232) (hmc : m ≤ c) :
    Calls Try.prog 7 #[.int .u16 n, .slice A m c] w fun e w' => e = .returned (.bool true) ∧ Below w.heap.size w w' := by
  obtain ⟨l, hr, hl⟩ := bytes_of hr0 hb
  exact (main w A m c l hr hl hm hmc n n0 n1).mono fun e w' ⟨he, hk⟩ => ⟨he, hk.done⟩
end streamLong
end Go.Proofs.Ytmbmlkllhcgkgaa
