/-
  QueueNew: which queues can be made, and what a nil queue returns. No conditions beyond those of the statement.
-/
import Derived.Test.YtidobhflijdccaaQf
set_option linter.unusedVariables false
set_option linter.unusedSimpArgs false
namespace Go.Proofs.Ytidobhflijdccaa
open Go.RowKit Cfp
namespace queueNew
set_option maxRecDepth 100000 in
set_option maxHeartbeats 2000000 in
theorem main (w : World) (x : Int) (x0 : -9223372036854775808 ≤ x) (x1 : x < 9223372036854775808) :
    Calls Try.prog 13 #[.int .i64 x] w fun e w' => e = .returned (.bool true) ∧ Keeps (fun _ => False) w w' := by
  go_enter Try.func13, Try.ntmps13
  go_wp2_with fail
  trace "MEM"
  refine (memory_any w).mono ?_
  rintro e w1 ⟨a, p, g, mb, B, s, L, rfl, hp, ha, hi, hwB, hB1, k1⟩
  have K1 := hide k1
  clear hp ha hi k1
  go_upto_region 2 with fail
  go_wp2_with fail
  trace "LOOP"
  have hv := i64_and127 x
  obtain ⟨v1, hv1⟩ : ∃ v1, v1 = bits .and .i64 x 127 := ⟨_, rfl⟩
  have hvb : 0 ≤ v1 ∧ v1 < 128 := by rw [hv1, hv]; omega
  rw [← hv1]
  clear hv hv1
  have BL := hide (Blk.new w1 3 #[.int .i64 x, .int .i64 v1, .int .i64 64])
  have K2 := hide (K1.out.alloc (.cells #[.int .i64 x, .int .i64 v1, .int .i64 64] 3))
  clear K1
  generalize w1.alloc _ = w2 at *
  generalize w1.heap.size = XL at *
  go_loopw [7, 8, 9, 10, 29] (fun _ _ _ _ iv wr => ∃ i : Nat, i ≤ 3 ∧ iv = .int .i64 i ∧ Hid (Keeps (fun _ => False) w2 wr)) (fun _ _ _ _ iv _ => 3 - (intOf iv).toNat)
  case atStart => exact ⟨0, by omega, rfl, hide (Keeps.refl _ _)⟩
  case round =>
    obtain ⟨i, hi, rfl, KR⟩ := hrel
    by_cases hlt : i < 3
    · have HLT : Hid (i + 1 ≤ 3) := hlt
      obtain ⟨v, hv, hvx⟩ : ∃ v, wr.cell? ⟨XL, i, none⟩ = some (.int .i64 v) ∧ -9223372036854775808 ≤ v ∧ v < 9223372036854775808 := by
        have hb := BL.out.kept KR.out (fun h => h)
        have := hb.cell i
        rcases i with _ | _ | _ | i
        · exact ⟨_, this, x0, x1⟩
        · exact ⟨_, this, by omega, by omega⟩
        · exact ⟨_, this, by omega, by omega⟩
        · omega
      have hiI : (i : Int) < 3 := by omega
      have hi0 : (0 : Int) ≤ (i : Int) := by omega
      by_cases hin : 1 ≤ v ∧ v ≤ 64
      · obtain ⟨vn, rfl⟩ : ∃ vn : Nat, v = vn := ⟨v.toNat, by omega⟩
        have t1 : decide ((vn : Int) < 1) = false := by simp; omega
        have t2 : decide ((64 : Int) < (vn : Int)) = false := by simp; omega
        go_wp2_with fail
        trace "QNEW"
        refine (qnew_ok _ a p vn (by omega) (by omega)).mono ?_
        rintro e w6 ⟨q, G, rfl, _, k6⟩
        have K6 := hide (KR.out.trans k6)
        clear k6
        go_wp2_with fail
        go_roundw
        case rel => exact ⟨i + 1, HLT.out, by go_num, K6⟩
        case measure => have := HLT.out; simp [intOf]; omega
      · by_cases h1 : v < 1
        · have t1 : decide (v < 1) = true := by simpa using h1
          go_wp2_with fail
          trace "QNEW2"
          refine (qnew_bad _ a p v (by omega)).mono ?_
          rintro e w6 ⟨rfl, rfl⟩
          go_wp2_with fail
          go_roundw
          case rel => exact ⟨i + 1, HLT.out, by go_num, KR⟩
          case measure => have := HLT.out; simp [intOf]; omega
        · have t1 : decide (v < 1) = false := by simpa using h1
          have t2 : decide ((64 : Int) < v) = true := by simp; omega
          go_wp2_with fail
          trace "QNEW3"
          refine (qnew_bad _ a p v (by omega)).mono ?_
          rintro e w6 ⟨rfl, rfl⟩
          go_wp2_with fail
          go_roundw
          case rel => exact ⟨i + 1, HLT.out, by go_num, KR⟩
          case measure => have := HLT.out; simp [intOf]; omega
    · obtain rfl : i = 3 := by omega
      have K6 := hide (K2.out.trans KR.out)
      clear KR K2 BL
      go_wp2_with fail
      trace "NIL"
      refine (qnew_nil1 _ _ _).mono ?_
      rintro e w7 ⟨rfl, rfl⟩
      go_wp2_with fail
      refine (qnew_nil2 _ _ _).mono ?_
      rintro e w8 ⟨rfl, rfl⟩
      go_wp2_with fail
      trace "POP"
      refine (pop_nil _).mono ?_
      rintro e w9 ⟨rfl, k9⟩
      have K9 := hide ((K6.out.trans k9).alloc (.cells #[.string ⟨#[]⟩, .int .i64 0, .int .u64 0] 92))
      clear k9 K6
      go_upto_region 16 with fail
      trace "R16"
      generalize w9.alloc _ = w10 at *
      go_wp2_with fail
      refine (push_nil _ _ _ _ _).mono ?_
      rintro e w11 ⟨rfl, k11⟩
      have K11 := hide (K9.out.trans k11)
      clear k11 K9
      go_wp2_with fail
      refine (qlen_nil _).mono ?_
      rintro e w12 ⟨rfl, rfl⟩
      go_wp2_with fail
      refine (qweight_nil _ _ _).mono ?_
      rintro e w13 ⟨rfl, rfl⟩
      go_wp2_with fail
      refine (quntil_nil _ _).mono ?_
      rintro e w14 ⟨rfl, rfl⟩
      go_wp2_with fail
      trace "AWAKE"
      refine (awake27 _).mono ?_
      rintro e w15 ⟨rfl, k15⟩
      have K15 := hide (K11.out.trans k15)
      clear k15
      go_wp2_with fail
      go_ret
      exact ⟨rfl, K15.out⟩
theorem walk (w : World) (x : Int) (x0 : -9223372036854775808 ≤ x) (x1 : x < 9223372036854775808) :
    Calls Try.prog 13 #[.int .i64 x] w fun e w' => e = .returned (.bool true) ∧ Below w.heap.size w w' :=
  (main w x x0 x1).mono fun e w' ⟨he, hk⟩ => ⟨he, hk.done⟩
end queueNew
end Go.Proofs.Ytidobhflijdccaa
