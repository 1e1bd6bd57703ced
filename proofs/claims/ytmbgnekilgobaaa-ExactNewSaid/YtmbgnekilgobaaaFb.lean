/-
  ExactNew. No conditions beyond those of the statement.
-/
import Derived.Test.YtmbgnekilgobaaaFa
set_option linter.unusedVariables false
set_option linter.unusedSimpArgs false
namespace Go.Proofs.Ytmbgnekilgobaaa
open Go.RowKit
namespace exactNew
set_option maxRecDepth 100000 in
theorem main (w : World) (n : Int) (n0 : -9223372036854775808 ≤ n) (n1 : n < 9223372036854775808) :
    Calls Try.prog 13 #[.int .i64 n] w fun e w' => e = .returned (.bool true) ∧ Keeps (fun _ => False) w w' := by
  go_enter Try.func13, Try.ntmps13
  go_upto_region 2 with fail
  generalize bits BinOp.and IntKind.i64 n 63 = z1
  have hB := Blk.new w 3 #[.int .i64 n, .int .i64 z1, .int .i64 0]
  have hC : Hid (∀ i : Nat, i < 3 → ∃ z, #[Value.int .i64 n, .int .i64 z1, .int .i64 0][i]? = some (.int .i64 z)) := hide (fun i hi => by
    rcases i with _ | _ | _ | i
    · exact ⟨n, rfl⟩
    · exact ⟨z1, rfl⟩
    · exact ⟨0, rfl⟩
    · omega)
  have hK := (Keeps.refl (fun _ => False) w).alloc (.cells #[.int .i64 n, .int .i64 z1, .int .i64 0] 3)
  generalize w.alloc _ = w1 at *
  have HB := hide hB
  have HK := hide hK
  clear hB hK
  go_loopw [21] (fun iv wr => ∃ i : Nat, i ≤ 3 ∧ iv = .int .i64 (i : Int) ∧ Hid (Keeps (fun _ => False) w1 wr)) (fun iv _ => 3 - (intOf iv).toNat)
  case atStart => exact ⟨0, by omega, rfl, hide (Keeps.refl _ _)⟩
  case round =>
    obtain ⟨i, hi, rfl, HW⟩ := hrel
    obtain ⟨wo, rfl⟩ : ∃ wo : World, wo = wr := ⟨_, rfl⟩
    by_cases hlt : i < 3
    · have e1 : decide ((i : Int) < 3) = true := by simp; omega
      have hiI : (i : Int) < 3 := by omega
      obtain ⟨z, hz⟩ := hC.out i hlt
      have hc := ((HB.out.kept HW.out (fun h => h)).cell i).trans hz
      have hl := (HB.out.kept HW.out (fun h => h)).lt
      clear hz
      by_cases hzb : 0 ≤ z ∧ z ≤ 32
      · have HZ := hide hzb
        clear hzb
        go_wp2_with fail
        refine (enew_ok z _ HZ.out.1 HZ.out.2).mono ?_
        rintro e w2 ⟨rfl, rfl⟩
        go_wp2_with fail
        refine (rsnew_ok z _ HZ.out.1 HZ.out.2).mono ?_
        rintro e w2 ⟨rfl, rfl⟩
        go_wp2_with fail
        go_roundw
        case rel => exact ⟨i + 1, by omega, by go_num, hide ((HW.out.alloc _).alloc _)⟩
        case measure => simp [intOf]; omega
      · have HZ : Hid (z < 0 ∨ 32 < z) := hide (by omega)
        clear hzb
        go_wp2_with fail
        refine (enew_bad z _ HZ.out).mono ?_
        rintro e w2 ⟨rfl, rfl⟩
        go_wp2_with fail
        refine (rsnew_bad z _ HZ.out).mono ?_
        rintro e w2 ⟨rfl, rfl⟩
        go_wp2_with fail
        go_roundw
        case rel => exact ⟨i + 1, by omega, by go_num, HW⟩
        case measure => simp [intOf]; omega
    · have e1 : decide ((i : Int) < 3) = false := by simp; omega
      go_wp2_with fail
      refine (eget_nil _ _).mono ?_
      rintro e w2 ⟨rfl, k2⟩
      have K2 := hide (HK.out.trans (HW.out.trans k2))
      clear k2
      go_wp2_with fail
      refine (etake_nil _ _).mono ?_
      rintro e w3 ⟨rfl, k3⟩
      have K3 := hide ((K2.out.alloc _).trans k3)
      clear k3
      go_wp2_with fail
      refine (eleast_nil _).mono ?_
      rintro e w4 ⟨rfl, k4⟩
      have K4 := hide ((K3.out.alloc _).trans k4)
      clear k4
      go_wp2_with fail
      refine (eput_nil ⟨⟨#[97]⟩, 0, 0⟩ _).mono ?_
      rintro e w5 ⟨rfl, k5⟩
      have K5 := hide ((K4.out.alloc _).trans k5)
      clear k5
      go_wp2_with fail
      refine (eadd_nil _ _ _).mono ?_
      rintro e w6 ⟨rfl, rfl⟩
      go_wp2_with fail
      refine (elen_nil _).mono ?_
      rintro e w6 ⟨rfl, rfl⟩
      go_wp2_with fail
      refine (eentries_nil _).mono ?_
      rintro e w6 ⟨rfl, rfl⟩
      go_wp2_with fail
      refine (awake17 _).mono ?_
      rintro e w7 ⟨rfl, k7⟩
      have K7 := hide (K5.out.trans k7)
      clear k7
      go_wp2_with fail
      go_ret
      exact ⟨rfl, K7.out⟩
theorem walk (w : World) (n : Int) (n0 : -9223372036854775808 ≤ n) (n1 : n < 9223372036854775808) : Calls Try.prog 13 #[.int .i64 n] w fun e w' => e = .returned (.bool true) ∧ Below w.heap.size w w' :=
  (main w n n0 n1).mono fun e w' ⟨he, hk⟩ => ⟨he, hk.done⟩
end exactNew
end Go.Proofs.Ytmbgnekilgobaaa
