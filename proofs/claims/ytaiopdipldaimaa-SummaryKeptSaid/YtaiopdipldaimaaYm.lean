/-
  summary.rows: the error of rows. No conditions beyond those of the statement.
-/
import Derived.Test.YtaiopdipldaimaaYk
import Derived.Test.YtaiopdipldaimaaYi
import Derived.Deep.CutBlock
set_option linter.unusedVariables false
set_option linter.unusedSimpArgs false
namespace Go.Proofs.Ytaiopdipldaimaa
open Go.RowKit Cfp
/-- the error of rows -/
def rowsE (d wd tot : Int) (R : List (List Int)) : Int :=
  if R.length = 0 then 0 else if (R.length : Int) ≠ d then 3 else if R.any (fun r => (r.length : Int) != wd) = true then 3 else if R.any (fun r => r.any (fun z => decide (tot < z))) = true then 1 else 0
theorem big1_any (z tot : Int) (q : Nat) (W : World) (hb : W.cell? ⟨q, 0, none⟩ = some (.int .u64 tot)) :
    Calls Try.prog 90 #[.int .u64 z, .pointer (some ⟨q, 0, none⟩)] W fun e w' => e = .returned (.bool (decide (tot < z))) ∧ Keeps (fun _ => False) W w' := by
  go_enter Try.func90, Try.ntmps90
  go_wp2_with fail
  go_ret
  exact ⟨rfl, Keeps.refl _ _⟩
def overAt (zs : List Int) (tot : Int) : Nat := zs.findIdx (fun z => decide (tot < z))
theorem overAt_lt {zs : List Int} {tot : Int} {i : Nat} {z : Int} (h : zs[i]? = some z) (hs : tot < z) (hb : ∀ (j : Nat) (d : Int), j < i → zs[j]? = some d → ¬ tot < d) : overAt zs tot = i := by
  obtain ⟨hi, he⟩ := List.getElem?_eq_some_iff.1 h
  unfold overAt
  rw [List.findIdx_eq hi]
  refine ⟨by rw [he]; simpa using hs, fun j hj => ?_⟩
  have := hb j _ hj (List.getElem?_eq_getElem (by omega))
  simpa using this
theorem overAt_no {zs : List Int} {tot : Int} (hb : ∀ (j : Nat) (d : Int), zs[j]? = some d → ¬ tot < d) : overAt zs tot = zs.length := by
  unfold overAt
  rw [List.findIdx_eq_length]
  intro c hc
  obtain ⟨j, hj, he⟩ := List.getElem_of_mem hc
  have := hb j c (by rw [List.getElem?_eq_getElem hj, he])
  simpa using this
theorem overAt_any (zs : List Int) (tot : Int) : decide (overAt zs tot < zs.length) = zs.any (fun z => decide (tot < z)) := by
  rw [Bool.eq_iff_iff]
  simp only [decide_eq_true_eq]
  unfold overAt
  rw [List.findIdx_lt_length, List.any_eq_true]
set_option maxRecDepth 100000 in
theorem idxU_any (B : Nat) (A : Option Addr) (zs : List Int) (n cap : Nat) (tot : Int) (q : Nat) (w : World) (hr : Rd w B A 1 n (zs.map (.int .u64))) (hb : w.cell? ⟨q, 0, none⟩ = some (.int .u64 tot)) (hn : n ≤ maxLen) :
    Calls Try.prog 97 #[.slice A n cap, .func (.func 90) #[] #[.pointer (some ⟨q, 0, none⟩)]] w fun e w' => e = .returned (.int .i64 (idxV (overAt zs tot) n)) ∧ Keeps (fun _ => False) w w' := by
  have hnm : (n : Int) ≤ 9223372036854775807 := by simp only [maxLen] at hn; omega
  have HO := hide hr
  have HB := hide hb
  have HL := hide (show zs.length = n by simpa using hr.1)
  obtain ⟨rv, hrv⟩ : ∃ rv, rv = idxV (overAt zs tot) n := ⟨_, rfl⟩
  rw [← hrv]
  have HRV := hide hrv
  clear hr hb hrv
  go_enter Try.func97, Try.ntmps97
  go_wp2_with fail
  go_loopw [5, 8] (fun _ iv wr => ∃ i : Nat, i ≤ n ∧ iv = .int .i64 i ∧ Hid (∀ (j : Nat) (d : Int), j < i → zs[j]? = some d → ¬ tot < d) ∧ Hid (Keeps (fun _ => False) w wr)) (fun _ iv _ => n - (intOf iv).toNat)
  case atStart => exact ⟨0, by omega, rfl, hide (fun j d h => by omega), hide (Keeps.refl _ _)⟩
  case round =>
    obtain ⟨i, hi, rfl, HJ, KR⟩ := hrel
    by_cases hlt : i < n
    · have HLT : Hid (i + 1 ≤ n) := hlt
      have hil : i < zs.length := by rw [HL.out]; exact hlt
      obtain ⟨x, hx⟩ : ∃ x, zs[i]? = some x := ⟨zs[i]'hil, by simp⟩
      obtain ⟨b, off, rfl, hbB, hc⟩ := (HO.out.kept KR.out (fun _ _ h => h)).2 (by omega)
      have c0 := hc i (.int .u64 x) (by simp [hx])
      have hiI : (i : Int) < (n : Int) := by omega
      have hi0 : (0 : Int) ≤ (i : Int) := by omega
      have HX := hide hx
      have HW := hide (big1_any x tot q wr (KR.out.cell_some HB.out (fun h => h)))
      clear hil hx hc
      by_cases hs : tot < x
      · have e1 : decide (tot < x) = true := by simpa using hs
        rw [e1] at HW
        have HV : Hid (rv = i) := by
          show rv = i
          rw [HRV.out, overAt_lt HX.out hs HJ.out, idxV_lt hlt]
        clear hs e1
        go_wp2_with fail
        refine HW.out.mono ?_
        rintro e w2 ⟨rfl, k2⟩
        have K2 := hide (KR.out.trans k2)
        clear k2
        go_wp2_with fail
        go_ret
        exact ⟨ret_int HV.out.symm, K2.out⟩
      · have e1 : decide (tot < x) = false := by simpa using hs
        rw [e1] at HW
        have HS := hide hs
        clear hs e1
        go_wp2_with fail
        refine HW.out.mono ?_
        rintro e w2 ⟨rfl, k2⟩
        have K2 := hide (KR.out.trans k2)
        clear k2
        go_wp2_with fail
        go_roundw
        case rel =>
          refine ⟨i + 1, HLT.out, by go_num, hide (fun j d hj hd => ?_), K2⟩
          rcases Nat.lt_or_ge j i with h | h
          · have := HJ.out j d h hd; omega
          · obtain rfl : j = i := by omega
            rw [HX.out] at hd; injection hd with hd; subst hd; have := HS.out; omega
        case measure => have := HLT.out; simp [intOf]; omega
    · obtain rfl : i = n := by omega
      have HV : Hid (rv = -1) := by
        show rv = -1
        rw [HRV.out, overAt_no (fun j d hd => HJ.out j d (by rw [← HL.out]; exact (List.getElem?_eq_some_iff.1 hd).1) hd), HL.out, idxV_no]
      go_wp2_with fail
      go_ret
      exact ⟨ret_int HV.out.symm, KR.out⟩
theorem contU_any (B : Nat) (A : Option Addr) (zs : List Int) (n cap : Nat) (tot : Int) (q : Nat) (w : World) (hr : Rd w B A 1 n (zs.map (.int .u64))) (hb : w.cell? ⟨q, 0, none⟩ = some (.int .u64 tot)) (hn : n ≤ maxLen) :
    Calls Try.prog 89 #[.slice A n cap, .func (.func 90) #[] #[.pointer (some ⟨q, 0, none⟩)]] w fun e w' => e = .returned (.bool (zs.any (fun z => decide (tot < z)))) ∧ Keeps (fun _ => False) w w' := by
  have HL : zs.length = n := by simpa using hr.1
  have HV : Hid (decide ((0 : Int) ≤ idxV (overAt zs tot) n) = zs.any (fun z => decide (tot < z))) := hide (by
    rw [← overAt_any, HL]
    unfold idxV
    by_cases h : overAt zs tot < n
    · rw [if_pos h]; simp [h]
    · rw [if_neg h]; simp [h])
  have HI := hide (idxU_any B A zs n cap tot q w hr hb hn)
  obtain ⟨bv, hbv⟩ : ∃ bv, bv = zs.any (fun z => decide (tot < z)) := ⟨_, rfl⟩
  rw [← hbv] at HV ⊢
  generalize idxV (overAt zs tot) n = iv at HI HV
  clear hr hb hbv
  go_enter Try.func89, Try.ntmps89
  go_wp2_with fail
  refine HI.out.mono ?_
  rintro e w2 ⟨rfl, k2⟩
  have K2 := hide k2
  clear k2
  go_wp2_with fail
  go_ret
  exact ⟨ret_bool HV.out, K2.out⟩
end Go.Proofs.Ytaiopdipldaimaa
