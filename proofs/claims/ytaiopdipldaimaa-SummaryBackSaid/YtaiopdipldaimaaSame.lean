/-
  The reference's comparison of two lists of bytes, by its contract.
-/
import Derived.Test.YtaiopdipldaimaaMem
set_option linter.unusedVariables false
set_option linter.unusedSimpArgs false
namespace Go.Proofs.Ytaiopdipldaimaa
open Go.RowKit

theorem bytes_eq_step (l l2 : List UInt8) (k : Nat) (h : k < l.length) (h2 : k < l2.length) : l.take (k + 1) = l2.take (k + 1) ↔ l.take k = l2.take k ∧ (l.getD k 0).toNat = (l2.getD k 0).toNat := by
  rw [List.take_succ_eq_append_getElem h, List.take_succ_eq_append_getElem h2]
  have e1 : l.getD k 0 = l[k] := by simp [List.getD, h]
  have e2 : l2.getD k 0 = l2[k] := by simp [List.getD, h2]
  rw [e1, e2]
  constructor
  · intro he
    have := List.append_inj' he rfl
    exact ⟨this.1, by have h3 := this.2; injection h3 with h3; rw [h3]⟩
  · rintro ⟨he, hq⟩
    rw [he, UInt8.toNat_inj.1 hq]

theorem same_any (l l2 : List UInt8) (A A2 : Option Addr) (m m2 c c2 B B2 : Nat) (w : World) (hr : Rd w B A 1 m (l.map by8)) (hr2 : Rd w B2 A2 1 m2 (l2.map by8)) (hm : m ≤ 140737488351232) (hm2 : m2 ≤ 140737488351232) :
    Calls Try.prog 28 #[.slice A m c, .slice A2 m2 c2] w fun e w' => e = .returned (.bool (decide (l = l2))) ∧ ∃ nq, w' = w.drewN nq := by
  have hl : l.length = m := by simpa using hr.1
  have hl2 : l2.length = m2 := by simpa using hr2.1
  by_cases hne : m = m2
  · subst hne
    go_enter Try.func28, Try.ntmps28
    go_wp2_with fail
    go_loopw [5, 13] (fun _ i wr => ∃ k : Nat, k ≤ m ∧ i = .int .i64 k ∧ Hid (l.take k = l2.take k) ∧ ∃ nq, wr = w.drewN nq) (fun _ i _ => m - (intOf i).toNat)
    case atStart => exact ⟨0, by omega, rfl, by simp [Hid], 0, rfl⟩
    case round =>
      obtain ⟨k, hk, rfl, HE, nq, rfl⟩ := hrel
      by_cases hlt : k < m
      · obtain ⟨b, off, rfl, _, hc⟩ := hr.2 (by omega)
        obtain ⟨b2, off2, rfl, _, hc2⟩ := hr2.2 (by omega)
        have c1 := hc k (by8 (l.getD k 0)) (by simp [List.getD, show k < l.length by omega])
        have c2' := hc2 k (by8 (l2.getD k 0)) (by simp [List.getD, show k < l2.length by omega])
        have HS := hide (bytes_eq_step l l2 k (by omega) (by omega))
        simp only [by8] at c1 c2'
        obtain ⟨p, hp⟩ : ∃ p, p = (l.getD k 0).toNat := ⟨_, rfl⟩
        obtain ⟨q, hq⟩ : ∃ q, q = (l2.getD k 0).toNat := ⟨_, rfl⟩
        rw [← hp] at c1 HS
        rw [← hq] at c2' HS
        have HL := hide hl
        have HL2 := hide hl2
        have hltI : (k : Int) < (m : Int) := by omega
        clear hp hq hr hr2 hc hc2 hl hl2
        by_cases hpq : p = q
        · have e1 : ((p : Int) != (q : Int)) = false := by simp; omega
          have HPQ := hide hpq
          clear hpq
          go_wp2_with fail
          go_quiet (fail)
          go_wp2_with fail
          go_roundw
          case rel => exact ⟨k + 1, by omega, by go_num, HS.out.2 ⟨HE.out, HPQ.out⟩, _, rfl⟩
          case measure => simp [intOf]; omega
        · have e1 : ((p : Int) != (q : Int)) = true := by simp; omega
          have HPQ : Hid (¬ p = q) := hpq
          clear hpq
          go_wp2_with fail
          go_quiet (fail)
          go_wp2_with fail
          go_ret
          refine ⟨ret_bool ?_, _, by first | rfl | exact World.drewN_drewN ..⟩
          have : l ≠ l2 := fun he => HPQ.out (HS.out.1 (by rw [he])).2
          simp [this]
      · go_wp2_with fail
        go_ret
        refine ⟨ret_bool ?_, _, rfl⟩
        have h := HE.out
        rw [List.take_of_length_le (by omega), List.take_of_length_le (by omega)] at h
        simp [h]
  · have e1 : ((m : Int) != (m2 : Int)) = true := by simp; omega
    have HN : Hid (¬ m = m2) := hne
    have HL := hide hl
    have HL2 := hide hl2
    clear hne hl hl2
    go_enter Try.func28, Try.ntmps28
    go_wp2_with fail
    go_ret
    refine ⟨ret_bool ?_, 0, rfl⟩
    have : l ≠ l2 := fun he => HN.out (by rw [← HL.out, ← HL2.out, he])
    simp [this]
end Go.Proofs.Ytaiopdipldaimaa
