/-
  The reference's reading of a number (layer 2), by its contract.
-/
import Derived.Test.YtaiopdipldaimaaVarint
set_option linter.unusedVariables false
set_option linter.unusedSimpArgs false
namespace Go.Proofs.Ytaiopdipldaimaa
open Go.RowKit
namespace Varint
open Vp
theorem scan_step (l : List UInt8) (k : Nat) (hks : k ≤ scan l 10) (hk : k < 10) (h : 128 ≤ (l.getD k 0).toNat) (hl : k < l.length) : k + 1 ≤ scan l 10 := by
  rcases Nat.lt_or_ge (scan l 10) (k + 1) with h' | h'
  · have e : scan l 10 = k := by omega
    have := scan_no l 10 (by omega) (by omega)
    rw [e] at this; omega
  · exact h'
theorem scan_stop (l : List UInt8) (k : Nat) (hks : k ≤ scan l 10) (h : (l.getD k 0).toNat < 128) : scan l 10 = k := by
  rcases Nat.lt_or_ge k (scan l 10) with h' | h'
  · have := scan_yes l 10 k h'; omega
  · omega
theorem val_drop (l : List UInt8) (j : Nat) (h : j < l.length) : val (l.drop j) = val (l.drop (j + 1)) * 128 + (l.getD j 0).toNat % 128 := by
  rw [List.drop_eq_getElem_cons h, val_cons]
  simp [List.getD, h]
theorem val_drop_le (l : List UInt8) (j : Nat) : val (l.drop j) ≤ val l := by
  induction j with
  | zero => simp
  | succ j ih =>
    rcases Nat.lt_or_ge j l.length with h | h
    · have := val_drop l j h; omega
    · rw [List.drop_eq_nil_of_le (by omega)]; simp [val]

set_option maxRecDepth 100000 in
theorem rread_any (l : List UInt8) (A : Option Addr) (m c B : Nat) (w : World) (hr : Rd w B A 1 m (l.map by8)) (hm : m ≤ 140737488355328) :
    Calls Try.prog 86 #[.slice A m c] w fun e w' => e = .returned (out l) ∧ w = w' := by
  have hl : l.length = m := by simpa using hr.1
  have hsl := scan_le l 10
  go_enter Try.func86, Try.ntmps86
  go_wp2
  go_loop [5] (fun i => ∃ k : Nat, k ≤ 10 ∧ k ≤ m ∧ i = .int .i64 k ∧ k ≤ scan l 10) (fun i => 10 - (intOf i).toNat)
  case atStart => exact ⟨0, by omega, by omega, rfl, by omega⟩
  case round =>
    obtain ⟨k, hk, hkm, rfl, hks⟩ := hrel
    by_cases hkl : k < m
    · by_cases hk10 : k < 10
      · obtain ⟨b, off, rfl, _, hcs⟩ := hr.2 (by omega)
        have hcell := hcs k (by8 (l.getD k 0)) (by simp [List.getD, show k < l.length by omega])
        have hg := (l.getD k 0).toNat_lt
        simp only [by8] at hcell
        by_cases hc : 128 ≤ (l.getD k 0).toNat
        · have hst := scan_step l k hks hk10 hc (by omega)
          obtain ⟨g, hgg⟩ : ∃ g, g = (l.getD k 0).toNat := ⟨_, rfl⟩
          rw [← hgg] at hcell hg hc
          have hc' : (128 : Int) ≤ (g : Int) := by omega
          clear hgg hcs hr
          go_wp2
          go_round
          case rel => exact ⟨k + 1, by omega, by omega, by go_num, by omega⟩
          case measure => simp [intOf]; omega
        · have hsc := scan_stop l k hks (by omega)
          have hc' : ((l.getD k 0).toNat : Int) < 128 := by omega
          by_cases hb : bad l k
          · have FIN : Hid (out l = .tuple #[.int .u64 0, .int .i64 0, .int .i64 3]) := out_bad (by omega) (by omega) (by rw [hsc]; exact hb)
            unfold bad at hb
            obtain ⟨g, hgg⟩ : ∃ g, g = (l.getD k 0).toNat := ⟨_, rfl⟩
            rw [← hgg] at hcell hg hc' hb
            have hk1 : ((k : Int) == 10) = false := by simp; omega
            have hk2 : ((k : Int) == (m : Int)) = false := by simp; omega
            have hcase : (((k : Int) == 9) = true ∧ (1 : Int) < (g : Int)) ∨ (((k : Int) == 9) = true ∧ (g : Int) ≤ 1 ∧ 0 < k ∧ ((g : Int) == 0) = true) ∨ (((k : Int) == 9) = false ∧ 0 < k ∧ ((g : Int) == 0) = true) := by
              by_cases h9 : k = 9
              · by_cases h1 : 1 < g
                · exact .inl ⟨by simp; omega, by omega⟩
                · exact .inr (.inl ⟨by simp; omega, by omega, by omega, by simp; omega⟩)
              · exact .inr (.inr ⟨by simp; omega, by omega, by simp; omega⟩)
            clear hgg hcs hr hb hsc hc
            rcases hcase with ⟨h1, h2⟩ | ⟨h1, h2, h3, h4⟩ | ⟨h1, h2, h3⟩
            all_goals
              go_wp2
              go_ret3
              exact ⟨by rw [FIN.out]; rfl, rfl⟩
          · have FIN : Hid (out l = .tuple #[.int .u64 (val (l.take (k + 1)) : Nat), .int .i64 ((k : Int) + 1), .int .i64 0]) := by
              have := out_ok (l := l) (by omega) (by omega) (by rw [hsc]; exact hb)
              rw [hsc] at this
              exact this
            unfold bad at hb
            have hL : ∀ j, j < k + 1 → (l.take (k + 1)).getD j 0 = l.getD j 0 := fun j hj => by
              simp [List.getD, List.getElem?_take, hj]
            have hLl : (l.take (k + 1)).length = k + 1 := by rw [List.length_take]; omega
            have hv64 : val (l.take (k + 1)) < 18446744073709551616 := by
              have := parse_ok l (by unfold parse; rw [hsc, if_neg (by omega), if_neg (by omega), if_neg (by unfold bad; exact hb)])
              unfold parse at this
              rw [hsc, if_neg (by omega), if_neg (by omega), if_neg (by unfold bad; exact hb)] at this
              exact this.2.2.2
            obtain ⟨g, hgg⟩ : ∃ g, g = (l.getD k 0).toNat := ⟨_, rfl⟩
            rw [← hgg] at hcell hg hc' hb
            have hk1 : ((k : Int) == 10) = false := by simp; omega
            have hk2 : ((k : Int) == (m : Int)) = false := by simp; omega
            have hcase : (((k : Int) == 9) = true ∧ (g : Int) ≤ 1 ∧ 0 < k ∧ ((g : Int) == 0) = false) ∨ (((k : Int) == 9) = false ∧ 0 < k ∧ ((g : Int) == 0) = false) ∨ (((k : Int) == 9) = false ∧ decide (0 < k) = false) := by
              by_cases h9 : k = 9
              · exact .inl ⟨by simp; omega, by omega, by omega, by simp; omega⟩
              · by_cases h0 : 0 < k
                · exact .inr (.inl ⟨by simp; omega, h0, by simp; omega⟩)
                · exact .inr (.inr ⟨by simp; omega, by simp; omega⟩)
            have HL := hide hL
            have HCS := hide hcs
            have HLl := hide hLl
            have HL2 := hide hl
            have HSC := hide hsc
            have hkk : k + 1 ≤ l.length := by omega
            clear hgg hr hb hsc hc hcs hL hLl hl hsl
            rcases hcase with ⟨h1, h2, h3, h4⟩ | ⟨h1, h2, h3⟩ | ⟨h1, h2⟩
            all_goals
              go_wp2
              go_loop [2, 6] (fun n i => ∃ j : Nat, j ≤ k + 1 ∧ i = .int .i64 ((j : Int) - 1) ∧ n = .int .u64 (val ((l.take (k + 1)).drop j) : Nat)) (fun _ i => (intOf i + 1).toNat)
              case atStart => exact ⟨k + 1, by omega, by go_num, by rw [List.drop_eq_nil_of_le (by rw [HLl.out]; omega)]; rfl⟩
              case round =>
                obtain ⟨j, hj, rfl, rfl⟩ := hrel
                rcases Nat.eq_zero_or_pos j with rfl | hj0
                · rw [List.drop_zero]
                  go_wp2
                  go_ret3
                  exact ⟨by rw [FIN.out]; rfl, rfl⟩
                · obtain ⟨i, rfl⟩ : ∃ i, j = i + 1 := ⟨j - 1, by omega⟩
                  have hvd := val_drop (l.take (k + 1)) i (by rw [HLl.out]; omega)
                  have hvl := val_drop_le (l.take (k + 1)) i
                  rw [HL.out i (by omega)] at hvd
                  have hci := HCS.out i (by8 (l.getD i 0)) (by simp [List.getD, show i < l.length by omega])
                  have hcb := (l.getD i 0).toNat_lt
                  simp only [by8] at hci
                  have HVD := hide hvd
                  have hvb : val ((l.take (k + 1)).drop (i + 1)) * 128 + (l.getD i 0).toNat % 128 < 18446744073709551616 := by omega
                  generalize val ((l.take (k + 1)).drop (i + 1)) = v at *
                  generalize (l.getD i 0).toNat = q at *
                  have hve : IntKind.u64.wrap ((v : Int) * 128 + (q : Int) % 128) = ((v * 128 + q % 128 : Nat) : Int) := by rw [IntKind.wrap_u64]; omega
                  rw [show (((i + 1 : Nat) : Int) - 1) = (i : Int) from by omega]
                  clear hvd hvl hv64
                  go_wp2
                  go_round
                  case rel => exact ⟨i, by omega, by go_num, by rw [HVD.out]; go_num⟩
                  case measure => simp [intOf]
      · have FIN : Hid (out l = .tuple #[.int .u64 0, .int .i64 0, .int .i64 3]) := out_long (by omega)
        have hk1 : ((k : Int) == 10) = true := by simp; omega
        have hk2 : decide ((k : Int) < 10) = false := by simp; omega
        clear hr hk10
        go_wp2
        go_ret3
        exact ⟨by rw [FIN.out]; rfl, rfl⟩
    · obtain rfl : k = m := by omega
      by_cases hk10 : k < 10
      · have FIN : Hid (out l = .tuple #[.int .u64 0, .int .i64 0, .int .i64 2]) := out_short (by omega) (by omega)
        have hk1 : ((k : Int) == 10) = false := by simp; omega
        clear hr
        go_wp2
        go_ret3
        exact ⟨by rw [FIN.out]; rfl, rfl⟩
      · have FIN : Hid (out l = .tuple #[.int .u64 0, .int .i64 0, .int .i64 3]) := out_long (by omega)
        have hk1 : ((k : Int) == 10) = true := by simp; omega
        have hk2 : decide ((k : Int) < 10) = false := by simp; omega
        clear hr hk10
        go_wp2
        go_ret3
        exact ⟨by rw [FIN.out]; rfl, rfl⟩
end Varint
end Go.Proofs.Ytaiopdipldaimaa
