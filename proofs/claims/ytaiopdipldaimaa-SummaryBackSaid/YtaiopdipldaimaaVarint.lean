/-
  The functions of package varint and the reference's (layer 2), each by its contract.
-/
import Derived.Test.YtaiopdipldaimaaMem
import Derived.Test.YtaiopdipldaimaaVp
set_option linter.unusedVariables false
set_option linter.unusedSimpArgs false
namespace Go.Proofs.Ytaiopdipldaimaa
open Go.RowKit


namespace Varint
open Vp
/-- what Read returns -/
def out (l : List UInt8) : Value := .tuple #[.int .u64 ((parse l).1 : Nat), .int .i64 ((parse l).2.1 : Nat), .int .i64 ((parse l).2.2 : Nat)]
theorem out_long {l : List UInt8} (h : scan l 10 = 10) : out l = .tuple #[.int .u64 0, .int .i64 0, .int .i64 3] := by unfold out parse; rw [if_pos h]; rfl
theorem out_short {l : List UInt8} (h1 : scan l 10 ≠ 10) (h : scan l 10 = l.length) : out l = .tuple #[.int .u64 0, .int .i64 0, .int .i64 2] := by unfold out parse; rw [if_neg h1, if_pos h]; rfl
theorem out_bad {l : List UInt8} (h1 : scan l 10 ≠ 10) (h : scan l 10 ≠ l.length) (hb : bad l (scan l 10)) : out l = .tuple #[.int .u64 0, .int .i64 0, .int .i64 3] := by unfold out parse; rw [if_neg h1, if_neg h, if_pos hb]; rfl
theorem out_ok {l : List UInt8} (h1 : scan l 10 ≠ 10) (h : scan l 10 ≠ l.length) (hb : ¬ bad l (scan l 10)) :
    out l = .tuple #[.int .u64 (val (l.take (scan l 10 + 1)) : Nat), .int .i64 (scan l 10 + 1 : Nat), .int .i64 0] := by unfold out parse; rw [if_neg h1, if_neg h, if_neg hb]; rfl
theorem val_or (l : List UInt8) (k : Nat) (hk : k < l.length) (h9 : k < 9 ∨ (k = 9 ∧ (l.getD k 0).toNat % 128 ≤ 1)) :
    bits .or .u64 (val (l.take k) : Nat) (IntKind.u64.wrap (((l.getD k 0).toNat : Int) % 128 * 2 ^ (7 * k))) = (val (l.take (k + 1)) : Nat) := by
  have e : l[k] = l.getD k 0 := by simp [List.getD, hk]
  rw [List.take_succ_eq_append_getElem hk, val_snoc, e]
  have hv := val_lt (l.take k)
  rw [List.length_take, Nat.min_eq_left (by omega)] at hv ⊢
  generalize val (l.take k) = v at *
  generalize (l.getD k 0).toNat = g at *
  have ep : (2 : Nat) ^ (7 * k) = 128 ^ k := by rw [Nat.pow_mul]
  have hb : 128 ^ k * (g % 128) < 18446744073709551616 := by
    rcases h9 with h | ⟨h, hg⟩
    · have h5 : 128 ^ k ≤ 128 ^ 8 := Nat.pow_le_pow_right (by omega) (by omega)
      have h6 : 128 ^ k * (g % 128) ≤ 128 ^ 8 * 127 := Nat.mul_le_mul h5 (by omega)
      omega
    · subst h
      have : 128 ^ 9 * (g % 128) ≤ 128 ^ 9 * 1 := Nat.mul_le_mul (Nat.le_refl _) hg
      omega
  have hb2 : 128 ^ k < 18446744073709551616 := by
    have : 128 ^ k ≤ 128 ^ 9 := Nat.pow_le_pow_right (by omega) (by omega)
    omega
  have ec : ((g : Int) % 128 * 2 ^ (7 * k)) = ((128 ^ k * (g % 128) : Nat) : Int) := by
    rw [← ep, Int.natCast_mul, Int.natCast_pow, Int.mul_comm, Int.natCast_emod]; rfl
  rw [ec, IntKind.wrap_u64, show ((128 ^ k * (g % 128) : Nat) : Int) % 18446744073709551616 = ((128 ^ k * (g % 128) : Nat) : Int) by omega,
    u64_or_nat _ _ (by omega) hb]
  congr 1
  rw [Nat.or_comm, nat_join (7 * k) _ _ (by rw [ep, Nat.mul_mod_right]) (by rw [ep]; exact hv), Nat.add_comm]
theorem u8_high (g : Nat) (h : g < 256) : bits .andNot .u8 (g : Int) 128 = (g : Int) % 128 := by
  have := u8_andNot_nat g 128 h (by omega)
  rw [show (255 - 128 : Nat) = 127 from rfl, nat_mask7] at this
  exact this.trans (by omega)

set_option maxRecDepth 100000 in
theorem read_any (l : List UInt8) (A : Option Addr) (m c B : Nat) (w : World) (hr : Rd w B A 1 m (l.map by8)) (hm : m ≤ 140737488355328) :
    Calls Try.prog 85 #[.slice A m c] w fun e w' => e = .returned (out l) ∧ w = w' := by
  have hl : l.length = m := by simpa using hr.1
  have hsl := scan_le l 10
  go_enter Try.func85, Try.ntmps85
  go_wp2
  go_loop [2, 5, 6] (fun n i _ => ∃ k : Nat, k ≤ 10 ∧ k ≤ m ∧ i = .int .i64 k ∧ n = .int .u64 (val (l.take k) : Nat) ∧ k ≤ scan l 10) (fun _ i _ => 10 - (intOf i).toNat)
  case atStart => exact ⟨0, by omega, by omega, rfl, rfl, by omega⟩
  case round =>
    obtain ⟨k, hk, hkm, rfl, rfl, hks⟩ := hrel
    have hys := fun j hj => scan_yes l 10 j hj
    by_cases hkl : k < m
    · obtain ⟨b, off, rfl, _, hcs⟩ := hr.2 (by omega)
      have hcell := hcs k (by8 (l.getD k 0)) (by simp [List.getD, show k < l.length by omega])
      have hg := (l.getD k 0).toNat_lt
      have hand := u8_high _ hg
      have HV := fun h => hide (val_or l k (by omega) h)
      have hup : 128 ≤ (l.getD k 0).toNat → k < 10 → k + 1 ≤ scan l 10 := fun h1 h2 => by
        rcases Nat.lt_or_ge (scan l 10) (k + 1) with h | h
        · have e : scan l 10 = k := by omega
          have := scan_no l 10 (by omega) (by omega)
          rw [e] at this; omega
        · exact h
      have hdn : (l.getD k 0).toNat < 128 → scan l 10 = k := fun h1 => by
        rcases Nat.lt_or_ge k (scan l 10) with h | h
        · have := hys k h; omega
        · omega
      have HB : Hid (bad l k ↔ (k = 9 ∧ 1 < (l.getD k 0).toNat) ∨ (0 < k ∧ (l.getD k 0).toNat = 0)) := Iff.rfl
      simp only [by8] at hcell
      obtain ⟨g, hgg⟩ : ∃ g, g = (l.getD k 0).toNat := ⟨_, rfl⟩
      rw [← hgg] at hcell hg hand hup hdn HV HB
      clear hgg hcs hys hr
      by_cases hk10 : k < 10
      · by_cases hb : 9 ≤ k ∧ 1 < g % 128
        · have FIN : Hid (out l = .tuple #[.int .u64 0, .int .i64 0, .int .i64 3]) := by
            rcases Nat.lt_or_ge g 128 with h | h
            · exact out_bad (by have := hdn h; omega) (by have := hdn h; omega) (by rw [hdn h, HB.out]; omega)
            · exact out_long (by have := hup h hk10; omega)
          have h9 : ((k : Int) == 9) = true := by simp; omega
          have hb2 : (1 : Int) < (g : Int) % 128 := by omega
          clear HV hup hdn hb HB
          go_wp2
          go_ret3
          exact ⟨by rw [FIN.out]; rfl, rfl⟩
        · have HVv := HV (by omega)
          have hvb := wf_u64 (wf_bits .or .u64 (val (l.take k) : Nat) (IntKind.u64.wrap ((g : Int) % 128 * 2 ^ (7 * k))))
          have h9 : (((k : Int) == 9) = true ∧ (g : Int) % 128 ≤ 1) ∨ ((k : Int) == 9) = false := by
            by_cases h : k = 9
            · exact .inl ⟨by simp; omega, by omega⟩
            · exact .inr (by simp; omega)
          have hb7 : Hid (k < 9 ∨ (9 ≤ k ∧ g % 128 ≤ 1)) := by show _ ∨ _; omega
          have hsh : 7 * k < 64 := by omega
          clear hb
          rcases Nat.lt_or_ge g 128 with hc | hc
          · have hsc := hdn hc
            by_cases hz : g = 0 ∧ 0 < k
            · have FIN : Hid (out l = .tuple #[.int .u64 0, .int .i64 0, .int .i64 3]) := out_bad (by omega) (by omega) (by rw [hsc, HB.out]; omega)
              have hz0 : ((g : Int) == 0) = true := by simp; omega
              have hk0 := hz.2
              clear HV hup hdn hsc HVv hz HB
              rcases h9 with ⟨h9, hg1⟩ | h9
              all_goals
                go_wp2
                go_ret3
                exact ⟨by rw [FIN.out]; rfl, rfl⟩
            · have FIN : Hid (out l = .tuple #[.int .u64 (val (l.take (k + 1)) : Nat), .int .i64 ((k : Int) + 1), .int .i64 0]) := by
                have h7 := hb7.out
                have := out_ok (l := l) (by omega) (by omega) (by rw [hsc, HB.out]; omega)
                rw [hsc] at this
                exact this
              have hz0 : ((g : Int) == 0) = false ∨ (((g : Int) == 0) = true ∧ decide (0 < k) = false) := by
                by_cases h : g = 0
                · exact .inr ⟨by simp; omega, by simp; omega⟩
                · exact .inl (by simp; omega)
              clear HV hup hdn hsc hz HB
              rcases hz0 with hz0 | ⟨hz0, hk0⟩
              all_goals
                rcases h9 with ⟨h9, hg1⟩ | h9
                all_goals
                  go_wp2
                  go_ret3
                  exact ⟨by rw [FIN.out, ← HVv.out]; rfl, rfl⟩
          · have hc' : (128 : Int) ≤ (g : Int) := by omega
            have hk1 := hup hc hk10
            clear HV hup hdn HB
            rcases h9 with ⟨h9, hg1⟩ | h9
            all_goals
              go_wp2
              go_round
              case rel => exact ⟨k + 1, by omega, by omega, by go_num, by rw [← HVv.out], by omega⟩
              case measure => simp [intOf]; omega
      · have hk10' : 10 ≤ k := by omega
        have FIN : Hid (out l = .tuple #[.int .u64 0, .int .i64 0, .int .i64 3]) := out_long (by omega)
        clear HV hup hdn HB hk10
        go_wp2
        go_ret3
        exact ⟨by rw [FIN.out]; rfl, rfl⟩
    · by_cases hk10 : m < 10
      · have FIN : Hid (out l = .tuple #[.int .u64 0, .int .i64 0, .int .i64 2]) := out_short (by omega) (by omega)
        clear hys hr
        go_wp2
        go_ret3
        exact ⟨by rw [FIN.out]; rfl, rfl⟩
      · have FIN : Hid (out l = .tuple #[.int .u64 0, .int .i64 0, .int .i64 3]) := out_long (by omega)
        clear hys hr
        go_wp2
        go_ret3
        exact ⟨by rw [FIN.out]; rfl, rfl⟩
end Varint
end Go.Proofs.Ytaiopdipldaimaa
