/-
  countmin.Of and the reference's Estimate: the estimate by any rows, by their contracts.
-/
import Derived.Test.YtaiopdipldaimaaCmp
import Derived.Test.YtaiopdipldaimaaMem2
import Derived.Test.YtaiopdipldaimaaArgs
set_option linter.unusedVariables false
set_option linter.unusedSimpArgs false
namespace Go.Proofs.Ytaiopdipldaimaa
open Go.RowKit

namespace Cmp
def rowsL (R : RowsF) (m : Nat) : Rows := (List.range m).map fun j => (R j).2.2.2
def ofV (rows : Rows) (t : List Int) (seed : Int) (k : List UInt8) : Int := if rows.length = 0 ∨ t.length ≠ 16 then 0 else least rows t seed k rows.length
theorem rowsL_at (R : RowsF) (m j : Nat) (h : j < m) : (rowsL R m).getD j [] = (R j).2.2.2 := by simp [rowsL, List.getD, h]
theorem rowsL_len (R : RowsF) (m : Nat) : (rowsL R m).length = m := by simp [rowsL]
end Cmp

/-- what is known of row i -/
theorem row_facts {w : World} {B m : Nat} {R : RowsF} (hrr : RowsRd w B .u64 m R) (zs : List Int) (seed : Int) (k : List UInt8) (i : Nat) (hi : i < m) :
    ((R i).2.1 = 0 ∧ Cmp.val (Cmp.rowsL R m) zs seed k i = 0) ∨
    (0 < (R i).2.1 ∧ ∃ b off p x, (R i).1 = some ⟨b, off, none⟩ ∧ Cmp.pos zs seed k (R i).2.1 i = p ∧ p < (R i).2.1 ∧ w.cell? ⟨b, off + p, none⟩ = some (.int .u64 x) ∧ 0 ≤ x ∧ x < 18446744073709551616 ∧ Cmp.val (Cmp.rowsL R m) zs seed k i = x) := by
  obtain ⟨h1, h2, h3, h4⟩ := hrr i hi
  have hl : (R i).2.2.2.length = (R i).2.1 := by simpa using h1.1
  unfold Cmp.val
  rw [Cmp.rowsL_at R m i hi, hl]
  rcases Nat.eq_zero_or_pos (R i).2.1 with h0 | h0
  · exact .inl ⟨h0, by rw [if_pos h0]⟩
  · right
    obtain ⟨b, off, e, hb, hc⟩ := h1.2 h0
    have hp := Cmp.pos_lt zs seed k (R i).2.1 i h0
    refine ⟨h0, b, off, _, (R i).2.2.2.getD (Cmp.pos zs seed k (R i).2.1 i) 0, e, rfl, hp, hc _ _ ?_, ?_, ?_, ?_⟩
    · simp [List.getD, show Cmp.pos zs seed k (R i).2.1 i < (R i).2.2.2.length by omega]
    · have := wf_u64 (h2 ((R i).2.2.2.getD (Cmp.pos zs seed k (R i).2.1 i) 0) (by rw [List.getD, List.getElem?_eq_getElem (by omega)]; simp))
      exact this.1
    · have := wf_u64 (h2 ((R i).2.2.2.getD (Cmp.pos zs seed k (R i).2.1 i) 0) (by rw [List.getD, List.getElem?_eq_getElem (by omega)]; simp))
      exact this.2
    · rw [if_neg (by omega)]
      unfold Cmp.cell
      rw [Cmp.rowsL_at R m i hi]
/-- the hash of a row, and its place -/
theorem hash_facts {w : World} {B nt ct : Nat} {A : Option Addr} {zs : List Int} (ht : Rd w B A 1 nt (zs.map (.int .u64))) (hzb : ∀ z ∈ zs, 0 ≤ z ∧ z < 18446744073709551616) (seed : Int) (s0 : 0 ≤ seed) (s1 : seed < 18446744073709551616)
    (s : ByteArray) (hs : s.size ≤ 140737488351232) (i n : Nat) (hi : i ≤ 140737488351232) (hn : n ≤ 9223372036854775807) (h0 : 0 < n) :
    ∃ h : Int, 0 ≤ h ∧ h < 18446744073709551616 ∧
      (∀ q, Calls Try.prog 74 #[.slice A nt ct, .int .u64 seed, .int .i64 i, .string s] (w.drewN q) fun e w' => e = .returned (.int .u64 h) ∧ ∃ nq, w' = (w.drewN q).drewN nq) ∧
      (∀ W, Calls Try.prog 73 #[.int .u64 h, .int .i64 n] W fun e w' => e = .returned (.int .i64 (Cmp.pos zs seed s.data.toList n i)) ∧ W = w') ∧
      (∀ q, Calls Try.prog 66 #[.slice A nt ct, .int .u64 seed, .int .i64 i, .string s] (w.drewN q) fun e w' => e = .returned (.int .u64 h) ∧ ∃ nq, w' = (w.drewN q).drewN nq) ∧
      (∀ W, Calls Try.prog 65 #[.int .u64 h, .int .i64 n] W fun e w' => e = .returned (.int .i64 (Cmp.pos zs seed s.data.toList n i)) ∧ W = w') := by
  have hkb : 0 ≤ Hash.key zs (Hash.rowSeed seed i) s.data.toList ∧ Hash.key zs (Hash.rowSeed seed i) s.data.toList < 18446744073709551616 := by
    unfold Hash.key; split
    · exact Hash.fin_bd _
    · omega
  have hsl : Hash.slot (Hash.key zs (Hash.rowSeed seed i) s.data.toList) (n : Int) = (Cmp.pos zs seed s.data.toList n i : Nat) := by
    unfold Cmp.pos
    have : 0 ≤ Hash.slot (Hash.key zs (Hash.rowSeed seed i) s.data.toList) (n : Int) := by
      unfold Hash.slot; split
      · omega
      · exact Int.emod_nonneg _ (by omega)
    omega
  refine ⟨_, hkb.1, hkb.2, fun q => Hash.row_any zs hzb A nt ct B (w.drewN q) (ht.drewN q) seed s0 s1 (i : Int) (by omega) (by omega) s hs, fun W => ?_, fun q => Hash.rrow_any zs hzb A nt ct B (w.drewN q) (ht.drewN q) seed s0 s1 (i : Int) (by omega) (by omega) s hs, fun W => ?_⟩
  · have := Hash.slot_any (Hash.key zs (Hash.rowSeed seed i) s.data.toList) (n : Int) hkb.1 hkb.2 (by omega) (by omega) W
    rwa [hsl] at this
  · have := Hash.rslot_any (Hash.key zs (Hash.rowSeed seed i) s.data.toList) (n : Int) hkb.1 hkb.2 (by omega) (by omega) W
    rwa [hsl] at this

set_option maxRecDepth 100000 in
set_option maxHeartbeats 1000000 in
theorem of_any {w : World} {B m c0 nt ct : Nat} {A0 A : Option Addr} {R : RowsF} {zs : List Int} (hr : Rd w B A0 1 m ((List.range m).map fun j => .slice (R j).1 (R j).2.1 (R j).2.2.1)) (hrr : RowsRd w B .u64 m R) (hm : m ≤ 1000000)
    (ht : Rd w B A 1 nt (zs.map (.int .u64))) (hzb : ∀ z ∈ zs, 0 ≤ z ∧ z < 18446744073709551616) (seed : Int) (s0 : 0 ≤ seed) (s1 : seed < 18446744073709551616) (s : ByteArray) (hs : s.size ≤ 140737488351232) :
    Calls Try.prog 40 #[.slice A0 m c0, .slice A nt ct, .int .u64 seed, .string s] w fun e w' => e = .returned (.int .u64 (Cmp.ofV (Cmp.rowsL R m) zs seed s.data.toList)) ∧ ∃ nq, w' = w.drewN nq := by
  have hzl : zs.length = nt := by simpa using ht.1
  by_cases hm0 : m = 0
  · subst hm0
    have hE : Hid (Cmp.ofV (Cmp.rowsL R 0) zs seed s.data.toList = 0) := by show _ = _; unfold Cmp.ofV; rw [if_pos (.inl rfl)]
    rw [hE.out]
    clear hr hrr ht hzb hzl hE
    go_enter Try.func40, Try.ntmps40
    go_wp2_with fail
    go_ret
    exact ⟨rfl, 0, rfl⟩
  have e1 : ((m : Int) == 0) = false := by simp; omega
  by_cases hn : nt = 16
  · subst hn
    have hE : Hid (Cmp.ofV (Cmp.rowsL R m) zs seed s.data.toList = Cmp.least (Cmp.rowsL R m) zs seed s.data.toList m) := by
      show _ = _; unfold Cmp.ofV; rw [if_neg (by rw [Cmp.rowsL_len]; omega), Cmp.rowsL_len]
    rw [hE.out]
    have HC := hide (fun w => Hash.check_16 A ct w)
    have HR := hide hr
    have HRR := hide hrr
    have HT := hide ht
    have HZ := hide hzb
    have hm1 : 0 < m := by omega
    clear hr hrr ht hzb hzl hE hm0
    go_enter Try.func40, Try.ntmps40
    go_wp2_with fail
    refine (HC.out _).mono ?_
    rintro e w1 ⟨rfl, rfl⟩
    go_wp2_with fail
    go_loopw [9, 23] (fun x i wr => ∃ k : Nat, k ≤ m ∧ i = .int .i64 k ∧ x = .int .u64 (Cmp.least (Cmp.rowsL R m) zs seed s.data.toList k) ∧ ∃ nq, wr = w.drewN nq) (fun _ i _ => m - (intOf i).toNat)
    case atStart => exact ⟨0, by omega, rfl, rfl, 0, rfl⟩
    case round =>
      obtain ⟨k, hk, rfl, rfl, nq, rfl⟩ := hrel
      by_cases hlt : k < m
      · obtain ⟨b, off, rfl, _, hcc⟩ := HR.out.2 (by omega)
        have hx := hcc k (.slice (R k).1 (R k).2.1 (R k).2.2.1) (by simp [hlt])
        have hf := row_facts HRR.out zs seed s.data.toList k hlt
        have hLM := (HRR.out k hlt).2.2
        have hls : Cmp.least (Cmp.rowsL R m) zs seed s.data.toList (k + 1) = min (Cmp.least (Cmp.rowsL R m) zs seed s.data.toList k) (Cmp.val (Cmp.rowsL R m) zs seed s.data.toList k) := rfl
        have HLS := hide hls
        generalize Cmp.least (Cmp.rowsL R m) zs seed s.data.toList k = x at *
        generalize Cmp.val (Cmp.rowsL R m) zs seed s.data.toList k = v at *
        obtain ⟨Ak, Lk, Ck, hRk⟩ : ∃ a b c, (R k).1 = a ∧ (R k).2.1 = b ∧ (R k).2.2.1 = c := ⟨_, _, _, rfl, rfl, rfl⟩
        rw [hRk.1, hRk.2.1, hRk.2.2] at hx
        rw [hRk.1, hRk.2.1] at hf
        rw [hRk.2.1, hRk.2.2] at hLM
        clear hls hcc hRk
        unfold maxLen at hLM
        rcases hf with ⟨rfl, rfl⟩ | ⟨h0, b1, off1, p, y, rfl, hp, hpl, hc1, y0, y1, rfl⟩
        · go_wp2_with fail
          all_goals
            go_roundw
            case rel => exact ⟨k + 1, by omega, by go_num, by rw [HLS.out]; congr 1; first | omega | (split <;> omega), _, rfl⟩
            case measure => simp [intOf]; omega
        · obtain ⟨h, g0, g1, g2, g3, _, _⟩ := hash_facts (ct := ct) HT.out HZ.out seed s0 s1 s hs k Lk (by omega) (by omega) h0
          rw [hp] at g3
          have G2 := hide g2
          have G3 := hide g3
          have hpI : (p : Int) < (Lk : Int) := by omega
          clear hp g2 g3
          go_wp2_with fail
          refine (G2.out _).mono ?_
          rintro e w1 ⟨rfl, nq2, rfl⟩
          go_wp2_with fail
          refine (G3.out _).mono ?_
          rintro e w1 ⟨rfl, rfl⟩
          go_wp2_with fail
          all_goals
            go_roundw
            case rel => exact ⟨k + 1, by omega, by go_num, by rw [HLS.out]; congr 1; first | omega | (split <;> omega), _, rfl⟩
            case measure => simp [intOf]; omega
      · obtain rfl : k = m := by omega
        go_wp2_with fail
        go_ret
        exact ⟨rfl, nq, rfl⟩
  · have hE : Hid (Cmp.ofV (Cmp.rowsL R m) zs seed s.data.toList = 0) := by show _ = _; unfold Cmp.ofV; rw [if_pos (.inr (by omega))]
    rw [hE.out]
    have HC := hide (fun w => Hash.check_not A nt ct hn w)
    clear hr hrr ht hzb hzl hE hn hm0
    go_enter Try.func40, Try.ntmps40
    go_wp2_with fail
    refine (HC.out _).mono ?_
    rintro e w1 ⟨rfl, rfl⟩
    go_wp2_with fail
    go_ret
    exact ⟨rfl, 0, rfl⟩
set_option maxRecDepth 100000 in
set_option maxHeartbeats 1000000 in
theorem rof_any {w : World} {B m c0 nt ct : Nat} {A0 A : Option Addr} {R : RowsF} {zs : List Int} (hr : Rd w B A0 1 m ((List.range m).map fun j => .slice (R j).1 (R j).2.1 (R j).2.2.1)) (hrr : RowsRd w B .u64 m R) (hm : m ≤ 1000000)
    (ht : Rd w B A 1 nt (zs.map (.int .u64))) (hzb : ∀ z ∈ zs, 0 ≤ z ∧ z < 18446744073709551616) (seed : Int) (s0 : 0 ≤ seed) (s1 : seed < 18446744073709551616) (s : ByteArray) (hs : s.size ≤ 140737488351232) :
    Calls Try.prog 41 #[.slice A0 m c0, .slice A nt ct, .int .u64 seed, .string s] w fun e w' => e = .returned (.int .u64 (Cmp.ofV (Cmp.rowsL R m) zs seed s.data.toList)) ∧ ∃ nq, w' = w.drewN nq := by
  have hzl : zs.length = nt := by simpa using ht.1
  by_cases hm0 : m = 0
  · subst hm0
    have hE : Hid (Cmp.ofV (Cmp.rowsL R 0) zs seed s.data.toList = 0) := by show _ = _; unfold Cmp.ofV; rw [if_pos (.inl rfl)]
    rw [hE.out]
    clear hr hrr ht hzb hzl hE
    go_enter Try.func41, Try.ntmps41
    go_wp2_with fail
    go_ret
    exact ⟨rfl, 0, rfl⟩
  have e1 : ((m : Int) == 0) = false := by simp; omega
  by_cases hn : nt = 16
  · subst hn
    have hE : Hid (Cmp.ofV (Cmp.rowsL R m) zs seed s.data.toList = Cmp.least (Cmp.rowsL R m) zs seed s.data.toList m) := by
      show _ = _; unfold Cmp.ofV; rw [if_neg (by rw [Cmp.rowsL_len]; omega), Cmp.rowsL_len]
    rw [hE.out]
    have HC := hide (fun w => Hash.rcheck_16 A ct w)
    have HR := hide hr
    have HRR := hide hrr
    have HT := hide ht
    have HZ := hide hzb
    have hm1 : 0 < m := by omega
    clear hr hrr ht hzb hzl hE hm0
    go_enter Try.func41, Try.ntmps41
    go_wp2_with fail
    refine (HC.out _).mono ?_
    rintro e w1 ⟨rfl, rfl⟩
    go_wp2_with fail
    go_loopw [9, 22] (fun x i wr => ∃ k : Nat, k ≤ m ∧ i = .int .i64 k ∧ x = .int .u64 (Cmp.least (Cmp.rowsL R m) zs seed s.data.toList k) ∧ ∃ nq, wr = w.drewN nq) (fun _ i _ => m - (intOf i).toNat)
    case atStart => exact ⟨0, by omega, rfl, rfl, 0, rfl⟩
    case round =>
      obtain ⟨k, hk, rfl, rfl, nq, rfl⟩ := hrel
      by_cases hlt : k < m
      · obtain ⟨b, off, rfl, _, hcc⟩ := HR.out.2 (by omega)
        have hx := hcc k (.slice (R k).1 (R k).2.1 (R k).2.2.1) (by simp [hlt])
        have hf := row_facts HRR.out zs seed s.data.toList k hlt
        have hLM := (HRR.out k hlt).2.2
        have hls : Cmp.least (Cmp.rowsL R m) zs seed s.data.toList (k + 1) = min (Cmp.least (Cmp.rowsL R m) zs seed s.data.toList k) (Cmp.val (Cmp.rowsL R m) zs seed s.data.toList k) := rfl
        have HLS := hide hls
        generalize Cmp.least (Cmp.rowsL R m) zs seed s.data.toList k = x at *
        obtain ⟨v, hvv⟩ : ∃ v, Cmp.val (Cmp.rowsL R m) zs seed s.data.toList k = v := ⟨_, rfl⟩
        rw [hvv] at hf HLS
        obtain ⟨Ak, Lk, Ck, hRk⟩ : ∃ a b c, (R k).1 = a ∧ (R k).2.1 = b ∧ (R k).2.2.1 = c := ⟨_, _, _, rfl, rfl, rfl⟩
        rw [hRk.1, hRk.2.1, hRk.2.2] at hx
        rw [hRk.1, hRk.2.1] at hf
        rw [hRk.2.1, hRk.2.2] at hLM
        clear hls hcc hRk
        unfold maxLen at hLM
        rcases hf with ⟨rfl, rfl⟩ | ⟨h0, b1, off1, p, y, rfl, hp, hpl, hc1, y0, y1, rfl⟩
        · have hv0 := hvv
          have hz0 : Cmp.least (Cmp.rowsL R m) zs seed s.data.toList m = 0 := by
            have h1 := Cmp.least_le (R := Cmp.rowsL R m) (t := zs) (seed := seed) (k := s.data.toList) m k hlt
            have h2 := Cmp.least_ge (R := Cmp.rowsL R m) (t := zs) (seed := seed) (k := s.data.toList) m 0 (by unfold Cmp.big; omega) (fun i hi => by
              rcases row_facts HRR.out zs seed s.data.toList i hi with ⟨_, h⟩ | ⟨_, _, _, _, y, _, _, _, _, h3, _, h⟩ <;> omega)
            rw [hv0] at h1
            omega
          have HZ0 := hide hz0
          clear hz0 hv0 hvv
          go_wp2_with fail
          go_ret
          exact ⟨ret_int HZ0.out.symm, nq, rfl⟩
        · clear hvv
          obtain ⟨h, g0, g1, _, _, g2, g3⟩ := hash_facts (ct := ct) HT.out HZ.out seed s0 s1 s hs k Lk (by omega) (by omega) h0
          rw [hp] at g3
          have G2 := hide g2
          have G3 := hide g3
          have hpI : (p : Int) < (Lk : Int) := by omega
          clear hp g2 g3
          go_wp2_with fail
          refine (G2.out _).mono ?_
          rintro e w1 ⟨rfl, nq2, rfl⟩
          go_wp2_with fail
          refine (G3.out _).mono ?_
          rintro e w1 ⟨rfl, rfl⟩
          go_wp2_with fail
          all_goals
            go_roundw
            case rel => exact ⟨k + 1, by omega, by go_num, by rw [HLS.out]; congr 1; first | omega | (split <;> omega), _, rfl⟩
            case measure => simp [intOf]; omega
      · obtain rfl : k = m := by omega
        go_wp2_with fail
        go_ret
        exact ⟨rfl, nq, rfl⟩
  · have hE : Hid (Cmp.ofV (Cmp.rowsL R m) zs seed s.data.toList = 0) := by show _ = _; unfold Cmp.ofV; rw [if_pos (.inr (by omega))]
    rw [hE.out]
    have HC := hide (fun w => Hash.rcheck_not A nt ct hn w)
    clear hr hrr ht hzb hzl hE hn hm0
    go_enter Try.func41, Try.ntmps41
    go_wp2_with fail
    refine (HC.out _).mono ?_
    rintro e w1 ⟨rfl, rfl⟩
    go_wp2_with fail
    go_ret
    exact ⟨rfl, 0, rfl⟩
end Go.Proofs.Ytaiopdipldaimaa
