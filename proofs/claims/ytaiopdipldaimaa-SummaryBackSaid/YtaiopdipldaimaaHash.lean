/-
  The functions of package hash and the reference's (layer 7), each by its contract.
-/
import Derived.Test.YtaiopdipldaimaaBase
set_option linter.unusedVariables false
set_option linter.unusedSimpArgs false
namespace Go.Proofs.Ytaiopdipldaimaa
open Go.RowKit

namespace Hash
def rot (h k : Int) : Int := bits .or .u64 (IntKind.u64.wrap (h * 2 ^ k.toNat)) (h / 2 ^ (64 - k).toNat)
def step (t : List Int) (h b : Int) : Int :=
  IntKind.u64.wrap (IntKind.u64.wrap (rot (bits .xor .u64 (rot h 5) (t.getD (b / 16).toNat 0)) 7 + t.getD (b % 16).toNat 0) * 11400714819323198485)
def fold (t : List Int) (h : Int) (l : List UInt8) : Int := l.foldl (fun h c => step t h (c.toNat : Int)) h
def fin (h : Int) : Int := bits .xor .u64 h (h / 4294967296)
def key (t : List Int) (seed : Int) (l : List UInt8) : Int := if t.length = 16 then fin (fold t seed l) else 0

theorem wrap_bd (x : Int) : 0 ≤ IntKind.u64.wrap x ∧ IntKind.u64.wrap x < 18446744073709551616 := by rw [IntKind.wrap_u64]; omega
theorem bits_bd (o : BinOp) (x y : Int) (h : (Lit.int .u64 (bits o .u64 x y)).wf = true) : 0 ≤ bits o .u64 x y ∧ bits o .u64 x y < 18446744073709551616 := wf_u64 h
theorem rot_bd (h k : Int) : 0 ≤ rot h k ∧ rot h k < 18446744073709551616 := wf_u64 (wf_bits _ _ _ _)
theorem step_bd (t : List Int) (h b : Int) : 0 ≤ step t h b ∧ step t h b < 18446744073709551616 := wrap_bd _
theorem fin_bd (h : Int) : 0 ≤ fin h ∧ fin h < 18446744073709551616 := wf_u64 (wf_bits _ _ _ _)

theorem rot_any (h k : Int) (h0 : 0 ≤ h) (h1 : h < 18446744073709551616) (k0 : 0 ≤ k) (k1 : k < 64) (w : World) :
    Calls Try.prog 98 #[.int .u64 h, .int .u64 k] w fun e w' => e = .returned (.int .u64 (rot h k)) ∧ w = w' := by
  go_enter Try.func98, Try.ntmps98
  go_wp2
  go_ret
  exact ⟨rfl, rfl⟩

theorem fold_bd (zs : List Int) (h : Int) (h0 : 0 ≤ h) (h1 : h < 18446744073709551616) (l : List UInt8) : 0 ≤ fold zs h l ∧ fold zs h l < 18446744073709551616 := by
  induction l generalizing h with
  | nil => exact ⟨h0, h1⟩
  | cons c l ih => exact ih _ (step_bd _ _ _).1 (step_bd _ _ _).2
theorem take_snoc (s : ByteArray) (k : Nat) (h : k < s.size) : s.data.toList.take (k + 1) = s.data.toList.take k ++ [s[k]] := by
  rw [List.take_succ_eq_append_getElem (by simpa using h)]; rfl
theorem fold_snoc (zs : List Int) (h : Int) (s : ByteArray) (k : Nat) (hk : k < s.size) :
    fold zs h (s.data.toList.take (k + 1)) = step zs (fold zs h (s.data.toList.take k)) (s[k].toNat : Int) := by
  rw [take_snoc s k hk]; unfold fold; rw [List.foldl_append]; rfl

theorem check_16 (A : Option Addr) (c : Nat) (w : World) : Calls Try.prog 46 #[.slice A 16 c] w fun e w' => e = .returned (.int .i64 0) ∧ w = w' := by
  go_enter Try.func46, Try.ntmps46
  go_wp2
  go_ret
  exact ⟨rfl, rfl⟩
theorem check_not (A : Option Addr) (n c : Nat) (hn : n ≠ 16) (w : World) : Calls Try.prog 46 #[.slice A n c] w fun e w' => e = .returned (.int .i64 11) ∧ w = w' := by
  have e1 : ((n : Int) == 16) = false := by simp; omega
  have e2 : ((n : Int) != 16) = true := by simp; omega
  go_enter Try.func46, Try.ntmps46
  go_wp2
  go_ret
  exact ⟨rfl, rfl⟩

/-- hash.Key over a table of 16 words. -/
theorem key_16 (zs : List Int) (hz : zs.length = 16) (hb : ∀ z ∈ zs, 0 ≤ z ∧ z < 18446744073709551616) (b off c : Nat) (seed : Int) (s0 : 0 ≤ seed) (s1 : seed < 18446744073709551616)
    (s : ByteArray) (hs : s.size ≤ 140737488351232) (w : World) (hc : ∀ j, j < 16 → w.cell? ⟨b, off + j, none⟩ = some (.int .u64 (zs.getD j 0))) :
    Calls Try.prog 92 #[.slice (some ⟨b, off, none⟩) 16 c, .int .u64 seed, .string s] w fun e w' => e = .returned (.int .u64 (fin (fold zs seed s.data.toList))) ∧ ∃ nq, w' = w.drewN nq := by
  go_enter Try.func92, Try.ntmps92
  go_wp2_with (go_at_call 46; refine (check_16 _ _ _).mono ?_; rintro e w' ⟨rfl, rfl⟩)
  go_loopw [7, 8, 9, 16] (fun hv _ _ i wr => ∃ k : Nat, k ≤ s.size ∧ i = .int .i64 k ∧ hv = .int .u64 (fold zs seed (s.data.toList.take k)) ∧ ∃ nq, wr = w.drewN nq) (fun _ _ _ i _ => s.size - (intOf i).toNat)
  case atStart => exact ⟨0, Nat.zero_le _, rfl, rfl, 0, rfl⟩
  case round =>
    obtain ⟨k, hk, rfl, rfl, nq, rfl⟩ := hrel
    by_cases hlt : k < s.size
    · have hsn := fold_snoc zs seed s k hlt
      have hF := fold_bd zs seed s0 s1 (s.data.toList.take k)
      have q2 := s[k].toNat_lt
      have q0 : (0 : Int) ≤ (s[k].toNat : Int) / 16 := by omega
      have q1 : (s[k].toNat : Int) / 16 < 16 := by omega
      have m0 : (0 : Int) ≤ (s[k].toNat : Int) % 16 := by omega
      have m1 : (s[k].toNat : Int) % 16 < 16 := by omega
      have c1 := hc ((s[k].toNat : Int) / 16).toNat (by omega)
      have c2 := hc ((s[k].toNat : Int) % 16).toNat (by omega)
      have r1 := rot_bd (fold zs seed (s.data.toList.take k)) 5
      obtain ⟨t1, ht1⟩ : ∃ t, t = zs.getD ((s[k].toNat : Int) / 16).toNat 0 := ⟨_, rfl⟩
      obtain ⟨t2, ht2⟩ : ∃ t, t = zs.getD ((s[k].toNat : Int) % 16).toNat 0 := ⟨_, rfl⟩
      rw [← ht1] at c1
      rw [← ht2] at c2
      unfold step at hsn
      rw [← ht1, ← ht2] at hsn
      clear ht1 ht2
      have HS := hide hsn
      have HC := hide hc
      clear hsn hc
      generalize fold zs seed (s.data.toList.take k) = f at *
      have e1 : IntKind.u8.wrap ((s[k].toNat : Int) / 16) = (s[k].toNat : Int) / 16 := by rw [IntKind.wrap_u8]; omega
      have e2 : (s[k].toNat : Int).tmod 16 = (s[k].toNat : Int) % 16 := Int.tmod_eq_emod_of_nonneg (by omega)
      go_wp2
      go_quiet ((go_at_call 98; exact quiet_add_left (rot_any _ _ (by omega) (by omega) (by omega) (by omega) _)))
      have r2 := wf_u64 (wf_bits .xor .u64 (rot f 5) t1)
      go_wp2
      go_quiet ((go_at_call 98; exact quiet_add_left (rot_any _ _ (by omega) (by omega) (by omega) (by omega) _)))
      go_wp2
      go_roundw
      case rel => exact ⟨k + 1, by omega, by go_num, by rw [HS.out], _, rfl⟩
      case measure => simp [intOf]; omega
    · go_wp2
      go_ret
      exact ⟨ret_int (by rw [List.take_of_length_le (by simp; omega)]; rfl), nq, rfl⟩
/-- hash.Key over a table of another length. -/
theorem key_not (A : Option Addr) (n c : Nat) (hn : n ≠ 16) (seed : Int) (s : ByteArray) (w : World) :
    Calls Try.prog 92 #[.slice A n c, .int .u64 seed, .string s] w fun e w' => e = .returned (.int .u64 0) ∧ w = w' := by
  go_enter Try.func92, Try.ntmps92
  go_wp2_with (go_at_call 46; refine (check_not _ _ _ hn _).mono ?_; rintro e w' ⟨rfl, rfl⟩)
  go_ret
  exact ⟨rfl, rfl⟩

theorem key_any (zs : List Int) (hb : ∀ z ∈ zs, 0 ≤ z ∧ z < 18446744073709551616) (A : Option Addr) (n c B : Nat) (w : World) (hr : Rd w B A 1 n (zs.map (.int .u64))) (seed : Int) (s0 : 0 ≤ seed) (s1 : seed < 18446744073709551616)
    (s : ByteArray) (hs : s.size ≤ 140737488351232) :
    Calls Try.prog 92 #[.slice A n c, .int .u64 seed, .string s] w fun e w' => e = .returned (.int .u64 (key zs seed s.data.toList)) ∧ ∃ nq, w' = w.drewN nq := by
  have hl : zs.length = n := by simpa using hr.1
  by_cases h : n = 16
  · subst h
    obtain ⟨b, off, rfl, _, hc⟩ := hr.2 (by omega)
    unfold key
    rw [if_pos hl]
    refine key_16 zs hl hb b off c seed s0 s1 s hs w fun j hj => hc j _ ?_
    simp [List.getD, show j < zs.length by omega]
  · unfold key
    rw [if_neg (by omega)]
    exact (key_not A n c h seed s w).mono fun e w' ⟨he, hw⟩ => ⟨he, 0, hw.symm⟩
theorem rrot_any (h k : Int) (h0 : 0 ≤ h) (h1 : h < 18446744073709551616) (k0 : 0 ≤ k) (k1 : k < 64) (w : World) :
    Calls Try.prog 96 #[.int .u64 h, .int .u64 k] w fun e w' => e = .returned (.int .u64 (rot h k)) ∧ w = w' := by
  go_enter Try.func96, Try.ntmps96
  go_wp2
  go_ret
  exact ⟨rfl, rfl⟩

theorem rcheck_16 (A : Option Addr) (c : Nat) (w : World) : Calls Try.prog 63 #[.slice A 16 c] w fun e w' => e = .returned (.int .i64 0) ∧ w = w' := by
  go_enter Try.func63, Try.ntmps63
  go_wp2
  go_ret
  exact ⟨rfl, rfl⟩
theorem rcheck_not (A : Option Addr) (n c : Nat) (hn : n ≠ 16) (w : World) : Calls Try.prog 63 #[.slice A n c] w fun e w' => e = .returned (.int .i64 11) ∧ w = w' := by
  have e1 : ((n : Int) == 16) = false := by simp; omega
  have e2 : ((n : Int) != 16) = true := by simp; omega
  go_enter Try.func63, Try.ntmps63
  go_wp2
  go_ret
  exact ⟨rfl, rfl⟩

/-- the reference's Hash over a table of 16 words. -/
theorem rkey_16 (zs : List Int) (hz : zs.length = 16) (hb : ∀ z ∈ zs, 0 ≤ z ∧ z < 18446744073709551616) (b off c : Nat) (seed : Int) (s0 : 0 ≤ seed) (s1 : seed < 18446744073709551616)
    (s : ByteArray) (hs : s.size ≤ 140737488351232) (w : World) (hc : ∀ j, j < 16 → w.cell? ⟨b, off + j, none⟩ = some (.int .u64 (zs.getD j 0))) :
    Calls Try.prog 87 #[.slice (some ⟨b, off, none⟩) 16 c, .int .u64 seed, .string s] w fun e w' => e = .returned (.int .u64 (fin (fold zs seed s.data.toList))) ∧ ∃ nq, w' = w.drewN nq := by
  go_enter Try.func87, Try.ntmps87
  go_wp2_with (go_at_call 63; refine (rcheck_16 _ _ _).mono ?_; rintro e w' ⟨rfl, rfl⟩)
  go_loopw [7, 8] (fun hv i wr => ∃ k : Nat, k ≤ s.size ∧ i = .int .i64 k ∧ hv = .int .u64 (fold zs seed (s.data.toList.take k)) ∧ ∃ nq, wr = w.drewN nq) (fun _ i _ => s.size - (intOf i).toNat)
  case atStart => exact ⟨0, Nat.zero_le _, rfl, rfl, 0, rfl⟩
  case round =>
    obtain ⟨k, hk, rfl, rfl, nq, rfl⟩ := hrel
    by_cases hlt : k < s.size
    · have hsn := fold_snoc zs seed s k hlt
      have hF := fold_bd zs seed s0 s1 (s.data.toList.take k)
      have q2 := s[k].toNat_lt
      have q0 : (0 : Int) ≤ (s[k].toNat : Int) / 16 := by omega
      have q1 : (s[k].toNat : Int) / 16 < 16 := by omega
      have m0 : (0 : Int) ≤ (s[k].toNat : Int) % 16 := by omega
      have m1 : (s[k].toNat : Int) % 16 < 16 := by omega
      have c1 := hc ((s[k].toNat : Int) / 16).toNat (by omega)
      have c2 := hc ((s[k].toNat : Int) % 16).toNat (by omega)
      have r1 := rot_bd (fold zs seed (s.data.toList.take k)) 5
      obtain ⟨t1, ht1⟩ : ∃ t, t = zs.getD ((s[k].toNat : Int) / 16).toNat 0 := ⟨_, rfl⟩
      obtain ⟨t2, ht2⟩ : ∃ t, t = zs.getD ((s[k].toNat : Int) % 16).toNat 0 := ⟨_, rfl⟩
      rw [← ht1] at c1
      rw [← ht2] at c2
      unfold step at hsn
      rw [← ht1, ← ht2] at hsn
      clear ht1 ht2
      have HS := hide hsn
      have HC := hide hc
      clear hsn hc
      generalize fold zs seed (s.data.toList.take k) = f at *
      have e1 : IntKind.u8.wrap ((s[k].toNat : Int) / 16) = (s[k].toNat : Int) / 16 := by rw [IntKind.wrap_u8]; omega
      have e2 : (s[k].toNat : Int).tmod 16 = (s[k].toNat : Int) % 16 := Int.tmod_eq_emod_of_nonneg (by omega)
      go_wp2
      go_quiet ((go_at_call 96; exact quiet_add_left (rrot_any _ _ (by omega) (by omega) (by omega) (by omega) _)))
      have r2 := wf_u64 (wf_bits .xor .u64 (rot f 5) t1)
      go_wp2
      go_quiet ((go_at_call 96; exact quiet_add_left (rrot_any _ _ (by omega) (by omega) (by omega) (by omega) _)))
      go_wp2
      go_roundw
      case rel => exact ⟨k + 1, by omega, by go_num, by rw [HS.out], _, rfl⟩
      case measure => simp [intOf]; omega
    · go_wp2
      go_ret
      exact ⟨ret_int (by rw [List.take_of_length_le (by simp; omega)]; rfl), nq, rfl⟩
/-- the reference's Hash over a table of another length. -/
theorem rkey_not (A : Option Addr) (n c : Nat) (hn : n ≠ 16) (seed : Int) (s : ByteArray) (w : World) :
    Calls Try.prog 87 #[.slice A n c, .int .u64 seed, .string s] w fun e w' => e = .returned (.int .u64 0) ∧ w = w' := by
  go_enter Try.func87, Try.ntmps87
  go_wp2_with (go_at_call 63; refine (rcheck_not _ _ _ hn _).mono ?_; rintro e w' ⟨rfl, rfl⟩)
  go_ret
  exact ⟨rfl, rfl⟩

theorem rkey_any (zs : List Int) (hb : ∀ z ∈ zs, 0 ≤ z ∧ z < 18446744073709551616) (A : Option Addr) (n c B : Nat) (w : World) (hr : Rd w B A 1 n (zs.map (.int .u64))) (seed : Int) (s0 : 0 ≤ seed) (s1 : seed < 18446744073709551616)
    (s : ByteArray) (hs : s.size ≤ 140737488351232) :
    Calls Try.prog 87 #[.slice A n c, .int .u64 seed, .string s] w fun e w' => e = .returned (.int .u64 (key zs seed s.data.toList)) ∧ ∃ nq, w' = w.drewN nq := by
  have hl : zs.length = n := by simpa using hr.1
  by_cases h : n = 16
  · subst h
    obtain ⟨b, off, rfl, _, hc⟩ := hr.2 (by omega)
    unfold key
    rw [if_pos hl]
    refine rkey_16 zs hl hb b off c seed s0 s1 s hs w fun j hj => hc j _ ?_
    simp [List.getD, show j < zs.length by omega]
  · unfold key
    rw [if_neg (by omega)]
    exact (rkey_not A n c h seed s w).mono fun e w' ⟨he, hw⟩ => ⟨he, 0, hw.symm⟩
/-- what Check says of a table of n words -/
def chk (n : Nat) : Int := if n = 16 then 0 else 11
theorem check_any (A : Option Addr) (n c : Nat) (w : World) : Calls Try.prog 46 #[.slice A n c] w fun e w' => e = .returned (.int .i64 (chk n)) ∧ w = w' := by
  by_cases h : n = 16
  · subst h; exact check_16 A c w
  · rw [show chk n = 11 from if_neg h]; exact check_not A n c h w
theorem rcheck_any (A : Option Addr) (n c : Nat) (w : World) : Calls Try.prog 63 #[.slice A n c] w fun e w' => e = .returned (.int .i64 (chk n)) ∧ w = w' := by
  by_cases h : n = 16
  · subst h; exact rcheck_16 A c w
  · rw [show chk n = 11 from if_neg h]; exact rcheck_not A n c h w

/-- hash.Row: the seed of a row. -/
def rowSeed (seed row : Int) : Int := IntKind.u64.wrap (seed + IntKind.u64.wrap (IntKind.u64.wrap (IntKind.u64.wrap row + 1) * 15111065706836454659))
theorem rowSeed_bd (seed row : Int) : 0 ≤ rowSeed seed row ∧ rowSeed seed row < 18446744073709551616 := wrap_bd _
theorem row_any (zs : List Int) (hb : ∀ z ∈ zs, 0 ≤ z ∧ z < 18446744073709551616) (A : Option Addr) (n c B : Nat) (w : World) (hr : Rd w B A 1 n (zs.map (.int .u64))) (seed : Int) (s0 : 0 ≤ seed) (s1 : seed < 18446744073709551616)
    (row : Int) (r0 : -9223372036854775808 ≤ row) (r1 : row < 9223372036854775808) (s : ByteArray) (hs : s.size ≤ 140737488351232) :
    Calls Try.prog 74 #[.slice A n c, .int .u64 seed, .int .i64 row, .string s] w fun e w' => e = .returned (.int .u64 (key zs (rowSeed seed row) s.data.toList)) ∧ ∃ nq, w' = w.drewN nq := by
  have HK := hide (key_any zs hb A n c B w hr (rowSeed seed row) (rowSeed_bd _ _).1 (rowSeed_bd _ _).2 s hs)
  clear hr hb
  go_enter Try.func74, Try.ntmps74
  go_wp2_with fail
  refine HK.out.mono ?_
  rintro e w1 ⟨rfl, nq, rfl⟩
  go_wp2_with fail
  go_ret
  exact ⟨rfl, nq, rfl⟩
theorem rrow_any (zs : List Int) (hb : ∀ z ∈ zs, 0 ≤ z ∧ z < 18446744073709551616) (A : Option Addr) (n c B : Nat) (w : World) (hr : Rd w B A 1 n (zs.map (.int .u64))) (seed : Int) (s0 : 0 ≤ seed) (s1 : seed < 18446744073709551616)
    (row : Int) (r0 : -9223372036854775808 ≤ row) (r1 : row < 9223372036854775808) (s : ByteArray) (hs : s.size ≤ 140737488351232) :
    Calls Try.prog 66 #[.slice A n c, .int .u64 seed, .int .i64 row, .string s] w fun e w' => e = .returned (.int .u64 (key zs (rowSeed seed row) s.data.toList)) ∧ ∃ nq, w' = w.drewN nq := by
  have HK := hide (rkey_any zs hb A n c B w hr (rowSeed seed row) (rowSeed_bd _ _).1 (rowSeed_bd _ _).2 s hs)
  clear hr hb
  go_enter Try.func66, Try.ntmps66
  go_wp2_with fail
  refine HK.out.mono ?_
  rintro e w1 ⟨rfl, nq, rfl⟩
  go_wp2_with fail
  go_ret
  exact ⟨rfl, nq, rfl⟩
def slot (h n : Int) : Int := if n < 1 then 0 else h % n
theorem slot_any (h n : Int) (h0 : 0 ≤ h) (h1 : h < 18446744073709551616) (n0 : -9223372036854775808 ≤ n) (n1 : n < 9223372036854775808) (w : World) :
    Calls Try.prog 73 #[.int .u64 h, .int .i64 n] w fun e w' => e = .returned (.int .i64 (slot h n)) ∧ w = w' := by
  by_cases hn : n < 1
  · have e : slot h n = 0 := by unfold slot; rw [if_pos hn]
    rw [e]; clear e
    go_enter Try.func73, Try.ntmps73
    go_wp2
    go_ret
    exact ⟨rfl, rfl⟩
  · have e : slot h n = h % n := by unfold slot; rw [if_neg hn]
    have b0 := Int.emod_nonneg h (show n ≠ 0 by omega)
    have b1 := Int.emod_lt_of_pos h (show 0 < n by omega)
    rw [e]; clear e
    go_enter Try.func73, Try.ntmps73
    go_wp2
    go_ret
    exact ⟨rfl, rfl⟩
theorem rslot_any (h n : Int) (h0 : 0 ≤ h) (h1 : h < 18446744073709551616) (n0 : -9223372036854775808 ≤ n) (n1 : n < 9223372036854775808) (w : World) :
    Calls Try.prog 65 #[.int .u64 h, .int .i64 n] w fun e w' => e = .returned (.int .i64 (slot h n)) ∧ w = w' := by
  by_cases hn : n < 1
  · have e : slot h n = 0 := by unfold slot; rw [if_pos hn]
    rw [e]; clear e
    go_enter Try.func65, Try.ntmps65
    go_wp2
    go_ret
    exact ⟨rfl, rfl⟩
  · have e : slot h n = h % n := by unfold slot; rw [if_neg hn]
    have b0 := Int.emod_nonneg h (show n ≠ 0 by omega)
    have b1 := Int.emod_lt_of_pos h (show 0 < n by omega)
    rw [e]; clear e
    go_enter Try.func65, Try.ntmps65
    go_wp2
    go_ret
    exact ⟨rfl, rfl⟩
end Hash
end Go.Proofs.Ytaiopdipldaimaa
