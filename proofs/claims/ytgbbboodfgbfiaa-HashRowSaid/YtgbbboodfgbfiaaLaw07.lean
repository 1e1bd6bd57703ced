/-
  The laws of layer 7 (hash): the walks.
-/
import Derived.Test.YtgbbboodfgbfiaaHash
import Derived.Test.YtgbbboodfgbfiaaDeck
set_option linter.unusedVariables false
set_option linter.unusedSimpArgs false
namespace Go.Proofs.Ytgbbboodfgbfiaa
open Go.RowKit

theorem rep_getD (n i : Nat) : (List.replicate n (0 : Int)).getD i 0 = 0 := by
  rw [List.getD, List.getElem?_replicate]; split <;> rfl
theorem key_zero (l : List UInt8) : Hash.key (List.replicate 16 0) 0 l = 0 := by
  have h1 : ∀ b : Int, 0 ≤ b → b < 256 → Hash.step (List.replicate 16 0) 0 b = 0 := by
    intro b h0 h1
    unfold Hash.step
    have e1 : (List.replicate 16 (0 : Int)).getD (b / 16).toNat 0 = 0 := rep_getD 16 _
    have e2 : (List.replicate 16 (0 : Int)).getD (b % 16).toNat 0 = 0 := rep_getD 16 _
    rw [e1, e2]
    decide +kernel
  have h2 : ∀ l : List UInt8, Hash.fold (List.replicate 16 0) 0 l = 0 := by
    intro l
    induction l with
    | nil => rfl
    | cons c l ih =>
      show Hash.fold (List.replicate 16 0) (Hash.step (List.replicate 16 0) 0 (c.toNat : Int)) l = 0
      rw [h1 _ (by omega) (by have := c.toNat_lt; omega)]; exact ih
  unfold Hash.key
  rw [if_pos (by simp), h2]
  decide +kernel

/-- what a law's sanity check gives -/
theorem awake07 (w : World) : Calls Try.prog 15 #[] w fun e w' => e = .returned (.bool true) ∧ Keeps (fun _ => False) w w' := by
  have hmk : ∀ w, (Instr.makeSlice 22 (.int .i64 16) (.int .i64 16)).run Try.prog w = .ok (.slice (some ⟨w.heap.size, 0, none⟩) 16 16) (w.alloc (.cells (Array.replicate 16 (.int .u64 0)) 24)) := fun _ => by kernel_rfl
  obtain ⟨w1, hw1⟩ : ∃ w1, w1 = w.alloc (.cells (Array.replicate 16 (.int .u64 0)) 24) := ⟨_, rfl⟩
  have hb := Blk.new w 24 (Array.replicate 16 (.int .u64 0))
  have hk := (Keeps.refl (fun _ => False) w).alloc (.cells (Array.replicate 16 (.int .u64 0)) 24)
  rw [← hw1] at hb hk
  have hr : Rd w1 w1.heap.size (some ⟨w.heap.size, 0, none⟩) 1 16 ((List.replicate 16 0).map (.int .u64)) := Blk.rd (xs := (List.replicate 16 0).map (.int .u64)) hb rfl
  have H1 := hide (Hash.key_any (List.replicate 16 0) (by decide) _ 16 16 w1.heap.size w1 hr 0 (by omega) (by omega) ⟨#[97, 98, 99]⟩ (by decide))
  have H2 := hide (fun nq => Hash.key_any (List.replicate 16 0) (by decide) _ 16 16 w1.heap.size (w1.drewN nq) (hr.drewN nq) 4294967296 (by omega) (by omega) ⟨#[]⟩ (by decide))
  rw [key_zero] at H1
  rw [show Hash.key (List.replicate 16 0) 4294967296 (ByteArray.mk #[]).data.toList = 4294967297 from by decide +kernel] at H2
  have HW := hide hw1
  have HK := hide hk
  clear hw1 hk hb hr
  go_enter Try.func15, Try.ntmps15
  go_wp2_with fail
  rw [← HW.out]
  clear HW hmk
  refine H1.out.mono ?_
  rintro e w2 ⟨rfl, nq, rfl⟩
  go_wp2_with fail
  refine (H2.out _).mono ?_
  rintro e w2 ⟨rfl, nq2, rfl⟩
  go_wp2_with (go_at_call 18; refine (Hash.check_16 _ _ _).mono ?_; rintro e w' ⟨rfl, rfl⟩)
  go_ret
  exact ⟨rfl, HK.out.drewN _⟩

namespace hashSlot
theorem walk (w : World) (h : Int) (h0 : 0 ≤ h) (h1 : h < 18446744073709551616) (n : Int) (n0 : 0 ≤ n) (n1 : n < 65536) :
    Calls Try.prog 7 #[.int .u64 h, .int .u16 n] w fun e w' => e = .returned (.bool true) ∧ Below w.heap.size w w' := by
  have e1 : Hash.slot h (1 + n) = h % (1 + n) := by unfold Hash.slot; rw [if_neg (by omega)]
  have b0 := Int.emod_nonneg h (show 1 + n ≠ 0 by omega)
  have b1 := Int.emod_lt_of_pos h (show 0 < 1 + n by omega)
  have H1 := hide (fun w => Hash.slot_any h (1 + n) h0 h1 (by omega) (by omega) w)
  have H2 := hide (fun w => Hash.slot_any h 0 h0 h1 (by omega) (by omega) w)
  have H3 := hide (fun w => Hash.slot_any h (-(1 + n)) h0 h1 (by omega) (by omega) w)
  rw [e1] at H1
  rw [show Hash.slot h 0 = 0 from by unfold Hash.slot; rw [if_pos (by omega)]] at H2
  rw [show Hash.slot h (-(1 + n)) = 0 from by unfold Hash.slot; rw [if_pos (by omega)]] at H3
  clear e1
  go_enter Try.func7, Try.ntmps7
  go_wp2_with fail
  refine (H1.out _).mono ?_; rintro e w' ⟨rfl, rfl⟩
  go_wp2_with fail
  refine (H2.out _).mono ?_; rintro e w' ⟨rfl, rfl⟩
  go_wp2_with fail
  refine (H3.out _).mono ?_; rintro e w' ⟨rfl, rfl⟩
  go_wp2_with fail
  refine (awake07 _).mono ?_; rintro e w' ⟨rfl, k⟩
  go_wp2_with fail
  go_ret
  exact ⟨rfl, k.done⟩
end hashSlot

namespace hashKey
theorem walk (w : World) (A : Option Addr) (n c : Nat) (zs : List Int) (hr : Rd w w.heap.size A 1 n (zs.map (.int .u64))) (hb : ∀ z ∈ zs, 0 ≤ z ∧ z < 18446744073709551616) (hn : n * 8 ≤ 140737488351232)
    (D : Option Addr) (m d : Nat) (ds : List Int) (dr : Rd w w.heap.size D 1 m (ds.map (.int .i64))) (db : ∀ z ∈ ds, -9223372036854775808 ≤ z ∧ z < 9223372036854775808) (hm : m * 8 ≤ 140737488351232)
    (seed : Int) (s0 : 0 ≤ seed) (s1 : seed < 18446744073709551616) (s : ByteArray) (hs : s.size ≤ maxLen) (hs' : s.size ≤ 140737488351232) :
    Calls Try.prog 3 #[.slice A n c, .slice D m d, .int .u64 seed, .string s] w fun e w' => e = .returned (.bool true) ∧ Below w.heap.size w w' := by
  by_cases h1 : 40 < n ∨ 300 < s.size
  · by_cases h2 : 40 < n
    · go_enter Try.func3, Try.ntmps3
      go_wp2_with fail
      refine (awake07 _).mono ?_; rintro e w' ⟨rfl, k⟩
      go_wp2_with fail
      go_ret
      exact ⟨rfl, k.done⟩
    · have h3 : 300 < s.size := by omega
      go_enter Try.func3, Try.ntmps3
      go_wp2_with fail
      refine (awake07 _).mono ?_; rintro e w' ⟨rfl, k⟩
      go_wp2_with fail
      go_ret
      exact ⟨rfl, k.done⟩
  · have h2 : n ≤ 40 := by omega
    have h3 : s.size ≤ 300 := by omega
    clear h1
    have HR := hide hr
    clear hr
    go_enter Try.func3, Try.ntmps3
    go_wp2_with fail
    refine (new_deck D m d ds w.heap.size w (Nat.le_refl _) dr db (by omega)).mono ?_; rintro e w1 ⟨rfl, d1, k1⟩
    have K1 := hide k1
    clear k1 dr
    go_wp2_with fail
    refine (table_any w.heap.size _ _ d1).mono ?_; rintro e w2 ⟨b, t, rfl, tl, tb, tk, tn, d2, k2⟩
    have hg := d2.le
    have hsz := K1.out.size
    have R2 := hide (((HR.out.kept K1.out (fun _ _ h => h)).kept k2 (by omega)).more (B' := w2.heap.size) (by have := k2.size; omega))
    have T2 := hide (Blk.rd tk (n := 16) (sz := 1) (by simp [tl]))
    have K2 := hide (K1.out.step k2 (S' := (· = w.heap.size)) (by omega))
    have TL := hide tl
    clear k2 tk HR K1 tl d1 d2
    go_wp2_with fail
    refine (Hash.check_any _ _ _ _).mono ?_; rintro e w' ⟨rfl, rfl⟩
    go_wp2_with fail
    refine (Hash.rcheck_any _ _ _ _).mono ?_; rintro e w' ⟨rfl, rfl⟩
    go_wp2_with fail
    refine (Hash.key_any zs hb A n c _ _ R2.out seed s0 s1 s hs').mono ?_; rintro e w' ⟨rfl, q1, rfl⟩
    go_wp2_with fail
    refine (Hash.rkey_any zs hb A n c _ _ (R2.out.drewN q1) seed s0 s1 s hs').mono ?_; rintro e w' ⟨rfl, q2, rfl⟩
    go_wp2_with fail
    refine (Hash.key_any t tb _ 16 16 _ _ (T2.out.drewN (q1 + q2)) seed s0 s1 s hs').mono ?_; rintro e w' ⟨rfl, q3, rfl⟩
    go_wp2_with fail
    refine (Hash.rkey_any t tb _ 16 16 _ _ (T2.out.drewN (q1 + q2 + q3)) seed s0 s1 s hs').mono ?_; rintro e w' ⟨rfl, q4, rfl⟩
    go_wp2_with fail
    refine (awake07 _).mono ?_; rintro e w' ⟨rfl, k⟩
    go_wp2_with fail
    go_ret
    exact ⟨rfl, Keeps.done ((K2.out.drewN _).step0 k)⟩
end hashKey

namespace hashEnds
theorem walk (w : World) (D : Option Addr) (m d : Nat) (ds : List Int) (dr : Rd w w.heap.size D 1 m (ds.map (.int .i64))) (db : ∀ z ∈ ds, -9223372036854775808 ≤ z ∧ z < 9223372036854775808) (hm : m * 8 ≤ 140737488351232)
    (seed : Int) (s0 : 0 ≤ seed) (s1 : seed < 18446744073709551616) (s : ByteArray) (hs : s.size ≤ maxLen) (hs' : s.size ≤ 140737488351232) :
    Calls Try.prog 4 #[.slice D m d, .int .u64 seed, .string s] w fun e w' => e = .returned (.bool true) ∧ Below w.heap.size w w' := by
  by_cases h3 : 300 < s.size
  · go_enter Try.func4, Try.ntmps4
    go_wp2_with fail
    refine (awake07 _).mono ?_; rintro e w' ⟨rfl, k⟩
    go_wp2_with fail
    go_ret
    exact ⟨rfl, k.done⟩
  · have hmk : ∀ w, (Instr.makeSlice 22 (.int .i64 16) (.int .i64 16)).run Try.prog w = .ok (.slice (some ⟨w.heap.size, 0, none⟩) 16 16) (w.alloc (.cells (Array.replicate 16 (.int .u64 0)) 24)) := fun _ => by kernel_rfl
    go_enter Try.func4, Try.ntmps4
    go_wp2_with fail
    refine (new_deck D m d ds w.heap.size w (Nat.le_refl _) dr db (by omega)).mono ?_; rintro e w1 ⟨rfl, d1, k1⟩
    have K1 := hide k1
    clear k1 dr
    go_wp2_with fail
    refine (table_any w.heap.size _ _ d1).mono ?_; rintro e w2 ⟨b, t, rfl, tl, tb, tk, tn, d2, k2⟩
    have hg := d2.le
    have hsz := K1.out.size
    have T2 := hide (Blk.rd tk (n := 16) (sz := 1) (by simp [tl]))
    have TK := hide tk
    have K2 := hide (K1.out.step k2 (S' := (· = w.heap.size)) (by omega))
    have H1 := hide (Hash.key_any t tb (some ⟨b, 0, none⟩) 16 16 _ _ T2.out seed s0 s1 ⟨#[]⟩ (by decide))
    rw [show Hash.key t seed (ByteArray.mk #[]).data.toList = Hash.fin seed from by unfold Hash.key; rw [if_pos tl]; rfl] at H1
    have TL := hide tl
    clear k2 tk K1 tl d1 d2
    go_wp2_with fail
    refine H1.out.mono ?_; rintro e w' ⟨rfl, q1, rfl⟩
    unfold Hash.fin
    clear H1
    go_wp2_with fail
    refine (Hash.key_any (List.replicate 16 0) (by decide) _ 16 16 _ _ (by exact Blk.rd (xs := (List.replicate 16 0).map (.int .u64)) (Blk.new _ _ _) rfl) 0 (by omega) (by omega) s hs').mono ?_; rintro e w' ⟨rfl, q2, rfl⟩
    rw [key_zero]
    go_wp2_with fail
    refine (Hash.key_not _ _ _ (by omega) _ _ _).mono ?_; rintro e w' ⟨rfl, rfl⟩
    go_wp2_with fail
    refine (awake07 _).mono ?_; rintro e w' ⟨rfl, k⟩
    go_wp2_with fail
    go_ret
    exact ⟨rfl, Keeps.done ((((K2.out.drewN _).alloc _).drewN _).step0 k)⟩
end hashEnds

namespace hashRow
theorem walk (w : World) (D : Option Addr) (m d : Nat) (ds : List Int) (dr : Rd w w.heap.size D 1 m (ds.map (.int .i64))) (db : ∀ z ∈ ds, -9223372036854775808 ≤ z ∧ z < 9223372036854775808) (hm : m * 8 ≤ 140737488351232)
    (seed : Int) (s0 : 0 ≤ seed) (s1 : seed < 18446744073709551616) (row : Int) (r0 : -9223372036854775808 ≤ row) (r1 : row < 9223372036854775808) (s : ByteArray) (hs : s.size ≤ maxLen) (hs' : s.size ≤ 140737488351232)
    (h : Int) (h0 : 0 ≤ h) (h1 : h < 18446744073709551616) (n : Int) (n0 : -9223372036854775808 ≤ n) (n1 : n < 9223372036854775808) :
    Calls Try.prog 10 #[.slice D m d, .int .u64 seed, .int .i64 row, .string s, .int .u64 h, .int .i64 n] w fun e w' => e = .returned (.bool true) ∧ Below w.heap.size w w' := by
  by_cases h3 : 300 < s.size
  · go_enter Try.func10, Try.ntmps10
    go_wp2_with fail
    refine (awake07 _).mono ?_; rintro e w' ⟨rfl, k⟩
    go_wp2_with fail
    go_ret
    exact ⟨rfl, k.done⟩
  · go_enter Try.func10, Try.ntmps10
    go_wp2_with fail
    refine (new_deck D m d ds w.heap.size w (Nat.le_refl _) dr db (by omega)).mono ?_; rintro e w1 ⟨rfl, d1, k1⟩
    have K1 := hide k1
    clear k1 dr
    go_wp2_with fail
    refine (table_any w.heap.size _ _ d1).mono ?_; rintro e w2 ⟨b, t, rfl, tl, tb, tk, tn, d2, k2⟩
    have hg := d2.le
    have hsz := K1.out.size
    have T2 := hide (Blk.rd tk (n := 16) (sz := 1) (by simp [tl]))
    have K2 := hide (K1.out.step k2 (S' := (· = w.heap.size)) (by omega))
    have TL := hide tl
    clear k2 tk K1 tl d1 d2
    go_wp2_with fail
    refine (Hash.row_any t tb _ 16 16 _ _ T2.out seed s0 s1 row r0 r1 s hs').mono ?_; rintro e w' ⟨rfl, q1, rfl⟩
    go_wp2_with fail
    refine (Hash.rrow_any t tb _ 16 16 _ _ (T2.out.drewN q1) seed s0 s1 row r0 r1 s hs').mono ?_; rintro e w' ⟨rfl, q2, rfl⟩
    have b3 := wf_i64 (wf_bits .and .i64 row 3)
    have b4 := wf_i64 (wf_bits .and .i64 n 255)
    go_wp2_with fail
    refine (Hash.row_any t tb _ 16 16 _ _ (T2.out.drewN _) seed s0 s1 _ b3.1 b3.2 s hs').mono ?_; rintro e w' ⟨rfl, q3, rfl⟩
    go_wp2_with fail
    refine (Hash.rrow_any t tb _ 16 16 _ _ (T2.out.drewN _) seed s0 s1 _ b3.1 b3.2 s hs').mono ?_; rintro e w' ⟨rfl, q4, rfl⟩
    go_wp2_with fail
    refine (Hash.slot_any _ _ h0 h1 n0 n1 _).mono ?_; rintro e w' ⟨rfl, rfl⟩
    go_wp2_with fail
    refine (Hash.rslot_any _ _ h0 h1 n0 n1 _).mono ?_; rintro e w' ⟨rfl, rfl⟩
    go_wp2_with fail
    refine (Hash.slot_any _ _ h0 h1 b4.1 b4.2 _).mono ?_; rintro e w' ⟨rfl, rfl⟩
    go_wp2_with fail
    refine (Hash.rslot_any _ _ h0 h1 b4.1 b4.2 _).mono ?_; rintro e w' ⟨rfl, rfl⟩
    go_wp2_with fail
    refine (awake07 _).mono ?_; rintro e w' ⟨rfl, k⟩
    go_wp2_with fail
    go_ret
    exact ⟨rfl, Keeps.done ((K2.out.drewN _).step0 k)⟩
end hashRow
end Go.Proofs.Ytgbbboodfgbfiaa
