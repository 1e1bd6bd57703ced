/-
  The reference's store: place, without, Full, Exact, NewStore, Get. No conditions beyond those of the statement.
-/
import Derived.Test.YtmbgnekilgobaaaEl
import Derived.Deep.RegionLaw
set_option linter.unusedVariables false
set_option linter.unusedSimpArgs false
namespace Go.Proofs.Ytmbgnekilgobaaa
open Go.RowKit
/-- the place of a key, or -1 -/
def plI (l : List Ln) (k : ByteArray) : Int := if foundK l k then (posK l k : Nat) else -1
theorem kLt_irr (x : Ln) (k : ByteArray) (h : x.key = k) : kLt x k = false := by unfold kLt; rw [h]; exact bl_irr _
theorem pl_at {l : List Ln} (hs : Asc l) {i : Nat} {x : Ln} {k : ByteArray} (hx : l[i]? = some x) (hk : x.key = k) : posK l k = i ∧ foundK l k = true := by
  have hi := (List.getElem?_eq_some_iff.1 hx)
  have hp : posK l k = i := posK_eq (by have := hi.1; omega) (fun j y hj hy => by
    have h2 := List.getElem?_eq_some_iff.1 hy
    have := List.pairwise_iff_getElem.1 hs j i h2.1 hi.1 hj
    rw [h2.2, hi.2] at this
    unfold kLt
    rw [← hk]
    exact this) (fun y hy => by rw [hx] at hy; injection hy with hy; rw [← hy]; exact kLt_irr x k hk)
  refine ⟨hp, ?_⟩
  unfold foundK
  rw [hp, hx]
  exact (cmp_zero _ _).2 hk
theorem pl_no {l : List Ln} {k : ByteArray} (h : ∀ x ∈ l, x.key ≠ k) : foundK l k = false := by
  rcases e : foundK l k with _ | _
  · rfl
  · obtain ⟨h1, h2⟩ := getE_yes e
    exact absurd h2 (h _ (List.mem_of_getElem? h1))
theorem key_eq {a b : ByteArray} : (a.toList == b.toList) = true ↔ a = b := by
  rw [beq_iff_eq, ByteArray.toList_eq, ByteArray.toList_eq]
  constructor
  · intro h; cases a; cases b; congr 1; exact Array.ext' h
  · rintro rfl; rfl
set_option maxRecDepth 100000 in
theorem rplace_any (w : World) (B : Nat) (A : Option Addr) (n c : Nat) (l : List Ln) (k : ByteArray) (hr : Rd w B A 3 n (lnCs l)) (hs : Asc l) (hn : n ≤ 1000000) :
    Calls Try.prog 68 #[.slice A n c, .string k] w fun e w' => e = .returned (.int .i64 (plI l k)) ∧ Keeps (fun _ => False) w w' := by
  have HR := hide hr
  have HL := hide (lnRd_len hr)
  have HS := hide hs
  clear hr hs
  go_enter Try.func68, Try.ntmps68
  go_upto_region 2 with fail
  go_loopw [9] (fun iv wr => ∃ i : Nat, i ≤ n ∧ iv = .int .i64 (i : Int) ∧ Hid (∀ j x, j < i → l[j]? = some x → x.key ≠ k) ∧ Hid (Keeps (fun _ => False) w wr)) (fun iv _ => n - (intOf iv).toNat)
  case atStart => exact ⟨0, by omega, rfl, hide (fun j x h => by omega), hide (Keeps.refl _ _)⟩
  case round =>
    obtain ⟨i, hi, rfl, HN, HK⟩ := hrel
    by_cases hlt : i < n
    · have e1 : decide (i < n) = true := by simpa using hlt
      obtain ⟨x, hx⟩ : ∃ x, l[i]? = some x := ⟨l[i]'(by rw [HL.out]; exact hlt), List.getElem?_eq_getElem _⟩
      obtain ⟨b, off, rfl, _, q0, q1, q2⟩ := lnRd_at (HR.out.kept HK.out (fun _ _ h => h)) hx (by omega)
      have HX := hide hx
      clear hx
      rcases hk : (x.key.toList == k.toList) with _ | _
      · have HN2 : Hid (∀ j x, j < i + 1 → l[j]? = some x → x.key ≠ k) := hide (fun j y hj hy e => by
          rcases Nat.lt_succ_iff_lt_or_eq.1 hj with h | h
          · exact HN.out j y h hy e
          · rw [h, HX.out] at hy
            injection hy with hy
            rw [hy, key_eq.2 e] at hk
            cases hk)
        go_wp2_with fail
        go_roundw
        case rel => exact ⟨i + 1, by omega, by go_num, HN2, hide (HK.out.alloc _)⟩
        case measure => simp [intOf]; omega
      · have HP : Hid (plI l k = (i : Int)) := hide (by
          obtain ⟨h1, h2⟩ := pl_at HS.out HX.out (key_eq.1 hk)
          unfold plI
          rw [if_pos h2, h1])
        go_wp2_with fail
        go_ret
        exact ⟨ret_int (by rw [HP.out]), HK.out.alloc _⟩
    · have e1 : decide (i < n) = false := by simpa using hlt
      have HP : Hid (plI l k = -1) := hide (by
        unfold plI
        rw [pl_no (fun x hx => by
          obtain ⟨j, hj⟩ := List.getElem?_of_mem hx
          exact HN.out j x (by have := (List.getElem?_eq_some_iff.1 hj).1; have := HL.out; omega) hj)]
        rfl)
      go_wp2_with fail
      go_ret
      exact ⟨ret_int (by rw [HP.out]), HK.out⟩
theorem rfull_any (w : World) (s : Nat) (N : Int) (A : Option Addr) (m c : Nat) (hb : Blk w s 80 #[.int .i64 N, .slice A m c]) : Calls Try.prog 69 #[.pointer (some ⟨s, 0, none⟩)] w fun e w' => e = .returned (.bool ((m : Int) == N)) ∧ ∃ k, w' = w.drewN k := by
  have c0 := hb.cell 0
  have c1 := hb.cell 1
  have hl := hb.lt
  clear hb
  go_enter Try.func69, Try.ntmps69
  go_wp2_with fail
  go_quiet (fail)
  go_wp2_with fail
  go_ret
  exact ⟨rfl, _, rfl⟩
theorem rexact_any (a b c : Int) (ha : U a) (hb : U b) (hc : U c) (w : World) : Calls Try.prog 70 #[.int .u64 a, .int .u64 b, .int .u64 c] w fun e w' => e = .returned (.bool (decide (a + b ≤ c))) ∧ w = w' := by
  obtain ⟨a0, a1⟩ := ha
  obtain ⟨b0, b1⟩ := hb
  obtain ⟨c0, c1⟩ := hc
  by_cases h : a ≤ c
  · have e1 : decide (a ≤ c) = true := by simpa using h
    have wc : IntKind.u64.wrap (c - a) = c - a := by rw [IntKind.wrap_u64]; omega
    go_enter Try.func70, Try.ntmps70
    go_wp2_with fail
    go_ret
    exact ⟨ret_bool (by rw [Bool.eq_iff_iff]; simp; omega), rfl⟩
  · have e1 : decide (a ≤ c) = false := by simpa using h
    go_enter Try.func70, Try.ntmps70
    go_wp2_with fail
    go_ret
    exact ⟨ret_bool (by symm; simp; omega), rfl⟩
theorem rsnew_bad (n : Int) (w : World) (h : n < 0 ∨ 32 < n) : Calls Try.prog 47 #[.int .i64 n] w fun e w' => e = .returned (.tuple #[.pointer none, .int .i64 1]) ∧ w' = w := by
  by_cases h1 : n < 0
  · have e1 : decide (n < 0) = true := by simpa using h1
    go_enter Try.func47, Try.ntmps47
    go_wp2_with fail
    go_ret2
    exact ⟨rfl, rfl⟩
  · have e1 : decide (n < 0) = false := by simpa using h1
    have e2 : decide (32 < n) = true := by simp; omega
    go_enter Try.func47, Try.ntmps47
    go_wp2_with fail
    go_ret2
    exact ⟨rfl, rfl⟩
theorem rsnew_ok (n : Int) (w : World) (h0 : 0 ≤ n) (h1 : n ≤ 32) : Calls Try.prog 47 #[.int .i64 n] w fun e w' => e = .returned (.tuple #[.pointer (some ⟨w.heap.size, 0, none⟩), .int .i64 0]) ∧ w' = w.alloc (.cells #[.int .i64 n, .slice none 0 0] 80) := by
  have e1 : decide (n < 0) = false := by simp; omega
  have e2 : decide (32 < n) = false := by simp; omega
  go_enter Try.func47, Try.ntmps47
  go_wp2_with fail
  go_ret2
  exact ⟨rfl, rfl⟩
end Go.Proofs.Ytmbgnekilgobaaa
