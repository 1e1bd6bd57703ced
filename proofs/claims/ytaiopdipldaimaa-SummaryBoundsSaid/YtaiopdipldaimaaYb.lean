/-
  Deck.Summary: what it draws, as plain lists; a key of one byte. No conditions beyond those of the statement.
-/
import Derived.Test.YtaiopdipldaimaaYa
import Derived.Test.YtaiopdipldaimaaDeck
import Derived.Test.YtaiopdipldaimaaShort
import Derived.Test.YtaiopdipldaimaaCmp
set_option linter.unusedVariables false
set_option linter.unusedSimpArgs false
namespace Go.Proofs.Ytaiopdipldaimaa
open Go.RowKit
def keyOf (n : Nat) : ByteArray := ⟨#[n.toUInt8]⟩
theorem keyOf_list (n : Nat) : (keyOf n).toList = [n.toUInt8] := by rw [ByteArray.toList_eq]; rfl
theorem keyOf_size (n : Nat) : (keyOf n).size = 1 := rfl
theorem keyOf_lt {a b : Nat} (h : a < b) (hb : b < 256) : bl (keyOf a).toList (keyOf b).toList = true := by
  rw [keyOf_list, keyOf_list]
  have h1 : a.toUInt8 < b.toUInt8 := by
    rw [UInt8.lt_iff_toNat_lt]
    show a % 256 < b % 256
    omega
  simp [bl, Op.bytesLess, h1]
theorem run_conv1w (y : Int) (y0 : 0 ≤ y) (y1 : y < 256) (W : World) (b : Nat) (hc : W.cell? ⟨b, 0, none⟩ = some (.int .u8 y)) : (convert 46 9 (.slice (some ⟨b, 0, none⟩) 1 1)).run Try.prog W = .ok (.string (keyOf y.toNat)) W := by
  refine run_convert_bytes_back (P := Try.prog) W 46 9 5 ⟨b, 0, none⟩ 1 [y.toNat.toUInt8] Try.underlying46 Try.underlying5 Try.underlying9 ?_
  intro j hj
  obtain rfl : j = 0 := by simpa using hj
  have h2 : (y.toNat.toUInt8.toNat : Int) = y := by
    show ((y.toNat % 256 : Nat) : Int) = _
    omega
  rw [show (⟨b, 0, none⟩ : Addr).add 0 = ⟨b, 0, none⟩ from by simp [Addr.add], hc]
  show some (Value.int .u8 y) = some (Value.int .u8 (y.toNat.toUInt8.toNat : Int))
  rw [h2]
/-- the entries that were drawn so far: what is left of the total, the last key's byte -/
structure EOk (tot left : Int) (kb : Nat) (l : List Ln) : Prop where
  sum : (l.map Ln.lo).sum + left = tot
  own : ∀ x ∈ l, 1 ≤ x.lo ∧ 0 ≤ x.hi ∧ x.lo + x.hi ≤ tot
  key : ∀ x ∈ l, ∃ n : Nat, 97 < n ∧ n ≤ kb ∧ x.key = keyOf n
  asc : l.Pairwise (fun a b => bl a.key.toList b.key.toList = true)
  left0 : 0 ≤ left
theorem EOk.nil (tot : Int) (h : 0 ≤ tot) (kb : Nat) : EOk tot tot kb [] := ⟨by simp, fun x hx => (by cases hx), fun x hx => (by cases hx), List.Pairwise.nil, h⟩
theorem EOk.snoc {tot left : Int} {kb : Nat} {l : List Ln} (h : EOk tot left kb l) (h97 : 97 ≤ kb) (n : Nat) (hn : kb < n) (hn2 : n < 256) (own sl : Int) (o1 : 1 ≤ own) (o2 : own ≤ left) (s0 : 0 ≤ sl) (s1 : own + sl ≤ tot) : EOk tot (left - own) n (l ++ [⟨keyOf n, own, sl⟩]) := by
  refine ⟨by rw [List.map_append, List.sum_append]; have := h.sum; simp; omega, fun x hx => ?_, fun x hx => ?_, ?_, by omega⟩
  · rcases List.mem_append.1 hx with h1 | h1
    · exact h.own x h1
    · obtain rfl : x = _ := by simpa using h1
      exact ⟨o1, s0, s1⟩
  · rcases List.mem_append.1 hx with h1 | h1
    · obtain ⟨m, m1, m2, m3⟩ := h.key x h1
      exact ⟨m, m1, by omega, m3⟩
    · obtain rfl : x = _ := by simpa using h1
      exact ⟨n, by omega, Nat.le_refl _, rfl⟩
  · rw [List.pairwise_append]
    refine ⟨h.asc, List.pairwise_singleton _ _, fun a ha b hb => ?_⟩
    obtain rfl : b = _ := by simpa using hb
    obtain ⟨m, m1, m2, m3⟩ := h.key a ha
    rw [m3]
    exact keyOf_lt (by omega) hn2
/-- the rows that were drawn so far -/
def ROk (tot : Int) (wd : Nat) (R : Cmp.Rows) : Prop := ∀ r ∈ R, r.length = wd ∧ ∀ z ∈ r, 0 ≤ z ∧ z ≤ tot
end Go.Proofs.Ytaiopdipldaimaa
