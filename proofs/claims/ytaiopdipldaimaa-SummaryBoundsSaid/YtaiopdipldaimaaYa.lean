/-
  Entries, and their cells; strings in their order.
-/
import Derived.Test.YtaiopdipldaimaaFl
import Derived.Test.YtaiopdipldaimaaYl
import Derived.Test.YtaiopdipldaimaaMem3
import Derived.Deep.CutRange
set_option linter.unusedVariables false
set_option linter.unusedSimpArgs false
namespace Go.Proofs.Ytaiopdipldaimaa
open Go.RowKit
abbrev bl (a b : List UInt8) : Bool := Op.bytesLess a b
theorem bl_irr : ∀ a : List UInt8, Op.bytesLess a a = false
  | [] => rfl
  | x :: a => by simp [Op.bytesLess, bl_irr a, UInt8.lt_irrefl]
theorem bl_tri : ∀ a b : List UInt8, Op.bytesLess a b = true ∨ a = b ∨ Op.bytesLess b a = true
  | [], [] => .inr (.inl rfl)
  | [], y :: b => .inl rfl
  | x :: a, [] => .inr (.inr rfl)
  | x :: a, y :: b => by
    rcases bl_tri a b with h | h | h
    · by_cases h1 : x < y
      · exact .inl (by simp [Op.bytesLess, h1])
      · by_cases h2 : y < x
        · exact .inr (.inr (by simp [Op.bytesLess, h2]))
        · have : x = y := UInt8.le_antisymm (UInt8.not_lt.1 h2) (UInt8.not_lt.1 h1)
          subst this
          exact .inl (by simp [Op.bytesLess, h])
    · subst h
      by_cases h1 : x < y
      · exact .inl (by simp [Op.bytesLess, h1])
      · by_cases h2 : y < x
        · exact .inr (.inr (by simp [Op.bytesLess, h2]))
        · have : x = y := UInt8.le_antisymm (UInt8.not_lt.1 h2) (UInt8.not_lt.1 h1)
          subst this
          exact .inr (.inl rfl)
    · by_cases h1 : x < y
      · exact .inl (by simp [Op.bytesLess, h1])
      · by_cases h2 : y < x
        · exact .inr (.inr (by simp [Op.bytesLess, h2]))
        · have : x = y := UInt8.le_antisymm (UInt8.not_lt.1 h2) (UInt8.not_lt.1 h1)
          subst this
          exact .inr (.inr (by simp [Op.bytesLess, h]))
theorem bl_tr : ∀ a b c : List UInt8, Op.bytesLess a b = true → Op.bytesLess b c = true → Op.bytesLess a c = true
  | [], _, [], _, h => by
    rename_i b _
    cases b <;> simp [Op.bytesLess] at h
  | [], _, z :: c, _, _ => rfl
  | x :: a, [], _, h, _ => by simp [Op.bytesLess] at h
  | x :: a, y :: b, [], _, h => by simp [Op.bytesLess] at h
  | x :: a, y :: b, z :: c, h1, h2 => by
    simp only [Op.bytesLess, Bool.or_eq_true, Bool.and_eq_true, decide_eq_true_eq, beq_iff_eq] at h1 h2 ⊢
    rcases h1 with h1 | ⟨rfl, h1⟩
    · rcases h2 with h2 | ⟨rfl, h2⟩
      · exact .inl (UInt8.lt_trans h1 h2)
      · exact .inl h1
    · rcases h2 with h2 | ⟨rfl, h2⟩
      · exact .inl h2
      · exact .inr ⟨rfl, bl_tr a b c h1 h2⟩
/-- a line -/
structure Ln where
  key : ByteArray
  lo : Int
  hi : Int
def lnC (x : Ln) : List Value := [.string x.key, .int .u64 x.lo, .int .u64 x.hi]
def lnCs (l : List Ln) : List Value := l.flatMap lnC
theorem lnCs_len (l : List Ln) : (lnCs l).length = l.length * 3 := Fl.len lnC 3 (fun _ => rfl) l
theorem lnCs_app (l m : List Ln) : lnCs (l ++ m) = lnCs l ++ lnCs m := List.flatMap_append
theorem lnCs_at {l : List Ln} {i : Nat} {x : Ln} (h : l[i]? = some x) : (lnCs l)[i * 3]? = some (.string x.key) ∧ (lnCs l)[i * 3 + 1]? = some (.int .u64 x.lo) ∧ (lnCs l)[i * 3 + 2]? = some (.int .u64 x.hi) :=
  ⟨Fl.get lnC 3 (fun _ => rfl) l i 0 x h (by omega), Fl.get lnC 3 (fun _ => rfl) l i 1 x h (by omega), Fl.get lnC 3 (fun _ => rfl) l i 2 x h (by omega)⟩
theorem lnCs_one (l : List Ln) : ∀ u ∈ lnCs l, u.oneCell' = true := by
  intro u hu
  unfold lnCs at hu
  rw [List.mem_flatMap] at hu
  obtain ⟨c, _, hu⟩ := hu
  simp [lnC] at hu
  rcases hu with rfl | rfl | rfl <;> rfl
theorem lnCs_set (l : List Ln) (i : Nat) (y : Ln) (hi : i < l.length) : (((lnCs l).set (i * 3) (.string y.key)).set (i * 3 + 1) (.int .u64 y.lo)).set (i * 3 + 2) (.int .u64 y.hi) = lnCs (l.set i y) :=
  Fl.sets_flat lnC 3 (fun _ => rfl) (by omega) l i y hi
theorem lnRd_len {w : World} {B n : Nat} {A : Option Addr} {l : List Ln} (h : Rd w B A 3 n (lnCs l)) : l.length = n := by
  have := h.1
  rw [lnCs_len] at this
  omega
theorem lnRd_at {w : World} {B n : Nat} {A : Option Addr} {l : List Ln} (h : Rd w B A 3 n (lnCs l)) {i : Nat} {x : Ln} (hx : l[i]? = some x) (hi : 0 < n) :
    ∃ b off, A = some ⟨b, off, none⟩ ∧ b < B ∧ (w.cell? ⟨b, off + i * 3, none⟩ = some (.string x.key) ∧ w.cell? ⟨b, off + i * 3 + 1, none⟩ = some (.int .u64 x.lo) ∧ w.cell? ⟨b, off + i * 3 + 2, none⟩ = some (.int .u64 x.hi)) := by
  obtain ⟨b, off, rfl, hb, hc⟩ := h.2 hi
  obtain ⟨g0, g1, g2⟩ := lnCs_at hx
  exact ⟨b, off, rfl, hb, hc _ _ g0, by rw [Nat.add_assoc]; exact hc _ _ g1, by rw [Nat.add_assoc]; exact hc _ _ g2⟩
theorem elemE : ElemOf Try.prog 42 99 3 32 := ElemOf.mk' (z := .agg #[.string ⟨#[]⟩, .int .u64 0, .int .u64 0]) Try.underlying42 (by kernel_rfl) rfl (by omega)
end Go.Proofs.Ytaiopdipldaimaa
