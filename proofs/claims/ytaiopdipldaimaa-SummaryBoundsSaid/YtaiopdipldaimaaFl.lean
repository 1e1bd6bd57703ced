/-
  Lists of structs as lists of cells.
-/
import Derived.Test.YtaiopdipldaimaaBase
set_option linter.unusedVariables false
set_option linter.unusedSimpArgs false
namespace Go.Proofs.Ytaiopdipldaimaa.Fl
open Go.RowKit
section flat
variable {α : Type} (f : α → List Value) (m : Nat) (hf : ∀ x, (f x).length = m)
include hf
theorem len (l : List α) : (l.flatMap f).length = l.length * m := by
  induction l with
  | nil => simp
  | cons x l ih => rw [List.flatMap_cons, List.length_append, hf, ih, List.length_cons, Nat.add_mul]; omega
theorem get : ∀ (l : List α) (i k : Nat) (x : α), l[i]? = some x → k < m → (l.flatMap f)[i * m + k]? = (f x)[k]?
  | [], _, _, _, h, _ => by simp at h
  | y :: l, 0, k, x, h, hk => by
    simp at h
    subst h
    rw [List.flatMap_cons, Nat.zero_mul, Nat.zero_add, List.getElem?_append_left (by rw [hf]; exact hk)]
  | y :: l, i + 1, k, x, h, hk => by
    rw [List.flatMap_cons, List.getElem?_append_right (by rw [hf, Nat.add_mul]; omega), hf]
    have := get l i k x (by simpa using h) hk
    rw [← this]
    congr 1
    rw [Nat.add_mul]; omega
theorem at_ (hm : 0 < m) : ∀ (l : List α) (q : Nat), (l.flatMap f)[q]? = (l[q / m]?).bind (fun x => (f x)[q % m]?)
  | [], q => by simp
  | x :: l, q => by
    rw [List.flatMap_cons]
    by_cases h : q < m
    · rw [List.getElem?_append_left (by rw [hf]; exact h), Nat.div_eq_of_lt h, Nat.mod_eq_of_lt h]
      simp
    · rw [List.getElem?_append_right (by rw [hf]; omega), hf, at_ hm l (q - m), Nat.mod_eq_sub_mod (by omega : q ≥ m), Nat.div_eq_sub_div hm (by omega : m ≤ q)]
      simp
theorem take (l : List α) (k : Nat) : (l.take k).flatMap f = (l.flatMap f).take (k * m) := by
  rcases Nat.lt_or_ge k l.length with h | h
  · have e : l.flatMap f = (l.take k).flatMap f ++ (l.drop k).flatMap f := by rw [← List.flatMap_append, List.take_append_drop]
    rw [e, List.take_left' (by rw [len f m hf, List.length_take]; congr 1; omega)]
  · rw [List.take_of_length_le h, List.take_of_length_le (by rw [len f m hf]; exact Nat.mul_le_mul_right _ h)]
theorem drop (l : List α) (k : Nat) : (l.drop k).flatMap f = (l.flatMap f).drop (k * m) := by
  rcases Nat.lt_or_ge k l.length with h | h
  · have e : l.flatMap f = (l.take k).flatMap f ++ (l.drop k).flatMap f := by rw [← List.flatMap_append, List.take_append_drop]
    rw [e, List.drop_left' (by rw [len f m hf, List.length_take]; congr 1; omega)]
  · rw [List.drop_of_length_le h, List.drop_of_length_le (by rw [len f m hf]; exact Nat.mul_le_mul_right _ h)]
    rfl
end flat
/-- the cells from o on are others -/
def sets : List Value → Nat → List Value → List Value
  | xs, _, [] => xs
  | xs, o, v :: vs => sets (xs.set o v) (o + 1) vs
theorem sets_get : ∀ (vs xs : List Value) (o q : Nat), (sets xs o vs)[q]? = if o ≤ q ∧ q < o + vs.length ∧ q < xs.length then vs[q - o]? else xs[q]?
  | [], xs, o, q => by simp [sets]; omega
  | v :: vs, xs, o, q => by
    rw [sets, sets_get vs (xs.set o v) (o + 1) q, List.length_set, List.length_cons]
    by_cases h1 : o + 1 ≤ q ∧ q < o + 1 + vs.length ∧ q < xs.length
    · rw [if_pos h1, if_pos (by omega), show q - o = (q - (o + 1)) + 1 by omega, List.getElem?_cons_succ]
    · rw [if_neg h1]
      by_cases h2 : o = q
      · subst h2
        by_cases h3 : o < xs.length
        · rw [if_pos (by omega)]; simp [h3]
        · rw [if_neg (by omega)]; simp [h3]
      · rw [if_neg (by omega), List.getElem?_set, if_neg h2]
theorem sets_flat {α : Type} (f : α → List Value) (m : Nat) (hf : ∀ x, (f x).length = m) (hm : 0 < m) (l : List α) (i : Nat) (y : α) (hi : i < l.length) : sets (l.flatMap f) (i * m) (f y) = (l.set i y).flatMap f := by
  refine List.ext_getElem? fun q => ?_
  have hd := Nat.div_add_mod q m
  have hml := Nat.mod_lt q hm
  rw [sets_get, at_ f m hf hm, at_ f m hf hm, List.getElem?_set, hf, len f m hf]
  by_cases e : i = q / m
  · subst e
    have hc : q / m * m = m * (q / m) := Nat.mul_comm _ _
    have h2 : q / m * m ≤ q ∧ q < q / m * m + m := by omega
    have h3 : q < l.length * m := by
      have : (q / m + 1) * m ≤ l.length * m := Nat.mul_le_mul_right _ hi
      rw [Nat.add_mul] at this
      omega
    rw [if_pos ⟨h2.1, h2.2, h3⟩, if_pos rfl, if_pos hi]
    show _ = (f y)[q % m]?
    congr 1
    omega
  · rw [if_neg (show ¬ i = q / m from e), if_neg]
    rintro ⟨h1, h2, _⟩
    refine e ?_
    have : q / m = i := by
      rw [Nat.div_eq_of_lt_le]
      · exact h1
      · rw [Nat.add_mul]; omega
    exact this.symm
end Go.Proofs.Ytaiopdipldaimaa.Fl
