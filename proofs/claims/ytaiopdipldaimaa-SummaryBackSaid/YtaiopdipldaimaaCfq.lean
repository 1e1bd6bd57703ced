/-
  More on the numbers of slots that a configuration needs, plainly. No program in sight.
-/
import Derived.Test.YtaiopdipldaimaaCfp
set_option linter.unusedVariables false
set_option linter.unusedSimpArgs false
namespace Go.Proofs.Ytaiopdipldaimaa.Cfp


theorem addAt_get (o : List Int) (i : Nat) (n : Int) (j : Nat) (hj : j < o.length) : (addAt o i n).getD j 0 = o.getD j 0 + if j = i then n else 0 := by
  unfold addAt
  by_cases h : j = i
  · subst h; simp [List.getD, hj]
  · simp [List.getD, List.getElem?_set, h, Ne.symm h, fun e : i = j => h e.symm]
theorem keysD_get (o : List Int) (t : Int) (i : Nat) (j : Nat) (hj : j < o.length) : (keysD o t i).getD j 0 = o.getD j 0 + if j < i then t else 0 := by
  induction i with
  | zero => simp [keysD]
  | succ i ih =>
    rw [keysD, addAt_get _ _ _ _ (by rw [keysD_len]; exact hj), ih]
    by_cases h1 : j < i
    · rw [if_pos h1, if_neg (by omega), if_pos (by omega)]; omega
    · by_cases h2 : j = i
      · rw [if_neg h1, if_pos h2, if_pos (by omega)]; omega
      · rw [if_neg h1, if_neg h2, if_neg (by omega)]; omega
/-- all numbers lie from 0 to M -/
def Bnd (o : List Int) (M : Int) : Prop := ∀ j, j < o.length → 0 ≤ o.getD j 0 ∧ o.getD j 0 ≤ M
theorem Bnd.zero (n : Nat) : Bnd (List.replicate n 0) 0 := fun j hj => by simp [List.getD] at hj ⊢; simp [List.getElem?_replicate]; split <;> simp
theorem Bnd.add {o : List Int} {M x N : Int} (h : Bnd o M) (i : Nat) (h0 : 0 ≤ x) (h1 : x ≤ N) : Bnd (addAt o i x) (M + N) := fun j hj => by
  rw [addAt_len] at hj
  have := h j hj
  rw [addAt_get _ _ _ _ hj]
  split <;> omega
theorem Bnd.keys {o : List Int} {M x N : Int} (h : Bnd o M) (i : Nat) (h0 : 0 ≤ x) (h1 : x ≤ N) : Bnd (keysD o x i) (M + N) := fun j hj => by
  rw [keysD_len] at hj
  have := h j hj
  rw [keysD_get _ _ _ _ hj]
  split <;> omega
/-- how many classes have been given their keys before size q -/
def upto (l : List (Int × Int)) (q : Nat) : Nat := if q ≤ 1 then 0 else fit l ((q - 1 : Nat) : Int) + 1
theorem upto_step (l : List (Int × Int)) (h0 : 0 < l.length) (p : Int) (ha : Asc p l) (hb : ∀ c ∈ l, 1 ≤ c.1) (q : Nat) (hq : 1 ≤ q) (hf : fit l (q : Int) < l.length) :
    upto l (q + 1) = fit l (q : Int) + 1 ∧ (fit l (q : Int) + 1 = upto l q ∨ fit l (q : Int) = upto l q) := by
  refine ⟨by unfold upto; rw [if_neg (by omega)]; simp, ?_⟩
  unfold upto
  by_cases h1 : q ≤ 1
  · obtain rfl : q = 1 := by omega
    right
    rw [if_pos (by omega)]
    exact fit_one l h0 hb
  · rw [if_neg h1]
    have := fit_step l p ha ((q - 1 : Nat) : Int) (by rw [show (((q - 1 : Nat) : Int) + 1) = (q : Int) from by omega]; exact hf)
    rw [show (((q - 1 : Nat) : Int) + 1) = (q : Int) from by omega] at this
    omega
end Go.Proofs.Ytaiopdipldaimaa.Cfp
