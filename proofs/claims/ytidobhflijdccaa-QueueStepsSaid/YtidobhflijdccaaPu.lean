/-
  The users of a pool's numbers, plain. No conditions beyond those of the statement.
-/
import Derived.Test.YtidobhflijdccaaPl
set_option linter.unusedVariables false
set_option linter.unusedSimpArgs false
namespace Go.Proofs.Ytidobhflijdccaa
open Go.RowKit Cfp
/-- the users of a number -/
def usAt (E : List PE) (j : Nat) : Int := (E.getD j PE.zero).users
theorem usAt_get {E : List PE} {j : Nat} {x : PE} (h : E[j]? = some x) : usAt E j = x.users := by simp [usAt, List.getD, h]
theorem usAt_has {E : List PE} {j : Nat} (h : 0 < usAt E j) : ∃ x, E[j]? = some x ∧ 0 < x.users := by
  rcases hx : E[j]? with _ | x
  · simp [usAt, List.getD, hx, PE.zero] at h
  · exact ⟨x, rfl, by rw [usAt_get hx] at h; exact h⟩
theorem usAt_set {E : List PE} {id j : Nat} {x : PE} (h : E[id]? = some x) (y : PE) : usAt (E.set id y) j = if j = id then y.users else usAt E j := by
  have hi := (List.getElem?_eq_some_iff.1 h).1
  by_cases e : j = id
  · subst e
    simp [usAt, List.getD, hi]
  · simp [usAt, List.getD, List.getElem?_set, show ¬ id = j from fun q => e q.symm]
    simp [e]
theorem usAt_app (E : List PE) (j : Nat) : usAt (E ++ [PE.zero]) j = usAt E j := by
  unfold usAt
  congr 1
  rw [List.getD, List.getD, List.getElem?_append]
  split
  · rfl
  · next h =>
    rw [List.getElem?_eq_none (by omega : E.length ≤ j)]
    rcases hq : j - E.length with _ | q <;> simp
theorem cntU_zero : ∀ (E : List PE), (∀ j, usAt E j = 0) → cntU E = 0
  | [], _ => rfl
  | e :: l, h => by
    have h0 := h 0
    have h1 := cntU_zero l (fun j => by have := h (j + 1); simpa [usAt, List.getD] using this)
    simp [usAt, List.getD] at h0
    simp [cntU, h0, h1]
/-- all users together -/
def sumU : List PE → Int
  | [] => 0
  | e :: l => e.users + sumU l
theorem sumU_set : ∀ (l : List PE) (k : Nat) (x y : PE), l[k]? = some x → sumU (l.set k y) = sumU l - x.users + y.users
  | [], _, _, _, h => by simp at h
  | z :: l, 0, x, y, h => by
    simp at h
    subst h
    simp only [List.set_cons_zero, sumU]
    omega
  | z :: l, k + 1, x, y, h => by
    simp only [List.set_cons_succ, sumU]
    rw [sumU_set l k x y (by simpa using h)]
    omega
theorem sumU_app (E : List PE) : sumU (E ++ [PE.zero]) = sumU E := by
  induction E with
  | nil => rfl
  | cons x l ih => simp only [List.cons_append, sumU, ih]
theorem cntU_sum : ∀ (l : List PE), (∀ e ∈ l, 0 ≤ e.users) → (cntU l : Int) ≤ sumU l
  | [], _ => by simp [cntU, sumU]
  | e :: l, h => by
    have h0 := h e (List.mem_cons_self ..)
    have h1 := cntU_sum l (fun x hx => h x (List.mem_cons_of_mem _ hx))
    simp only [cntU, sumU]
    split <;> (push_cast; omega)
/-- the class for a size, by the classes' sizes -/
def fitS (sh : List (Int × Int)) (size : Int) : Nat := sh.findIdx (fun c => decide (size ≤ c.1))
theorem fitS_K (s : Ar) (size : Int) : fitK s.cls size = fitS (shapeA s) size := by
  unfold fitK fitS shapeA
  rw [List.findIdx_map]
  rfl
/-- how many keys in use have their slots in class i -/
def cntF (sh : List (Int × Int)) (i : Nat) : List PE → Nat
  | [] => 0
  | e :: l => (if 0 < e.users ∧ fitS sh e.key.length = i then 1 else 0) + cntF sh i l
theorem cntF_set (sh : List (Int × Int)) (i : Nat) : ∀ (l : List PE) (k : Nat) (x y : PE), l[k]? = some x →
    cntF sh i (l.set k y) + (if 0 < x.users ∧ fitS sh x.key.length = i then 1 else 0) = cntF sh i l + (if 0 < y.users ∧ fitS sh y.key.length = i then 1 else 0)
  | [], _, _, _, h => by simp at h
  | z :: l, 0, x, y, h => by
    simp at h
    subst h
    simp only [List.set_cons_zero, cntF]
    omega
  | z :: l, k + 1, x, y, h => by
    have := cntF_set sh i l k x y (by simpa using h)
    simp only [List.set_cons_succ, cntF]
    omega
theorem cntF_app (sh : List (Int × Int)) (i : Nat) (E : List PE) : cntF sh i (E ++ [PE.zero]) = cntF sh i E := by
  induction E with
  | nil => simp [cntF, PE.zero]
  | cons x l ih => simp only [List.cons_append, cntF, ih]
theorem cntF_le (sh : List (Int × Int)) (i : Nat) : ∀ E : List PE, cntF sh i E ≤ cntU E
  | [] => Nat.le_refl _
  | e :: l => by
    have := cntF_le sh i l
    simp only [cntF, cntU]
    by_cases h : 0 < e.users
    · rw [if_pos h]; split <;> omega
    · rw [if_neg (fun q => h q.1), if_neg h]; omega
theorem lives_up {l l' : List Int} {i : Nat} {d : Int} (h : l' = l.set i (l.getD i 0 + d)) (hi : i < l.length) (j : Nat) : l'.getD j 0 = l.getD j 0 + if j = i then d else 0 := by
  subst h
  by_cases e : j = i
  · subst e
    simp [List.getD, hi]
  · simp [List.getD, List.getElem?_set, show ¬ i = j from fun q => e q.symm, e]
end Go.Proofs.Ytidobhflijdccaa
