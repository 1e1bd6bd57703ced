/-
  Size classes whose counts are laid one after the other, plainly. No program in sight.
-/
import Derived.Test.YtaiopdipldaimaaCfq
set_option linter.unusedVariables false
set_option linter.unusedSimpArgs false
namespace Go.Proofs.Ytaiopdipldaimaa.Cfp

def putN (l : List (Int × Int)) (i : Nat) (z : Int) : List (Int × Int) := l.set i ((l.getD i (0, 0)).1, z)
def fillN (l : List (Int × Int)) (zs : List Int) : Nat → List (Int × Int)
  | 0 => l
  | k + 1 => putN (fillN l zs k) k (zs.getD k 0)
theorem putN_len (l : List (Int × Int)) (i : Nat) (z : Int) : (putN l i z).length = l.length := by simp [putN]
theorem fillN_len (l : List (Int × Int)) (zs : List Int) (k : Nat) : (fillN l zs k).length = l.length := by
  induction k with
  | zero => rfl
  | succ k ih => rw [fillN, putN_len, ih]
theorem putN_fst (l : List (Int × Int)) (i : Nat) (z : Int) : (putN l i z).map Prod.fst = l.map Prod.fst := by
  refine List.ext_getElem? fun j => ?_
  unfold putN
  rw [List.getElem?_map, List.getElem?_map, List.getElem?_set]
  by_cases h : i = j
  · subst h
    by_cases h2 : i < l.length
    · simp [h2, List.getD]
    · simp [h2]
  · simp [h]
theorem fillN_fst (l : List (Int × Int)) (zs : List Int) (k : Nat) : (fillN l zs k).map Prod.fst = l.map Prod.fst := by
  induction k with
  | zero => rfl
  | succ k ih => rw [fillN, putN_fst, ih]
theorem fit_fst {l l' : List (Int × Int)} (h : l.map Prod.fst = l'.map Prod.fst) (s : Int) : fit l s = fit l' s := by
  have h1 : ∀ m : List (Int × Int), fit m s = (m.map Prod.fst).findIdx (fun a => decide (s ≤ a)) := fun m => by
    unfold fit; rw [List.findIdx_map]; rfl
  rw [h1, h1, h]
theorem demand_fst {l l' : List (Int × Int)} (h : l.map Prod.fst = l'.map Prod.fst) (c : Cfg) : demand0 c l = demand0 c l' := by
  have hl : l.length = l'.length := by have := congrArg List.length h; simpa using this
  unfold demand0
  rw [fit_fst h, fit_fst h, fit_fst h, fit_fst h, hl]
theorem demand0_len (c : Cfg) (l : List (Int × Int)) : (demand0 c l).length = l.length := by
  unfold demand0; rw [keysD_len, addAt_len, addAt_len, addAt_len]; simp
/-- all counts are laid -/
theorem fillN_snd (l : List (Int × Int)) (zs : List Int) (k j : Nat) (hj : j < k) (hk : k ≤ l.length) : ((fillN l zs k).getD j (0, 0)).2 = zs.getD j 0 := by
  induction k with
  | zero => omega
  | succ k ih =>
    have hl := fillN_len l zs k
    rw [fillN]
    unfold putN
    by_cases h : j = k
    · subst h
      simp [List.getD, List.getElem?_set, hl]
      rw [if_pos (by omega)]
      simp
    · have := ih (by omega) (by omega)
      have hne : ¬ k = j := fun e => h e.symm
      simp only [List.getD, List.getElem?_set, if_neg hne] at this ⊢
      exact this
theorem fillN_all (l : List (Int × Int)) (zs : List Int) (hz : zs.length = l.length) : (fillN l zs l.length).map Prod.snd = zs := by
  refine List.ext_getElem (by simp [fillN_len, hz]) fun j h1 h2 => ?_
  have h3 : j < l.length := by rw [← hz]; exact h2
  have := fillN_snd l zs l.length j h3 (Nat.le_refl _)
  have h4 : j < (fillN l zs l.length).length := by rw [fillN_len]; exact h3
  simp [List.getD, h4, h2] at this
  simpa using this
end Go.Proofs.Ytaiopdipldaimaa.Cfp
