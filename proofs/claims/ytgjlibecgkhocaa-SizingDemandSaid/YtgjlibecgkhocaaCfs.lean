/-
  The sizes that a valid configuration allocates, one after the other, give its demand, plainly. No program in sight.
-/
import Derived.Test.YtgjlibecgkhocaaCfr
set_option linter.unusedVariables false
set_option linter.unusedSimpArgs false
namespace Go.Proofs.Ytgjlibecgkhocaa.Cfp

/-- so many slots more for the first class that is large enough -/
def give (l : List (Int × Int)) (o : List Int) (x : Int × Int) : List Int := addAt o (fit l x.1) x.2
/-- the sizes of keys, each with the number of slots -/
def keysL (key t : Int) : Int → List (Int × Int) → List (Int × Int)
  | _, [] => []
  | least, x :: l => if key < least then [] else (least, t) :: keysL key t (x.1 + 1) l
def least (l : List (Int × Int)) (i : Nat) : Int := if i = 0 then 1 else (l.getD (i - 1) (0, 0)).1 + 1
theorem least_fit (l : List (Int × Int)) (p : Int) (ha : Asc p l) (hb : ∀ c ∈ l, 1 ≤ c.1) (i : Nat) (hi : i < l.length) : fit l (least l i) = i := by
  refine fit_eq l _ i hi ?_ ?_
  · unfold least
    split
    · exact hb _ (List.getElem_mem _)
    · have := asc_lt l p ha (i - 1) i (by omega) hi (by omega)
      simp only [List.getD, List.getElem?_eq_getElem (show i - 1 < l.length by omega), Option.getD_some]
      omega
  · intro j hj
    unfold least
    rw [if_neg (by omega)]
    simp only [List.getD, List.getElem?_eq_getElem (show i - 1 < l.length by omega), Option.getD_some]
    rcases Nat.lt_or_ge j (i - 1) with h | h
    · have := asc_lt l p ha j (i - 1) (by omega) (by omega) h
      omega
    · obtain rfl : j = i - 1 := by omega
      omega
theorem keys_fold (l : List (Int × Int)) (p : Int) (ha : Asc p l) (hb : ∀ c ∈ l, 1 ≤ c.1) (o : List Int) (key t : Int) (hk : 1 ≤ key) (hf : fit l key < l.length) :
    ∀ (m i : Nat), l.length - i = m → i ≤ l.length → i ≤ fit l key + 1 → (keysL key t (least l i) (l.drop i)).foldl (give l) (keysD o t i) = keysD o t (fit l key + 1)
  | 0, i, hm, hi, hj => by
    obtain rfl : i = l.length := by omega
    rw [List.drop_length, show l.length = fit l key + 1 from by omega]
    rfl
  | m + 1, i, hm, hi, hj => by
    have hil : i < l.length := by omega
    rw [List.drop_eq_getElem_cons hil]
    unfold keysL
    have hfk := fit_at l key hf
    by_cases hlt : key < least l i
    · rw [if_pos hlt]
      have h0 : i ≠ 0 := by rintro rfl; unfold least at hlt; simp at hlt; omega
      unfold least at hlt
      rw [if_neg h0] at hlt
      simp only [List.getD, List.getElem?_eq_getElem (show i - 1 < l.length by omega), Option.getD_some] at hlt
      have : fit l key ≤ i - 1 := by
        rcases Nat.lt_or_ge (i - 1) (fit l key) with h | h
        · have := fit_spec l key (i - 1) h (by omega)
          omega
        · exact h
      rw [show i = fit l key + 1 from by omega]
      rfl
    · rw [if_neg hlt, List.foldl_cons]
      have e1 : give l (keysD o t i) (least l i, t) = keysD o t (i + 1) := by
        unfold give
        rw [least_fit l p ha hb i hil]
        rfl
      have e2 : (l[i].1 + 1 : Int) = least l (i + 1) := by
        unfold least
        rw [if_neg (by omega)]
        simp [List.getD, hil]
      rw [e1, e2]
      refine keys_fold l p ha hb o key t hk hf m (i + 1) (by omega) (by omega) ?_
      rcases Nat.lt_or_ge (fit l key) i with h | h
      · exfalso
        have h0 : i ≠ 0 := by omega
        unfold least at hlt
        rw [if_neg h0] at hlt
        simp only [List.getD, List.getElem?_eq_getElem (show i - 1 < l.length by omega), Option.getD_some] at hlt
        rcases Nat.lt_or_ge (fit l key) (i - 1) with h2 | h2
        · have := asc_lt l p ha (fit l key) (i - 1) (by omega) (by omega) h2
          omega
        · have e : i - 1 = fit l key := by omega
          have : l[i - 1].1 = l[fit l key].1 := by simp only [e]
          omega
      · omega
/-- all sizes that are allocated -/
def needs (c : Cfg) (l : List (Int × Int)) : List (Int × Int) :=
  (8 * c.width, c.shards * c.windows * c.depth) :: (32, tracked0 c) :: (24, c.shards * c.queue) :: keysL c.key (tracked0 c + c.shards * c.queue) 1 l
theorem needs_fold (c : Cfg) (l : List (Int × Int)) (p : Int) (ha : Asc p l) (hb : ∀ c ∈ l, 1 ≤ c.1) (hk : 1 ≤ c.key) (hf : fit l c.key < l.length) :
    (needs c l).foldl (give l) (List.replicate l.length 0) = demand0 c l := by
  unfold needs demand0
  simp only [List.foldl_cons]
  have := keys_fold l p ha hb (give l (give l (give l (List.replicate l.length 0) (8 * c.width, c.shards * c.windows * c.depth)) (32, tracked0 c)) (24, c.shards * c.queue)) c.key (tracked0 c + c.shards * c.queue) hk hf l.length 0 rfl (by omega) (by omega)
  exact this
theorem demand_get (c : Cfg) (l : List (Int × Int)) (j : Nat) (hj : j < l.length) :
    (demand0 c l).getD j 0 = (if j = fit l (8 * c.width) then c.shards * c.windows * c.depth else 0) + (if j = fit l 32 then tracked0 c else 0) + (if j = fit l 24 then c.shards * c.queue else 0) +
      (if j < fit l c.key + 1 then tracked0 c + c.shards * c.queue else 0) := by
  unfold demand0
  rw [keysD_get _ _ _ _ (by rw [addAt_len, addAt_len, addAt_len]; simpa using hj), addAt_get _ _ _ _ (by rw [addAt_len, addAt_len]; simpa using hj), addAt_get _ _ _ _ (by rw [addAt_len]; simpa using hj), addAt_get _ _ _ _ (by simpa using hj)]
  have : (List.replicate l.length (0 : Int)).getD j 0 = 0 := by simp [List.getD, List.getElem?_replicate, hj]
  rw [this]
  omega
/-- more of anything never needs fewer slots -/
theorem demand_mono (c d : Cfg) (l : List (Int × Int)) (hw : d.width = c.width) (hk : d.key = c.key) (h1 : c.shards * c.windows * c.depth ≤ d.shards * d.windows * d.depth) (h2 : tracked0 c ≤ tracked0 d) (h3 : c.shards * c.queue ≤ d.shards * d.queue)
    (j : Nat) (hj : j < l.length) : (demand0 c l).getD j 0 ≤ (demand0 d l).getD j 0 := by
  rw [demand_get c l j hj, demand_get d l j hj, hw, hk]
  split <;> split <;> split <;> split <;> omega
end Go.Proofs.Ytgjlibecgkhocaa.Cfp
