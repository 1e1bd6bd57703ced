/-
  Sketches of counters, plainly: the least counter of a key, an addition, and what follows for estimates. No program in sight.
-/
import Derived.Test.YtaiopdipldaimaaHash
set_option linter.unusedVariables false
set_option linter.unusedSimpArgs false
namespace Go.Proofs.Ytaiopdipldaimaa.Cmp

abbrev Rows := List (List Int)
def big : Int := 18446744073709551615
/-- the place of a key among the n counters of row i -/
def pos (t : List Int) (seed : Int) (k : List UInt8) (n i : Nat) : Nat := (Hash.slot (Hash.key t (Hash.rowSeed seed i) k) n).toNat
theorem pos_lt (t : List Int) (seed : Int) (k : List UInt8) (n i : Nat) (h : 0 < n) : pos t seed k n i < n := by
  unfold pos Hash.slot
  rw [if_neg (by omega)]
  have h1 := Int.emod_lt_of_pos (Hash.key t (Hash.rowSeed seed i) k) (show (0 : Int) < n by omega)
  have h2 := Int.emod_nonneg (Hash.key t (Hash.rowSeed seed i) k) (show (n : Int) ≠ 0 by omega)
  omega
def cell (R : Rows) (i j : Nat) : Int := (R.getD i []).getD j 0
/-- what row i says of a key -/
def val (R : Rows) (t : List Int) (seed : Int) (k : List UInt8) (i : Nat) : Int := if (R.getD i []).length = 0 then 0 else cell R i (pos t seed k (R.getD i []).length i)
/-- the least of the first d rows -/
def least (R : Rows) (t : List Int) (seed : Int) (k : List UInt8) : Nat → Int
  | 0 => big
  | i + 1 => min (least R t seed k i) (val R t seed k i)
def put (R : Rows) (i j : Nat) (v : Int) : Rows := R.set i ((R.getD i []).set j v)
/-- the first i rows raised to v -/
def raise (R : Rows) (t : List Int) (seed : Int) (k : List UInt8) (v : Int) : Nat → Rows
  | 0 => R
  | i + 1 => put (raise R t seed k v i) i (pos t seed k (R.getD i []).length i) (max (val R t seed k i) v)
/-- d rows of n counters, all of them from 0 to a total -/
def Fine (R : Rows) (d n : Nat) (total : Int) : Prop := R.length = d ∧ (∀ i, i < d → (R.getD i []).length = n) ∧ ∀ i j, 0 ≤ cell R i j ∧ cell R i j ≤ total

theorem put_len (R : Rows) (i j : Nat) (v : Int) : (put R i j v).length = R.length := by simp [put]
theorem put_row (R : Rows) (i j : Nat) (v : Int) (m : Nat) : (put R i j v).getD m [] = if m = i ∧ i < R.length then (R.getD i []).set j v else R.getD m [] := by
  unfold put
  simp only [List.getD, List.getElem?_set]
  by_cases h : i = m
  · subst h
    by_cases h2 : i < R.length <;> simp [h2]
  · rw [if_neg h, if_neg (fun hh => h hh.1.symm)]
theorem put_cell (R : Rows) (i j : Nat) (v : Int) (a b : Nat) : cell (put R i j v) a b = if a = i ∧ i < R.length ∧ b = j ∧ j < (R.getD i []).length then v else cell R a b := by
  unfold cell
  rw [put_row]
  by_cases h : a = i ∧ i < R.length
  · rw [if_pos h]
    obtain ⟨rfl, h2⟩ := h
    simp only [List.getD, List.getElem?_set]
    by_cases h3 : j = b
    · subst h3
      by_cases h4 : j < (R[a]?.getD []).length
      · have h5 : j < R[a].length := by simpa [h2] using h4
        simp [h5, h2]
      · have h5 : ¬ j < R[a].length := by simpa [h2] using h4
        simp [h5, h2, List.getElem?_eq_none (Nat.not_lt.1 h5)]
    · rw [if_neg h3, if_neg (fun hh => h3 hh.2.2.1.symm)]
  · rw [if_neg h, if_neg (fun hh => h ⟨hh.1, hh.2.1⟩)]

section
variable {R : Rows} {t : List Int} {seed : Int} {k : List UInt8} {v : Int}
theorem raise_len (i : Nat) : (raise R t seed k v i).length = R.length := by
  induction i with
  | zero => rfl
  | succ i ih => rw [raise, put_len, ih]
theorem raise_row_ge (i m : Nat) (h : i ≤ m) : (raise R t seed k v i).getD m [] = R.getD m [] := by
  induction i with
  | zero => rfl
  | succ i ih => rw [raise, put_row, if_neg (by omega), ih (by omega)]
theorem raise_row_len (i m : Nat) : ((raise R t seed k v i).getD m []).length = (R.getD m []).length := by
  induction i with
  | zero => rfl
  | succ i ih =>
    rw [raise, put_row]
    split
    · rename_i h
      rw [List.length_set, raise_row_ge i i (Nat.le_refl _), h.1]
    · exact ih
/-- the counters behind an addition -/
theorem raise_cell (d n i : Nat) (hR : R.length = d) (hn : ∀ i, i < d → (R.getD i []).length = n) (h0 : 0 < n) (hi : i ≤ d) (a b : Nat) :
    cell (raise R t seed k v i) a b = if a < i ∧ b = pos t seed k n a then max (val R t seed k a) v else cell R a b := by
  induction i with
  | zero => rw [if_neg (by omega)]; rfl
  | succ i ih =>
    rw [raise, put_cell, raise_len, raise_row_ge i i (Nat.le_refl _), hn i (by omega), ih (by omega)]
    have hp := pos_lt t seed k n i h0
    by_cases h1 : a = i ∧ b = pos t seed k n i
    · obtain ⟨rfl, rfl⟩ := h1
      rw [if_pos ⟨rfl, by omega, rfl, hp⟩, if_pos ⟨by omega, rfl⟩]
    · rw [if_neg (fun hh => h1 ⟨hh.1, hh.2.2.1⟩)]
      by_cases h2 : a < i ∧ b = pos t seed k n a
      · rw [if_pos h2, if_pos ⟨by omega, h2.2⟩]
      · rw [if_neg h2]
        by_cases h3 : a < i + 1 ∧ b = pos t seed k n a
        · exfalso
          have : a = i := by
            by_cases h4 : a < i
            · exact absurd ⟨h4, h3.2⟩ h2
            · omega
          subst this
          exact h1 ⟨rfl, h3.2⟩
        · rw [if_neg h3]
theorem val_of (d n : Nat) (hn : ∀ i, i < d → (R.getD i []).length = n) (h0 : 0 < n) (i : Nat) (hi : i < d) : val R t seed k i = cell R i (pos t seed k n i) := by
  unfold val; rw [hn i hi, if_neg (by omega)]
theorem least_le (d : Nat) (i : Nat) (hi : i < d) : least R t seed k d ≤ val R t seed k i := by
  induction d with
  | zero => omega
  | succ d ih =>
    rw [least]
    by_cases h : i = d
    · subst h; omega
    · have := ih (by omega); omega
theorem least_ge (d : Nat) (x : Int) (hx : x ≤ big) (h : ∀ i, i < d → x ≤ val R t seed k i) : x ≤ least R t seed k d := by
  induction d with
  | zero => exact hx
  | succ d ih =>
    rw [least]
    have := ih (fun i hi => h i (by omega))
    have := h d (by omega)
    omega
theorem least_big (d : Nat) : least R t seed k d ≤ big := by
  induction d with
  | zero => exact Int.le_refl _
  | succ d ih => rw [least]; omega
theorem least_bd {d n : Nat} {total : Int} (h : Fine R d n total) (h0 : 0 < n) (hd : 0 < d) : 0 ≤ least R t seed k d ∧ least R t seed k d ≤ total := by
  obtain ⟨h1, h2, h3⟩ := h
  constructor
  · refine least_ge d 0 (by unfold big; omega) (fun i hi => ?_)
    rw [val_of d n h2 h0 i hi]; exact (h3 _ _).1
  · refine Int.le_trans (least_le d 0 hd) ?_
    rw [val_of d n h2 h0 0 hd]; exact (h3 _ _).2
theorem fine_raise {d n : Nat} {total w : Int} (h : Fine R d n total) (h0 : 0 < n) (hd : 0 < d) (hw : 0 ≤ w) (i : Nat) (hi : i ≤ d) :
    Fine (raise R t seed k (least R t seed k d + w) i) d n (total + w) := by
  have hl := least_bd (t := t) (seed := seed) (k := k) h h0 hd
  obtain ⟨h1, h2, h3⟩ := h
  refine ⟨by rw [raise_len, h1], fun j hj => by rw [raise_row_len, h2 j hj], fun a b => ?_⟩
  rw [raise_cell d n i h1 h2 h0 hi]
  split
  · rename_i hh
    rw [val_of d n h2 h0 a (by omega)]
    have := h3 a (pos t seed k n a)
    omega
  · have := h3 a b; omega
/-- an addition lowers no counter -/
theorem raise_ge (d n : Nat) (hR : R.length = d) (hn : ∀ i, i < d → (R.getD i []).length = n) (h0 : 0 < n) (a b : Nat) (ha : a < d) : cell R a b ≤ cell (raise R t seed k v d) a b := by
  rw [raise_cell d n d hR hn h0 (Nat.le_refl _)]
  split
  · rename_i hh
    rw [val_of d n hn h0 a ha, hh.2]; omega
  · exact Int.le_refl _
end

/-- every key's weight is at most each of its counters -/
def Over (R : Rows) (t : List Int) (seed : Int) (d n : Nat) (f : List UInt8 → Int) : Prop := ∀ key i, i < d → f key ≤ cell R i (pos t seed key n i)
theorem over_raise {R : Rows} {t : List Int} {seed : Int} {d n : Nat} {f : List UInt8 → Int} {total w : Int} {k : List UInt8} (h : Fine R d n total) (h0 : 0 < n) (hd : 0 < d) (hw : 0 ≤ w) (hb : total ≤ big)
    (ho : Over R t seed d n f) : Over (raise R t seed k (least R t seed k d + w) d) t seed d n (fun key => if key = k then f key + w else f key) := by
  intro key i hi
  obtain ⟨h1, h2, h3⟩ := h
  show (if key = k then f key + w else f key) ≤ _
  split
  · rename_i he
    subst he
    rw [raise_cell d n d h1 h2 h0 (Nat.le_refl _), if_pos ⟨hi, rfl⟩]
    have hfb : f key ≤ big := Int.le_trans (ho key 0 hd) (Int.le_trans (h3 _ _).2 hb)
    have : f key ≤ least R t seed key d := least_ge d _ hfb (fun j hj => by rw [val_of d n h2 h0 j hj]; exact ho key j hj)
    omega
  · exact Int.le_trans (ho key i hi) (raise_ge d n h1 h2 h0 i _ hi)
/-- a weight is at most the estimate -/
theorem over_least {R : Rows} {t : List Int} {seed : Int} {d n : Nat} {f : List UInt8 → Int} {total : Int} (h : Fine R d n total) (h0 : 0 < n) (hd : 0 < d) (hb : total ≤ big) (ho : Over R t seed d n f) (key : List UInt8) :
    f key ≤ least R t seed key d := by
  obtain ⟨h1, h2, h3⟩ := h
  exact least_ge d _ (Int.le_trans (ho key 0 hd) (Int.le_trans (h3 _ _).2 hb)) (fun j hj => by rw [val_of d n h2 h0 j hj]; exact ho key j hj)
/-- an estimate never falls -/
theorem least_mono {R : Rows} {t : List Int} {seed : Int} {d n : Nat} {total v : Int} {k : List UInt8} (h : Fine R d n total) (h0 : 0 < n) (hd : 0 < d) (key : List UInt8) :
    least R t seed key d ≤ least (raise R t seed k v d) t seed key d := by
  obtain ⟨h1, h2, h3⟩ := h
  refine least_ge d _ (least_big d) (fun i hi => Int.le_trans (least_le d i hi) ?_)
  rw [val_of d n h2 h0 i hi, val_of d n (fun j hj => by rw [raise_row_len, h2 j hj]) h0 i hi]
  exact raise_ge d n h1 h2 h0 i _ hi
/-- the error of an addition -/
def addE (k : List UInt8) (w total : Int) : Int := if k = [] then 3 else if w = 0 then 1 else if total + w ≤ 9223372036854775808 then 0 else 12
def news (d n : Nat) : Rows := List.replicate d (List.replicate n 0)
theorem fine_news (d n : Nat) : Fine (news d n) d n 0 := by
  refine ⟨by simp [news], fun i hi => by simp [news, List.getD, hi], fun i j => ?_⟩
  have : cell (news d n) i j = 0 := by
    unfold cell news
    simp only [List.getD, List.getElem?_replicate]
    by_cases h : i < d <;> by_cases h2 : j < n <;> simp [h, h2, List.getElem?_replicate]
  rw [this]; omega
end Go.Proofs.Ytaiopdipldaimaa.Cmp
