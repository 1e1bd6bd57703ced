/-
  Configurations, plainly: size classes, the first class for a size, and how many slots are needed. No program in sight.
-/
set_option linter.unusedVariables false
set_option linter.unusedSimpArgs false
namespace Go.Proofs.Ytaiopdipldaimaa.Cfp

/-- the error of size classes from one of them on; p is the size of the one before -/
def classesFrom : Int → List (Int × Int) → Int
  | _, [] => 0
  | p, c :: l => if c.1 < 1 ∨ 4096 < c.1 ∨ c.2 < 0 ∨ 65536 < c.2 then 1 else if c.1 ≤ p then 6 else classesFrom c.1 l
def classesE (l : List (Int × Int)) : Int := if l.length = 0 ∨ 8 < l.length then 1 else classesFrom 0 l

/-- the index of the first class for a size; the number of classes if there is none -/
def fit (l : List (Int × Int)) (size : Int) : Nat := l.findIdx (fun c => decide (size ≤ c.1))
def addAt (o : List Int) (i : Nat) (n : Int) : List Int := o.set i (o.getD i 0 + n)
theorem addAt_len (o : List Int) (i : Nat) (n : Int) : (addAt o i n).length = o.length := by simp [addAt]
/-- the first i classes are given t slots more each -/
def keysD (o : List Int) (t : Int) : Nat → List Int
  | 0 => o
  | i + 1 => addAt (keysD o t i) i t
theorem keysD_len (o : List Int) (t : Int) (i : Nat) : (keysD o t i).length = o.length := by
  induction i with
  | zero => rfl
  | succ i ih => rw [keysD, addAt_len, ih]

/-- sizes ascend, all above p -/
def Asc : Int → List (Int × Int) → Prop
  | _, [] => True
  | p, c :: l => p < c.1 ∧ Asc c.1 l
theorem asc_of : ∀ (l : List (Int × Int)) (p : Int), classesFrom p l = 0 → Asc p l ∧ ∀ c ∈ l, 1 ≤ c.1 ∧ c.1 ≤ 4096 ∧ 0 ≤ c.2 ∧ c.2 ≤ 65536
  | [], p, _ => ⟨trivial, by simp⟩
  | c :: l, p, h => by
    unfold classesFrom at h
    split at h
    · simp at h
    split at h
    · simp at h
    rename_i h1 h2
    obtain ⟨h3, h4⟩ := asc_of l c.1 h
    refine ⟨⟨by omega, h3⟩, ?_⟩
    intro d hd
    rcases List.mem_cons.1 hd with rfl | hd
    · omega
    · exact h4 d hd
theorem asc_ge : ∀ (l : List (Int × Int)) (p : Int), Asc p l → ∀ c ∈ l, p < c.1
  | [], p, _, c, hc => by cases hc
  | d :: l, p, ⟨h1, h2⟩, c, hc => by
    rcases List.mem_cons.1 hc with rfl | hc
    · exact h1
    · have := asc_ge l d.1 h2 c hc; omega
theorem asc_lt : ∀ (l : List (Int × Int)) (p : Int), Asc p l → ∀ (i j : Nat) (hi : i < l.length) (hj : j < l.length), i < j → l[i].1 < l[j].1
  | d :: l, p, ⟨h1, h2⟩, 0, j + 1, hi, hj, _ => by simpa using asc_ge l d.1 h2 _ (List.getElem_mem (by simpa using hj))
  | d :: l, p, ⟨h1, h2⟩, i + 1, j + 1, hi, hj, h => by simpa using asc_lt l d.1 h2 i j (by simpa using hi) (by simpa using hj) (by omega)

theorem fit_spec (l : List (Int × Int)) (s : Int) (i : Nat) (h : i < fit l s) (hi : i < l.length) : l[i].1 < s := by
  have := List.not_of_lt_findIdx (p := fun c : Int × Int => decide (s ≤ c.1)) h
  simp at this; omega
theorem fit_at (l : List (Int × Int)) (s : Int) (h : fit l s < l.length) : s ≤ l[fit l s].1 := by
  have := List.findIdx_getElem (xs := l) (p := fun c : Int × Int => decide (s ≤ c.1)) (w := h)
  have h2 := of_decide_eq_true this
  exact h2
theorem fit_le (l : List (Int × Int)) (s : Int) : fit l s ≤ l.length := List.findIdx_le_length
theorem fit_eq (l : List (Int × Int)) (s : Int) (i : Nat) (hi : i < l.length) (h1 : s ≤ l[i].1) (h2 : ∀ j (hj : j < i), (l[j]'(by omega)).1 < s) : fit l s = i := by
  rcases Nat.lt_trichotomy (fit l s) i with h | h | h
  · have := fit_at l s (by omega)
    have := h2 _ h
    omega
  · exact h
  · have := fit_spec l s i h hi
    omega
theorem fit_lt (l : List (Int × Int)) (s : Int) (h0 : 0 < l.length) (h : s ≤ (l[l.length - 1]'(by omega)).1) : fit l s < l.length := by
  rcases Nat.lt_or_ge (fit l s) l.length with h1 | h1
  · exact h1
  · have := fit_spec l s (l.length - 1) (by omega) (by omega)
    omega
theorem fit_mono (l : List (Int × Int)) (s t : Int) (h : s ≤ t) : fit l s ≤ fit l t := by
  rcases Nat.lt_or_ge (fit l t) (fit l s) with h1 | h1
  · have h2 := fit_le l s
    have h3 := fit_spec l s (fit l t) h1 (by omega)
    have h4 := fit_at l t (by omega)
    omega
  · exact h1
/-- the next size belongs to the same class, or to the next one -/
theorem fit_step (l : List (Int × Int)) (p : Int) (ha : Asc p l) (n : Int) (h : fit l (n + 1) < l.length) : fit l (n + 1) = fit l n ∨ fit l (n + 1) = fit l n + 1 := by
  have h1 := fit_mono l n (n + 1) (by omega)
  rcases Nat.lt_or_ge (fit l n + 1) (fit l (n + 1)) with h2 | h2
  · exfalso
    have h3 := fit_at l n (by omega)
    have h4 := asc_lt l p ha (fit l n) (fit l n + 1) (by omega) (by omega) (by omega)
    have h5 := fit_spec l (n + 1) (fit l n + 1) h2 (by omega)
    omega
  · omega
theorem fit_one (l : List (Int × Int)) (h0 : 0 < l.length) (hb : ∀ c ∈ l, 1 ≤ c.1) : fit l 1 = 0 :=
  fit_eq l 1 0 h0 (hb _ (List.getElem_mem _)) (fun j hj => by omega)

structure Cfg where
  length : Int
  lateness : Int
  windows : Int
  shards : Int
  spread : Int
  queue : Int
  mode : Int
  slots : Int
  exact_ : Int
  promote : Int
  depth : Int
  width : Int
  top : Int
  key : Int
  seed : Int

def clockB (c : Cfg) : Bool := decide (1 ≤ c.length ∧ c.length ≤ 1048576 ∧ 0 ≤ c.lateness ∧ c.lateness ≤ 1048576 ∧ 1 ≤ c.windows ∧ c.windows ≤ 8)
def routeB (c : Cfg) (tl : Nat) : Bool := decide (1 ≤ c.shards ∧ c.shards ≤ 8 ∧ 1 ≤ c.spread ∧ c.spread ≤ c.shards ∧ tl = 16)
def numB (c : Cfg) : Bool := decide (1 ≤ c.queue ∧ c.queue ≤ 64 ∧ (c.mode = 1 ∨ c.mode = 2) ∧ 1 ≤ c.slots ∧ c.slots ≤ 64 ∧ 0 ≤ c.exact_ ∧ c.exact_ ≤ 32 ∧ 1 ≤ c.depth ∧ c.depth ≤ 4 ∧ 1 ≤ c.width ∧ c.width ≤ 256 ∧ 1 ≤ c.top ∧ c.top ≤ 64 ∧ 1 ≤ c.key ∧ c.key ≤ 255)
def lastSize (l : List (Int × Int)) : Int := (l.getLastD (0, 0)).1
def most (c : Cfg) : Int := max (max (max (8 * c.width) 32) 24) c.key
/-- the error of a configuration -/
def configE (c : Cfg) (l : List (Int × Int)) (tl : Nat) : Int :=
  if clockB c = false ∨ routeB c tl = false ∨ numB c = false ∨ classesE l ≠ 0 then 11 else if lastSize l < most c then 4 else 0
def tracked0 (c : Cfg) : Int := c.shards * c.windows * (c.slots + c.exact_)
def tracked (c : Cfg) (l : List (Int × Int)) (tl : Nat) : Int := if configE c l tl = 0 then tracked0 c else 0
def demand0 (c : Cfg) (l : List (Int × Int)) : List Int :=
  keysD (addAt (addAt (addAt (List.replicate l.length 0) (fit l (8 * c.width)) (c.shards * c.windows * c.depth)) (fit l 32) (tracked0 c)) (fit l 24) (c.shards * c.queue))
    (tracked0 c + c.shards * c.queue) (fit l c.key + 1)
def demand (c : Cfg) (l : List (Int × Int)) (tl : Nat) : List Int := if configE c l tl = 0 then demand0 c l else []
def fullB (d : List Int) (l : List (Int × Int)) : Bool := (d.zip l).any (fun x => decide (x.2.2 < x.1))
def validE (c : Cfg) (l : List (Int × Int)) (tl : Nat) : Int := if configE c l tl = 0 then (if fullB (demand0 c l) l = true then 7 else 0) else configE c l tl

theorem config_ok {c : Cfg} {l : List (Int × Int)} {tl : Nat} (h : configE c l tl = 0) :
    clockB c = true ∧ routeB c tl = true ∧ numB c = true ∧ classesE l = 0 ∧ most c ≤ lastSize l := by
  unfold configE at h
  split at h
  · simp at h
  split at h
  · simp at h
  rename_i h1 h2
  simp only [not_or, Bool.not_eq_false, ne_eq, Decidable.not_not] at h1
  exact ⟨h1.1, h1.2.1, h1.2.2.1, h1.2.2.2, by omega⟩
end Go.Proofs.Ytaiopdipldaimaa.Cfp
