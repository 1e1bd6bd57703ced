/-
  Made configurations: their classes and their demand, plainly.
-/
import Derived.Test.YtgjlibecgkhocaaCfg
import Derived.Test.YtgjlibecgkhocaaCft
set_option linter.unusedVariables false
set_option linter.unusedSimpArgs false
namespace Go.Proofs.Ytgjlibecgkhocaa
open Go.RowKit Cfp

theorem demand_bd (c : Cfg) (h : Fine c) (l : List (Int × Int)) : Bnd (demand0 c l) 14000 := by
  have h1 := h.swd
  have h2 := h.sq
  have h3 := h.tr
  have := ((((Bnd.zero l.length).add (fit l (8 * c.width)) h1.1 h1.2).add (fit l 32) h3.1 h3.2).add (fit l 24) h2.1 h2.2).keys (x := tracked0 c + c.shards * c.queue) (N := 6656) (fit l c.key + 1) (by omega) (by omega)
  intro j hj
  have h4 := this j hj
  exact ⟨h4.1, by unfold demand0; omega⟩
theorem made_ok (l : List (Int × Int)) (hf : l.map Prod.fst = [8, 24, 32, 80, 256] ∨ l.map Prod.fst = [256]) (hb : ∀ x ∈ l, 0 ≤ x.2 ∧ x.2 ≤ 65536) : classesE l = 0 := by
  rcases l with _ | ⟨a, _ | ⟨b, _ | ⟨c', _ | ⟨d, _ | ⟨e, _ | ⟨f, l⟩⟩⟩⟩⟩⟩ <;> simp at hf
  · have ha := hb a (by simp)
    unfold classesE
    rw [if_neg (by simp)]
    unfold classesFrom
    rw [if_neg (by omega), if_neg (by omega)]
    rfl
  · have ha := hb a (by simp)
    have hbb := hb b (by simp)
    have hc := hb c' (by simp)
    have hd := hb d (by simp)
    have he := hb e (by simp)
    unfold classesE
    rw [if_neg (by simp)]
    unfold classesFrom
    rw [if_neg (by omega), if_neg (by omega)]
    unfold classesFrom
    rw [if_neg (by omega), if_neg (by omega)]
    unfold classesFrom
    rw [if_neg (by omega), if_neg (by omega)]
    unfold classesFrom
    rw [if_neg (by omega), if_neg (by omega)]
    unfold classesFrom
    rw [if_neg (by omega), if_neg (by omega)]
    rfl
theorem made_last (l : List (Int × Int)) (hf : l.map Prod.fst = [8, 24, 32, 80, 256] ∨ l.map Prod.fst = [256]) : ∃ p d, l.length = p + 1 ∧ l[p]? = some d ∧ d.1 = 256 ∧ p < 8 := by
  rcases l with _ | ⟨a, _ | ⟨b, _ | ⟨c', _ | ⟨d, _ | ⟨e, _ | ⟨f, l⟩⟩⟩⟩⟩⟩ <;> simp at hf
  · exact ⟨0, a, rfl, rfl, hf, by omega⟩
  · exact ⟨4, e, rfl, rfl, hf.2.2.2.2, by omega⟩
theorem made_room (c : Cfg) (hw : c.width ≤ 9) (hk : c.key ≤ 255) (l : List (Int × Int)) (hf : l.map Prod.fst = [8, 24, 32, 80, 256] ∨ l.map Prod.fst = [256]) : Room c l := by
  obtain ⟨p, d, h1, h2, h3, _⟩ := made_last l hf
  exact ⟨p, d, h1, h2, by omega, by omega, by omega⟩
/-- the counts of a made configuration's classes -/
theorem made_counts (c : Cfg) (h : Fine c) (l : List (Int × Int)) (hs : l.map Prod.snd = demand0 c l) : ∀ x ∈ l, 0 ≤ x.2 ∧ x.2 ≤ 65536 := by
  intro x hx
  have h1 : x.2 ∈ demand0 c l := by rw [← hs]; exact List.mem_map_of_mem hx
  obtain ⟨j, hj, he⟩ := List.getElem_of_mem h1
  have := demand_bd c h l j hj
  simp [List.getD, hj, he] at this
  omega
/-- classes with these sizes, and counts out of numbers that are bounded -/
theorem fill_counts (l : List (Int × Int)) (zs : List Int) (hz : Bnd zs 65536) (hzl : zs.length = l.length) : ∀ x ∈ fillN l zs l.length, 0 ≤ x.2 ∧ x.2 ≤ 65536 := by
  intro x hx
  have h1 : x.2 ∈ (fillN l zs l.length).map Prod.snd := List.mem_map_of_mem hx
  rw [fillN_all l zs hzl] at h1
  obtain ⟨j, hj, he⟩ := List.getElem_of_mem h1
  have := hz j hj
  simp [List.getD, hj, he] at this
  omega

/-- one more of something -/
def bump (c : Cfg) : Nat → Cfg
  | 0 => { c with shards := c.shards + 1 }
  | 1 => { c with windows := c.windows + 1 }
  | 2 => { c with slots := c.slots + 1 }
  | 3 => { c with exact_ := c.exact_ + 1 }
  | 4 => { c with queue := c.queue + 1 }
  | _ => { c with depth := c.depth + 1 }
theorem bump_fine (c : Cfg) (h : Mild c) (k : Nat) (hq : (bump c k).queue ≤ 64) : Fine (bump c k) := by
  have f := h.fine
  have := f.length; have := f.lateness; have := f.windows; have := f.shards; have := f.spread; have := f.queue; have := f.mode; have := f.slots; have := f.exact_; have := f.promote; have := f.depth; have := f.width; have := f.top; have := f.key; have := f.seed
  have := h.shards; have := h.windows; have := h.slots; have := h.exact_; have := h.depth
  rcases k with _ | _ | _ | _ | _ | k <;> simp only [bump] at hq ⊢ <;> constructor <;> (dsimp only; omega)
theorem bump_same (c : Cfg) (k : Nat) : (bump c k).width = c.width ∧ (bump c k).key = c.key := by
  rcases k with _ | _ | _ | _ | _ | k <;> exact ⟨rfl, rfl⟩
theorem bump_more (c : Cfg) (h : Fine c) (k : Nat) : c.shards * c.windows * c.depth ≤ (bump c k).shards * (bump c k).windows * (bump c k).depth ∧ tracked0 c ≤ tracked0 (bump c k) ∧ c.shards * c.queue ≤ (bump c k).shards * (bump c k).queue ∧
    (c.shards * c.windows * c.depth < (bump c k).shards * (bump c k).windows * (bump c k).depth ∨ tracked0 c < tracked0 (bump c k) ∨ c.shards * c.queue < (bump c k).shards * (bump c k).queue) := by
  have h1 := h.shards
  have h2 := h.windows
  have h3 := h.slots
  have h4 := h.exact_
  have h5 := h.queue
  have h6 := h.depth
  have p1 : 1 ≤ c.shards * c.windows := by have := Int.mul_le_mul h1.1 h2.1 (by omega) (by omega); simpa using this
  have p2 : 1 ≤ c.windows * c.depth := by have := Int.mul_le_mul h2.1 h6.1 (by omega) (by omega); simpa using this
  have p3 : 1 ≤ c.shards * c.depth := by have := Int.mul_le_mul h1.1 h6.1 (by omega) (by omega); simpa using this
  have p4 : 0 ≤ c.windows * (c.slots + c.exact_) := Int.mul_nonneg (by omega) (by omega)
  have p5 : 0 ≤ c.shards * (c.slots + c.exact_) := Int.mul_nonneg (by omega) (by omega)
  unfold tracked0
  rcases k with _ | _ | _ | _ | _ | k <;> simp only [bump]
  · have e1 : (c.shards + 1) * c.windows * c.depth = c.shards * c.windows * c.depth + c.windows * c.depth := by rw [Int.add_mul, Int.add_mul, Int.one_mul]
    have e2 : (c.shards + 1) * c.windows * (c.slots + c.exact_) = c.shards * c.windows * (c.slots + c.exact_) + c.windows * (c.slots + c.exact_) := by rw [Int.add_mul, Int.add_mul, Int.one_mul]
    have e3 : (c.shards + 1) * c.queue = c.shards * c.queue + c.queue := by rw [Int.add_mul, Int.one_mul]
    omega
  · have e1 : c.shards * (c.windows + 1) * c.depth = c.shards * c.windows * c.depth + c.shards * c.depth := by rw [Int.mul_add, Int.add_mul, Int.mul_one]
    have e2 : c.shards * (c.windows + 1) * (c.slots + c.exact_) = c.shards * c.windows * (c.slots + c.exact_) + c.shards * (c.slots + c.exact_) := by
      rw [show c.shards * (c.windows + 1) = c.shards * c.windows + c.shards from by rw [Int.mul_add, Int.mul_one], Int.add_mul]
    omega
  · have e2 : c.shards * c.windows * (c.slots + 1 + c.exact_) = c.shards * c.windows * (c.slots + c.exact_) + c.shards * c.windows := by
      rw [show c.slots + 1 + c.exact_ = (c.slots + c.exact_) + 1 from by omega, Int.mul_add, Int.mul_one]
    omega
  · have e2 : c.shards * c.windows * (c.slots + (c.exact_ + 1)) = c.shards * c.windows * (c.slots + c.exact_) + c.shards * c.windows := by
      rw [show c.slots + (c.exact_ + 1) = (c.slots + c.exact_) + 1 from by omega, Int.mul_add, Int.mul_one]
    omega
  · have e3 : c.shards * (c.queue + 1) = c.shards * c.queue + c.shards := by rw [Int.mul_add, Int.mul_one]
    omega
  · have e1 : c.shards * c.windows * (c.depth + 1) = c.shards * c.windows * c.depth + c.shards * c.windows := by rw [Int.mul_add, Int.mul_one]
    omega
/-- how much more the first i classes need -/
def moreN (x y : List Int) : Nat → Int
  | 0 => 0
  | i + 1 => moreN x y i + (y.getD i 0 - x.getD i 0)
theorem more_bd (x y : List Int) (n : Nat) (h : ∀ j, j < n → x.getD j 0 ≤ y.getD j 0 ∧ 0 ≤ x.getD j 0 ∧ y.getD j 0 ≤ 14000) : ∀ i, i ≤ n → 0 ≤ moreN x y i ∧ moreN x y i ≤ 14000 * i
  | 0, _ => by simp [moreN]
  | i + 1, hi => by
    have h1 := more_bd x y n h i (by omega)
    have h2 := h i (by omega)
    rw [moreN]; push_cast; omega
theorem more_pos (x y : List Int) (n : Nat) (h : ∀ j, j < n → x.getD j 0 ≤ y.getD j 0 ∧ 0 ≤ x.getD j 0 ∧ y.getD j 0 ≤ 14000) (j : Nat) (hj : j < n) (hs : x.getD j 0 < y.getD j 0) : 0 < moreN x y n := by
  have key : ∀ i, j < i → i ≤ n → 0 < moreN x y i := by
    intro i
    induction i with
    | zero => intro h; omega
    | succ i ih =>
      intro h1 h2
      have h3 := more_bd x y n h i (by omega)
      have h4 := h i (by omega)
      rw [moreN]
      by_cases e : i = j
      · subst e; omega
      · have := ih (by omega) (by omega); omega
  exact key n hj (Nat.le_refl _)
theorem grows (c : Cfg) (h : Mild c) (k : Nat) (l : List (Int × Int)) (hq : (bump c k).queue ≤ 64) (hr : Room c l) :
    (∀ j, j < l.length → (demand0 c l).getD j 0 ≤ (demand0 (bump c k) l).getD j 0 ∧ 0 ≤ (demand0 c l).getD j 0 ∧ (demand0 (bump c k) l).getD j 0 ≤ 14000) ∧ 0 < moreN (demand0 c l) (demand0 (bump c k) l) l.length := by
  have hs := bump_same c k
  obtain ⟨m1, m2, m3, m4⟩ := bump_more c h.fine k
  have h1 : ∀ j, j < l.length → (demand0 c l).getD j 0 ≤ (demand0 (bump c k) l).getD j 0 ∧ 0 ≤ (demand0 c l).getD j 0 ∧ (demand0 (bump c k) l).getD j 0 ≤ 14000 := fun j hj =>
    ⟨demand_mono c (bump c k) l hs.1 hs.2 m1 m2 m3 j hj, (demand_bd c h.fine l j (by rw [demand0_len]; exact hj)).1, (demand_bd _ (bump_fine c h k hq) l j (by rw [demand0_len]; exact hj)).2⟩
  refine ⟨h1, ?_⟩
  obtain ⟨p, d, hp, hd, r1, r2, r3⟩ := hr
  have t1 := h.fine.key
  have lt : ∀ x, x ≤ d.1 → fit l x < l.length := fun x hx => by rw [hp]; exact fit_room hp hd hx
  have f1 : ∀ j, j < l.length → ((j = fit l (8 * c.width) ∧ c.shards * c.windows * c.depth < (bump c k).shards * (bump c k).windows * (bump c k).depth) ∨ (j = fit l 32 ∧ tracked0 c < tracked0 (bump c k)) ∨ (j = fit l 24 ∧ c.shards * c.queue < (bump c k).shards * (bump c k).queue)) → (demand0 c l).getD j 0 < (demand0 (bump c k) l).getD j 0 := by
    intro j hj hc
    rw [demand_get c l j hj, demand_get (bump c k) l j hj, hs.1, hs.2]
    rcases hc with ⟨he, hc⟩ | ⟨he, hc⟩ | ⟨he, hc⟩
    · rw [if_pos he, if_pos he]; split <;> split <;> split <;> omega
    · rw [if_pos he, if_pos he]; split <;> split <;> split <;> omega
    · rw [if_pos he, if_pos he]; split <;> split <;> split <;> omega
  rcases m4 with m | m | m
  · exact more_pos _ _ _ h1 _ (lt _ r1) (f1 _ (lt _ r1) (.inl ⟨rfl, m⟩))
  · exact more_pos _ _ _ h1 _ (lt _ r2) (f1 _ (lt _ r2) (.inr (.inl ⟨rfl, m⟩)))
  · exact more_pos _ _ _ h1 _ (lt _ (by omega)) (f1 _ (lt 24 (by omega)) (.inr (.inr ⟨rfl, m⟩)))
end Go.Proofs.Ytgjlibecgkhocaa
