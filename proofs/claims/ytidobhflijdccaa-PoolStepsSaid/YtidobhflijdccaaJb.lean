/-
  The reference's arena, plain, beside the program's. No conditions beyond those of the statement.
-/
import Derived.Test.YtidobhflijdccaaJa
set_option linter.unusedVariables false
set_option linter.unusedSimpArgs false
namespace Go.Proofs.Ytidobhflijdccaa
open Go.RowKit Cfp
/-- a slot of the reference's; D and dc say where its bytes lie -/
structure RSl where
  c : Nat
  k : Nat
  age : Int
  used : Bool
  D : Option Addr
  dc : Nat
  b : List UInt8
/-- the reference's arena -/
structure RA where
  sh : List (Int × Int)
  slots : List RSl
  free : List Nat
  next : List Nat
  faults : Int
/-- the slot has this handle, and is live -/
def RSl.is (hc hk ha : Int) (x : RSl) : Bool := x.used && ((x.c : Int) == hc && (x.k : Int) == hk && x.age == ha)
def rfindN (ρ : RA) (hc hk ha : Int) : Nat := ρ.slots.findIdx (RSl.is hc hk ha)
/-- a free slot's index, if it is of a class -/
def fk (sl : List RSl) (i j : Nat) : Option Nat := match sl[j]? with
  | some x => if x.c = i then some x.k else none
  | none => none
def cntR (i : Nat) : List RSl → Int
  | [] => 0
  | x :: l => (if x.used = true ∧ x.c = i then 1 else 0) + cntR i l
theorem cntR_app (i : Nat) (l : List RSl) (y : RSl) : cntR i (l ++ [y]) = cntR i l + (if y.used = true ∧ y.c = i then 1 else 0) := by
  induction l with
  | nil => simp [cntR]
  | cons x l ih => simp only [List.cons_append, cntR, ih]; omega
theorem cntR_set (i : Nat) : ∀ (l : List RSl) (j : Nat) (x y : RSl), l[j]? = some x → cntR i (l.set j y) = cntR i l - (if x.used = true ∧ x.c = i then 1 else 0) + (if y.used = true ∧ y.c = i then 1 else 0)
  | [], _, _, _, h => by simp at h
  | z :: l, 0, x, y, h => by
    simp at h
    subst h
    simp only [List.set_cons_zero, cntR]
    omega
  | z :: l, j + 1, x, y, h => by
    simp only [List.set_cons_succ, cntR, cntR_set i l j x y (by simpa using h)]
    omega
/-- the reference's arena stands as the program's does -/
structure Rel (s : Ar) (L : Nat → List Nat) (ρ : RA) : Prop where
  sh : shapeA s = ρ.sh
  fa : s.faults = ρ.faults
  nl : ρ.next.length = ρ.sh.length
  nx : ∀ i : Nat, i < ρ.sh.length → ρ.next[i]? = some (slen s i)
  on : ∀ (j : Nat) (x : RSl), ρ.slots[j]? = some x → ∃ d, svw s x.c x.k = some (x.age, x.used, d) ∧ (x.used = true → d = x.b)
  inj : ∀ (j j' : Nat) (x x' : RSl), ρ.slots[j]? = some x → ρ.slots[j']? = some x' → x.c = x'.c → x.k = x'.k → j = j'
  all : ∀ (i k : Nat), k < slen s i → ∃ (j : Nat) (x : RSl), ρ.slots[j]? = some x ∧ x.c = i ∧ x.k = k
  fr : ∀ i, (ρ.free.filterMap (fk ρ.slots i)).reverse = L i
  fb : ∀ j ∈ ρ.free, j < ρ.slots.length
  lv : ∀ i : Nat, i < ρ.sh.length → (livesA s)[i]? = some (cntR i ρ.slots)
section
variable {s s' : Ar} {L : Nat → List Nat} {ρ : RA} {M : Int}
theorem shape_len (s : Ar) : (shapeA s).length = s.cls.length := by simp [shapeA]
theorem RSl.is_iff {hc hk ha : Int} {x : RSl} : RSl.is hc hk ha x = true ↔ x.used = true ∧ (x.c : Int) = hc ∧ (x.k : Int) = hk ∧ x.age = ha := by
  unfold RSl.is
  simp only [Bool.and_eq_true, beq_iff_eq]
  constructor
  · rintro ⟨h1, ⟨h2, h3⟩, h4⟩; exact ⟨h1, h2, h3, h4⟩
  · rintro ⟨h1, h2, h3, h4⟩; exact ⟨h1, ⟨h2, h3⟩, h4⟩
/-- found: the program's slot is live too, and has the same bytes -/
theorem Rel.find_yes (h : Rel s L ρ) {hc hk ha : Int} {j : Nat} {x : RSl} (hj : rfindN ρ hc hk ha = j) (hx : ρ.slots[j]? = some x) : hc = x.c ∧ hk = x.k ∧ ha = x.age ∧ x.used = true ∧ LV s x.c x.k ha x.b := by
  have hl := (List.getElem?_eq_some_iff.1 hx)
  have h1 : RSl.is hc hk ha x = true := by
    have := List.findIdx_getElem (p := RSl.is hc hk ha) (xs := ρ.slots) (w := by unfold rfindN at hj; rw [hj]; exact hl.1)
    unfold rfindN at hj
    simp only [hj] at this
    rw [hl.2] at this
    exact this
  obtain ⟨h2, h3, h4, h5⟩ := RSl.is_iff.1 h1
  obtain ⟨d, h6, h7⟩ := h.on j x hx
  rw [h7 h2, h2] at h6
  subst h5
  exact ⟨h3.symm, h4.symm, rfl, h2, svw_LV.2 h6⟩
theorem Rel.find_no (h : Rel s L ρ) {hc hk ha : Int} (hj : rfindN ρ hc hk ha = ρ.slots.length) : ∀ (i k : Nat) (d : List UInt8), hc = i → hk = k → ¬ LV s i k ha d := by
  intro i k d h1 h2 hl
  have h3 := svw_LV.1 hl
  obtain ⟨j, x, hx, rfl, rfl⟩ := h.all i k (svw_lt h3)
  obtain ⟨d', h6, _⟩ := h.on j x hx
  rw [h3] at h6
  injection h6 with h6
  injection h6 with h6 h7
  injection h7 with h7 _
  unfold rfindN at hj
  rw [List.findIdx_eq_length] at hj
  have := hj x (List.mem_of_getElem? hx)
  rw [RSl.is_iff.2 ⟨h7.symm, h1.symm, h2.symm, h6.symm⟩] at this
  cases this
theorem Rel.fault (h : Rel s L ρ) : Rel { s with faults := s.faults + 1 } L { ρ with faults := ρ.faults + 1 } :=
  ⟨h.sh, by show s.faults + 1 = ρ.faults + 1; rw [h.fa], h.nl, h.nx, h.on, h.inj, h.all, h.fr, h.fb, h.lv⟩
/-- one slot changes, but for its place -/
theorem Rel.set (h : Rel s L ρ) {j : Nat} {x y : RSl} {L' : Nat → List Nat} {fr' : List Nat} (hx : ρ.slots[j]? = some x) (hc : y.c = x.c) (hk : y.k = x.k) {d : Int} {v : Int × Bool × List UInt8} (g : Step s s' x.c x.k v d)
    {dd : List UInt8} (hv : v = (y.age, y.used, dd)) (hvd : y.used = true → dd = y.b) (hs : ∀ q, slen s' q = slen s q) (hd : d = (if y.used = true then 1 else 0) - (if x.used = true then 1 else 0))
    (hfr : ∀ i, (fr'.filterMap (fk ρ.slots i)).reverse = L' i) (hfb : ∀ j ∈ fr', j < ρ.slots.length) : Rel s' L' { ρ with slots := ρ.slots.set j y, free := fr' } := by
  have hjl := (List.getElem?_eq_some_iff.1 hx).1
  have hget : ∀ (q : Nat) (z : RSl), (ρ.slots.set j y)[q]? = some z → (q = j ∧ z = y) ∨ (q ≠ j ∧ ρ.slots[q]? = some z) := by
    intro q z hz
    rw [List.getElem?_set] at hz
    by_cases e : j = q
    · subst e
      rw [if_pos rfl, if_pos hjl] at hz
      injection hz with hz
      exact .inl ⟨rfl, hz.symm⟩
    · rw [if_neg e] at hz
      exact .inr ⟨fun q => e q.symm, hz⟩
  have hfk : ∀ i q, fk (ρ.slots.set j y) i q = fk ρ.slots i q := by
    intro i q
    unfold fk
    rw [List.getElem?_set]
    by_cases e : j = q
    · subst e
      rw [if_pos rfl, if_pos hjl, hx]
      dsimp only
      rw [hc, hk]
    · rw [if_neg e]
  refine ⟨by rw [g.shape]; exact h.sh, by rw [g.faults]; exact h.fa, h.nl, fun i hi => by rw [hs]; exact h.nx i hi, fun q z hz => ?_, fun q q' z z' hz hz' e1 e2 => ?_, fun i k hk' => ?_, fun i => ?_, fun q hq => by rw [List.length_set]; exact hfb q hq, fun i hi => ?_⟩
  · rcases hget q z hz with ⟨rfl, rfl⟩ | ⟨hq, hz⟩
    · rw [g.vw, hc, hk, if_pos ⟨rfl, rfl⟩, hv]
      exact ⟨_, rfl, hvd⟩
    · obtain ⟨d', h1, h2⟩ := h.on q z hz
      rw [g.vw, if_neg (fun e => hq (h.inj q j z x hz hx e.1 e.2))]
      exact ⟨d', h1, h2⟩
  · rcases hget q z hz with ⟨hq, hzy⟩ | ⟨hq, hz1⟩
    · rcases hget q' z' hz' with ⟨hq', hzy'⟩ | ⟨hq', hz1'⟩
      · rw [hq, hq']
      · exact absurd (h.inj q' j z' x hz1' hx (by rw [← e1, hzy, hc]) (by rw [← e2, hzy, hk])) hq'
    · rcases hget q' z' hz' with ⟨hq', hzy'⟩ | ⟨hq', hz1'⟩
      · exact absurd (h.inj q j z x hz1 hx (by rw [e1, hzy', hc]) (by rw [e2, hzy', hk])) hq
      · exact h.inj q q' z z' hz1 hz1' e1 e2
  · rw [hs] at hk'
    obtain ⟨q, z, hz, e1, e2⟩ := h.all i k hk'
    by_cases e : q = j
    · subst e
      rw [hx] at hz
      injection hz with hz
      subst hz
      exact ⟨q, y, by simp [hjl], by rw [hc]; exact e1, by rw [hk]; exact e2⟩
    · exact ⟨q, z, by rw [List.getElem?_set, if_neg (fun h => e h.symm)]; exact hz, e1, e2⟩
  · rw [show fk (ρ.slots.set j y) i = fk ρ.slots i from funext (hfk i)]
    exact hfr i
  · rw [g.lives, List.getElem?_set, cntR_set i _ _ _ _ hx, hc]
    have hl := h.lv i hi
    by_cases e : x.c = i
    · have hil : x.c < (livesA s).length := by rw [e]; exact (List.getElem?_eq_some_iff.1 hl).1
      rw [if_pos e, if_pos hil]
      have h2 : (livesA s).getD x.c 0 = cntR i ρ.slots := by rw [e, List.getD, hl]; rfl
      rw [h2, hd]
      simp only [e, and_true]
      congr 1
      split <;> split <;> omega
    · rw [if_neg e, if_neg (fun h => e h.2), if_neg (fun h => e h.2), hl]
      simp
theorem filterMap_none {f : Nat → Option Nat} {l : List Nat} (h : ∀ j ∈ l, f j = none) : l.filterMap f = [] := by
  induction l with
  | nil => rfl
  | cons x l ih => rw [List.filterMap_cons_none (h x (List.mem_cons_self ..))]; exact ih (fun j hj => h j (List.mem_cons_of_mem _ hj))
theorem filterMap_same {f g : Nat → Option Nat} {l : List Nat} (h : ∀ j ∈ l, f j = g j) : l.filterMap f = l.filterMap g := by
  induction l with
  | nil => rfl
  | cons x l ih =>
    have hx := h x (List.mem_cons_self ..)
    rcases e : g x with _ | y
    · rw [List.filterMap_cons_none (by rw [hx, e]), List.filterMap_cons_none e]; exact ih (fun j hj => h j (List.mem_cons_of_mem _ hj))
    · rw [List.filterMap_cons_some (by rw [hx, e]), List.filterMap_cons_some e, ih (fun j hj => h j (List.mem_cons_of_mem _ hj))]
/-- a slot is freed -/
theorem Rel.freed (h : Rel s L ρ) {j : Nat} {x : RSl} (hx : ρ.slots[j]? = some x) (hu : x.used = true) (g : Step s s' x.c x.k (x.age, false, []) (-1)) (hs : ∀ q, slen s' q = slen s q) :
    Rel s' (updL L x.c (x.k :: L x.c)) { ρ with slots := ρ.slots.set j { x with used := false }, free := ρ.free ++ [j] } := by
  refine h.set hx rfl rfl g rfl (fun e => by cases e) hs (by rw [hu]; rfl) (fun i => ?_) (fun q hq => ?_)
  · rw [List.filterMap_append, List.reverse_append, h.fr i]
    unfold updL
    by_cases e : i = x.c
    · subst e
      rw [if_pos rfl]
      have : fk ρ.slots x.c j = some x.k := by unfold fk; rw [hx]; exact if_pos rfl
      rw [List.filterMap_cons_some this]
      rfl
    · rw [if_neg e]
      have : fk ρ.slots i j = none := by unfold fk; rw [hx]; exact if_neg (fun h => e h.symm)
      rw [List.filterMap_cons_none this]
      rfl
  · rcases List.mem_append.1 hq with hq | hq
    · exact h.fb q hq
    · rw [List.mem_singleton.1 hq]; exact (List.getElem?_eq_some_iff.1 hx).1
/-- a slot is written -/
theorem Rel.wrote (h : Rel s L ρ) {j : Nat} {x : RSl} {D : Option Addr} {dc : Nat} {bs : List UInt8} (hx : ρ.slots[j]? = some x) (hu : x.used = true) (g : Step s s' x.c x.k (x.age, true, bs) 0) (hs : ∀ q, slen s' q = slen s q) :
    Rel s' L { ρ with slots := ρ.slots.set j { x with D := D, dc := dc, b := bs } } :=
  h.set (fr' := ρ.free) hx rfl rfl g (by rw [hu]) (fun _ => rfl) hs (by rw [hu]; rfl) h.fr h.fb
/-- a slot is taken again -/
theorem Rel.again (h : Rel s L ρ) {j p : Nat} {x : RSl} {r : List Nat} {k : Nat} (hx : ρ.slots[j]? = some x) (hu : x.used = false) (hp : ρ.free[p]? = some j) (hlast : ∀ q j', p < q → ρ.free[q]? = some j' → fk ρ.slots x.c j' = none) (hL : L x.c = k :: r)
    (g : Step s s' x.c x.k (x.age + 1, true, []) 1) (hs : ∀ q, slen s' q = slen s q) :
    Rel s' (updL L x.c r) { ρ with slots := ρ.slots.set j { x with age := x.age + 1, used := true, D := none, dc := 0, b := [] }, free := ρ.free.take p ++ ρ.free.drop (p + 1) } := by
  have hpl := List.getElem?_eq_some_iff.1 hp
  have hsp : ρ.free = ρ.free.take p ++ j :: ρ.free.drop (p + 1) := by
    conv => lhs; rw [← List.take_append_drop p ρ.free, List.drop_eq_getElem_cons hpl.1, hpl.2]
  have hd : (ρ.free.drop (p + 1)).filterMap (fk ρ.slots x.c) = [] := filterMap_none (fun j' hj' => by
    obtain ⟨q, hq⟩ := List.getElem?_of_mem hj'
    rw [List.getElem?_drop] at hq
    exact hlast _ j' (by omega) hq)
  refine h.set hx rfl rfl g rfl (fun _ => rfl) hs (by rw [hu]; rfl) (fun i => ?_) (fun q hq => h.fb q ?_)
  · have h0 := h.fr i
    rw [hsp, List.filterMap_append] at h0
    rw [List.filterMap_append]
    unfold updL
    by_cases e : i = x.c
    · subst e
      rw [if_pos rfl]
      have : fk ρ.slots x.c j = some x.k := by unfold fk; rw [hx]; exact if_pos rfl
      rw [List.filterMap_cons_some this, hd, hL, List.reverse_append] at h0
      rw [hd, List.append_nil]
      simp at h0
      exact h0.2
    · rw [if_neg e]
      have : fk ρ.slots i j = none := by unfold fk; rw [hx]; exact if_neg (fun h => e h.symm)
      rw [List.filterMap_cons_none this] at h0
      exact h0
  · rcases List.mem_append.1 hq with hq | hq
    · exact List.mem_of_mem_take hq
    · exact List.mem_of_mem_drop hq
/-- the head of the chain is the slot that was freed last -/
theorem Rel.head (h : Rel s L ρ) {j p i k : Nat} {x : RSl} {r : List Nat} (hp : ρ.free[p]? = some j) (hx : ρ.slots[j]? = some x) (hc : x.c = i) (hlast : ∀ q j', p < q → ρ.free[q]? = some j' → fk ρ.slots i j' = none) : ∃ r, L i = x.k :: r := by
  have hpl := List.getElem?_eq_some_iff.1 hp
  have hsp : ρ.free = ρ.free.take p ++ j :: ρ.free.drop (p + 1) := by
    conv => lhs; rw [← List.take_append_drop p ρ.free, List.drop_eq_getElem_cons hpl.1, hpl.2]
  have hd : (ρ.free.drop (p + 1)).filterMap (fk ρ.slots i) = [] := filterMap_none (fun j' hj' => by
    obtain ⟨q, hq⟩ := List.getElem?_of_mem hj'
    rw [List.getElem?_drop] at hq
    exact hlast _ j' (by omega) hq)
  have h0 := h.fr i
  have : fk ρ.slots i j = some x.k := by unfold fk; rw [hx]; exact if_pos hc
  rw [hsp, List.filterMap_append, List.filterMap_cons_some this, hd, List.reverse_append] at h0
  exact ⟨_, h0.symm⟩
theorem Rel.nohead (h : Rel s L ρ) {i : Nat} (hno : ∀ q j' : Nat, ρ.free[q]? = some j' → fk ρ.slots i j' = none) : L i = [] := by
  rw [← h.fr i, filterMap_none (fun j' hj' => by
    obtain ⟨q, hq⟩ := List.getElem?_of_mem hj'
    exact hno _ j' hq)]
  rfl
/-- a fresh slot is taken -/
theorem Rel.fresh (h : Rel s L ρ) {i : Nat} (hi : i < ρ.sh.length) (g : Step s s' i (slen s i) (1, true, []) 1) (hs : ∀ j, slen s' j = if j = i then slen s i + 1 else slen s j) :
    Rel s' L { ρ with slots := ρ.slots ++ [⟨i, slen s i, 1, true, none, 0, []⟩], next := ρ.next.set i (slen s i + 1) } := by
  have hget : ∀ (q : Nat) (z : RSl), (ρ.slots ++ [(⟨i, slen s i, 1, true, none, 0, []⟩ : RSl)])[q]? = some z → (q = ρ.slots.length ∧ z = ⟨i, slen s i, 1, true, none, 0, []⟩) ∨ (q < ρ.slots.length ∧ ρ.slots[q]? = some z) := by
    intro q z hz
    rcases Nat.lt_or_ge q ρ.slots.length with hq | hq
    · rw [List.getElem?_append_left hq] at hz
      exact .inr ⟨hq, hz⟩
    · have := (List.getElem?_eq_some_iff.1 hz).1
      simp at this
      obtain rfl : q = ρ.slots.length := by omega
      simp at hz
      exact .inl ⟨rfl, hz.symm⟩
  have hold : ∀ (q : Nat) (z : RSl), ρ.slots[q]? = some z → ¬ (z.c = i ∧ z.k = slen s i) := by
    rintro q z hz ⟨e1, e2⟩
    obtain ⟨d, h1, _⟩ := h.on q z hz
    have := svw_lt h1
    rw [e1, e2] at this
    omega
  have hfk : ∀ i' q, q < ρ.slots.length → fk (ρ.slots ++ [(⟨i, slen s i, 1, true, none, 0, []⟩ : RSl)]) i' q = fk ρ.slots i' q := by
    intro i' q hq
    unfold fk
    rw [List.getElem?_append_left hq]
  refine ⟨by rw [g.shape]; exact h.sh, by rw [g.faults]; exact h.fa, by rw [List.length_set]; exact h.nl, fun j hj => ?_, fun q z hz => ?_, fun q q' z z' hz hz' e1 e2 => ?_, fun i' k hk' => ?_, fun i' => ?_, fun q hq => by have := h.fb q hq; simp; omega, fun j hj => ?_⟩
  · rw [List.getElem?_set, hs]
    by_cases e : i = j
    · subst e
      rw [if_pos rfl, if_pos (by rw [h.nl]; exact hj), if_pos rfl]
    · rw [if_neg e, if_neg (fun h => e h.symm)]
      exact h.nx j hj
  · rcases hget q z hz with ⟨rfl, rfl⟩ | ⟨hq, hz⟩
    · rw [g.vw, if_pos ⟨rfl, rfl⟩]
      exact ⟨_, rfl, fun _ => rfl⟩
    · obtain ⟨d', h1, h2⟩ := h.on q z hz
      rw [g.vw, if_neg (hold q z hz)]
      exact ⟨d', h1, h2⟩
  · rcases hget q z hz with ⟨rfl, rfl⟩ | ⟨hq, hz⟩
    · rcases hget q' z' hz' with ⟨rfl, rfl⟩ | ⟨hq', hz'⟩
      · rfl
      · exact absurd ⟨e1.symm, e2.symm⟩ (hold q' z' hz')
    · rcases hget q' z' hz' with ⟨rfl, rfl⟩ | ⟨hq', hz'⟩
      · exact absurd ⟨e1, e2⟩ (hold q z hz)
      · exact h.inj q q' z z' hz hz' e1 e2
  · rw [hs] at hk'
    by_cases e : i' = i ∧ k = slen s i
    · obtain ⟨rfl, rfl⟩ := e
      exact ⟨ρ.slots.length, ⟨i', slen s i', 1, true, none, 0, []⟩, by simp, rfl, rfl⟩
    · obtain ⟨q, z, hz, e1, e2⟩ := h.all i' k (by
        split at hk'
        · next e3 => subst e3; have : k ≠ slen s i' := fun h => e ⟨rfl, h⟩; omega
        · exact hk')
      exact ⟨q, z, by rw [List.getElem?_append_left (List.getElem?_eq_some_iff.1 hz).1]; exact hz, e1, e2⟩
  · have : ρ.free.filterMap (fk (ρ.slots ++ [(⟨i, slen s i, 1, true, none, 0, []⟩ : RSl)]) i') = ρ.free.filterMap (fk ρ.slots i') := by
      exact filterMap_same (fun q hq => hfk i' q (h.fb q hq))
    rw [this]
    exact h.fr i'
  · rw [g.lives, List.getElem?_set, cntR_app]
    have hl := h.lv j hj
    by_cases e : i = j
    · subst e
      have hil : i < (livesA s).length := (List.getElem?_eq_some_iff.1 hl).1
      rw [if_pos rfl, if_pos hil]
      have h2 : (livesA s).getD i 0 = cntR i ρ.slots := by rw [List.getD, hl]; rfl
      rw [h2]
      simp
    · rw [if_neg e, hl]
      simp [e]
theorem livesA_len (s : Ar) : (livesA s).length = s.cls.length := by simp [livesA]
/-- the size of a class -/
def szR (sh : List (Int × Int)) (c : Nat) : Int := (sh.getD c (0, 0)).1
def sumB (sh : List (Int × Int)) : List RSl → Int
  | [] => 0
  | x :: l => (if x.used = true then szR sh x.c else 0) + sumB sh l
def totB (sh : List (Int × Int)) (l : List RSl) : Nat → Int
  | 0 => 0
  | n + 1 => totB sh l n + cntR n l * szR sh n
theorem totB_cons (sh : List (Int × Int)) (x : RSl) (l : List RSl) : ∀ n, totB sh (x :: l) n = totB sh l n + (if x.used = true ∧ x.c < n then szR sh x.c else 0)
  | 0 => by simp [totB]
  | n + 1 => by
    rw [totB, totB, totB_cons sh x l n, cntR, Int.add_mul]
    by_cases hu : x.used = true
    · by_cases h1 : x.c < n
      · rw [if_pos ⟨hu, h1⟩, if_neg (fun h => by omega), if_pos ⟨hu, by omega⟩]; omega
      · by_cases h2 : x.c = n
        · rw [if_neg (fun h => h1 h.2), if_pos ⟨hu, h2⟩, if_pos ⟨hu, by omega⟩, h2]; omega
        · rw [if_neg (fun h => h1 h.2), if_neg (fun h => h2 h.2), if_neg (fun h => by omega)]; omega
    · rw [if_neg (fun h => hu h.1), if_neg (fun h => hu h.1), if_neg (fun h => hu h.1)]; omega
theorem totB_sum (sh : List (Int × Int)) (n : Nat) : ∀ (l : List RSl), (∀ x ∈ l, x.c < n) → totB sh l n = sumB sh l
  | [], _ => by
    have : ∀ n, totB sh [] n = 0 := by
      intro n
      induction n with
      | zero => rfl
      | succ n ih => rw [totB, ih]; simp [cntR]
    rw [this]; rfl
  | x :: l, h => by
    rw [totB_cons, totB_sum sh n l (fun y hy => h y (List.mem_cons_of_mem _ hy)), sumB]
    have := h x (List.mem_cons_self ..)
    by_cases hu : x.used = true
    · rw [if_pos ⟨hu, this⟩, if_pos hu]; omega
    · rw [if_neg (fun h => hu h.1), if_neg hu]; omega
theorem Rel.cl (h : Rel s L ρ) : ∀ x ∈ ρ.slots, x.c < ρ.sh.length := by
  intro x hx
  obtain ⟨j, hj⟩ := List.getElem?_of_mem hx
  obtain ⟨d, h1, _⟩ := h.on j x hj
  obtain ⟨c, y, hc, _⟩ := svw_get h1
  rw [← h.sh, shape_len]
  exact (List.getElem?_eq_some_iff.1 hc).1
theorem Rel.bytes (h : Rel s L ρ) : bytesN s.cls s.cls.length = sumB ρ.sh ρ.slots := by
  rw [← totB_sum ρ.sh ρ.sh.length _ h.cl, ← h.sh, shape_len]
  have : ∀ n, n ≤ s.cls.length → bytesN s.cls n = totB (shapeA s) ρ.slots n := by
    intro n
    induction n with
    | zero => intro _; rfl
    | succ n ih =>
      intro hn
      obtain ⟨c, hc⟩ : ∃ c, s.cls[n]? = some c := ⟨s.cls[n]'(by omega), by simp⟩
      have e : s.cls.getD n Cls.nil = c := by simp [List.getD, hc]
      have e2 : szR (shapeA s) n = c.size := by simp [szR, shapeA, List.getD, hc]
      have e3 : cntR n ρ.slots = c.live := by
        have h1 := h.lv n (by rw [← h.sh, shape_len]; omega)
        simp [livesA, hc] at h1
        exact h1.symm
      rw [bytesN, totB, ih (by omega), e, e2, e3]
  exact this _ (Nat.le_refl _)
theorem Rel.lives (h : Rel s L ρ) : livesA s = (List.range ρ.sh.length).map (fun i => cntR i ρ.slots) := by
  refine List.ext_getElem? fun i => ?_
  rcases Nat.lt_or_ge i ρ.sh.length with hi | hi
  · rw [h.lv i hi]
    simp [hi]
  · rw [List.getElem?_eq_none (by rw [livesA_len, ← shape_len, h.sh]; exact hi), List.getElem?_eq_none (by simpa using hi)]
/-- at the beginning -/
theorem Rel.new (l : List (Int × Int)) (n : Nat) (hl : l.length = n) (CA : Option Addr) (cap : Nat) : Rel (parAr l n CA cap) (fun _ => []) ⟨l, [], [], List.replicate n 0, 0⟩ := by
  have hcl : (parAr l n CA cap).cls = l.map mkC := by unfold parAr; rw [← hl, List.take_length]
  have hsl : ∀ i, slen (parAr l n CA cap) i = 0 := by
    intro i
    unfold slen
    rw [hcl, List.getElem?_map]
    cases l[i]? <;> rfl
  refine ⟨?_, rfl, by simp [hl], fun i hi => ?_, fun j x hx => by simp at hx, fun j j' x x' hx => by simp at hx, fun i k hk => by rw [hsl] at hk; omega, fun i => rfl, fun j hj => by simp at hj, fun i hi => ?_⟩
  · unfold shapeA
    rw [hcl, List.map_map]
    exact (List.map_congr_left (fun x _ => rfl)).trans (List.map_id _)
  · rw [hsl]
    have : i < n := by rw [← hl]; exact hi
    simp [this]
  · unfold livesA
    rw [hcl, List.map_map]
    have : i < l.length := hi
    simp [this, cntR, mkC]
end
end Go.Proofs.Ytidobhflijdccaa
