/-
  An arena's invariant, and its operations in one contract each. No conditions beyond those of the statement.
-/
import Derived.Test.YtidobhflijdccaaBc
set_option linter.unusedVariables false
set_option linter.unusedSimpArgs false
namespace Go.Proofs.Ytidobhflijdccaa
open Go.RowKit Cfp
/-- the free slots of a class, from the first one on -/
def Chain (slots : List Slot) : Int → List Nat → Prop
  | f, [] => f = -1
  | f, k :: r => f = (k : Int) ∧ ∃ x, slots[k]? = some x ∧ Chain slots x.next r
theorem Chain.bd {slots : List Slot} {f : Int} {l : List Nat} (h : Chain slots f l) : -1 ≤ f ∧ f < (slots.length : Int) := by
  rcases l with _ | ⟨k, r⟩
  · have : f = -1 := h
    omega
  · obtain ⟨h1, x, h2, _⟩ := h
    have := (List.getElem?_eq_some_iff.1 h2).1
    omega
theorem Chain.mem {slots : List Slot} : ∀ {l : List Nat} {f : Int} {k : Nat}, Chain slots f l → k ∈ l → k < slots.length
  | [], _, _, _, hk => by simp at hk
  | q :: r, f, k, h, hk => by
    obtain ⟨_, x, h2, h3⟩ := h
    rcases List.mem_cons.1 hk with rfl | hk
    · exact (List.getElem?_eq_some_iff.1 h2).1
    · exact Chain.mem h3 hk
theorem Chain.same {slots slots' : List Slot} : ∀ {l : List Nat} {f : Int}, Chain slots f l → (∀ k ∈ l, slots'[k]? = slots[k]?) → Chain slots' f l
  | [], _, h, _ => h
  | q :: r, f, h, he => by
    obtain ⟨h1, x, h2, h3⟩ := h
    exact ⟨h1, x, by rw [he q (List.mem_cons_self ..)]; exact h2, Chain.same h3 (fun k hk => he k (List.mem_cons_of_mem _ hk))⟩
/-- how many slots are in use -/
def usedN : List Slot → Int
  | [] => 0
  | x :: l => (if x.used then 1 else 0) + usedN l
theorem usedN_bd : ∀ l : List Slot, 0 ≤ usedN l ∧ usedN l ≤ l.length
  | [] => by simp [usedN]
  | x :: l => by have := usedN_bd l; simp only [usedN, List.length_cons]; split <;> (push_cast; omega)
theorem usedN_set : ∀ (l : List Slot) (k : Nat) (x y : Slot), l[k]? = some x → usedN (l.set k y) = usedN l - (if x.used then 1 else 0) + (if y.used then 1 else 0)
  | [], _, _, _, h => by simp at h
  | z :: l, 0, x, y, h => by
    simp at h
    subst h
    simp only [List.set_cons_zero, usedN]
    omega
  | z :: l, k + 1, x, y, h => by
    simp only [List.set_cons_succ, usedN]
    rw [usedN_set l k x y (by simpa using h)]
    omega
theorem usedN_app (l : List Slot) (y : Slot) : usedN (l ++ [y]) = usedN l + (if y.used then 1 else 0) := by
  induction l with
  | nil => simp [usedN]
  | cons x l ih => simp only [List.cons_append, usedN, ih]; omega
theorem usedN_one : ∀ (l : List Slot) (k : Nat) (x : Slot), l[k]? = some x → x.used = true → 1 ≤ usedN l
  | [], _, _, h, _ => by simp at h
  | z :: l, 0, x, h, hu => by
    simp at h
    subst h
    have := usedN_bd l
    simp only [usedN, hu, if_true]
    omega
  | z :: l, k + 1, x, h, hu => by
    have := usedN_one l k x (by simpa using h) hu
    simp only [usedN]
    split <;> omega
theorem usedN_full : ∀ (l : List Slot), (∀ x ∈ l, x.used = true) → usedN l = l.length
  | [], _ => rfl
  | x :: l, h => by
    have := usedN_full l (fun y hy => h y (List.mem_cons_of_mem _ hy))
    simp only [usedN, h x (List.mem_cons_self ..), if_true, List.length_cons, this]
    push_cast; omega

/-- a live handle and its bytes -/
def LV (s : Ar) (i k : Nat) (age : Int) (d : List UInt8) : Prop := ∃ c x, s.cls[i]? = some c ∧ c.slots[k]? = some x ∧ x.used = true ∧ x.age = age ∧ x.data = d
structure Inv (s : Ar) (L : Nat → List Nat) (M : Int) : Prop where
  hn : s.cls.length ≤ 8
  hp : 0 < s.cls.length
  ch : ∀ (i : Nat) (c : Cls), s.cls[i]? = some c → ∃ f, s.free[i]? = some f ∧ Chain c.slots f (L i)
  nd : ∀ i, (L i).Nodup
  us : ∀ (i : Nat) (c : Cls) (k : Nat) (x : Slot), s.cls[i]? = some c → c.slots[k]? = some x → (x.used = false ↔ k ∈ L i)
  ag : ∀ (i : Nat) (c : Cls) (k : Nat) (x : Slot), s.cls[i]? = some c → c.slots[k]? = some x → 0 ≤ x.age ∧ x.age ≤ M ∧ x.data.length ≤ 4096
  lv : ∀ (i : Nat) (c : Cls), s.cls[i]? = some c → c.live = usedN c.slots
  cb : ∀ (i : Nat) (c : Cls), s.cls[i]? = some c → (c.slots.length : Int) ≤ c.count ∧ c.count ≤ 65536 ∧ 1 ≤ c.size ∧ c.size ≤ 4096
  fa : 0 ≤ s.faults ∧ s.faults ≤ M
def updL (L : Nat → List Nat) (i : Nat) (r : List Nat) : Nat → List Nat := fun j => if j = i then r else L j
theorem Inv.small {s : Ar} {L : Nat → List Nat} {M : Int} (h : Inv s L M) : Small s := ⟨h.hn, fun i c hc => by
  have h1 := h.lv i c hc
  have h2 := usedN_bd c.slots
  have h3 := h.cb i c hc
  omega⟩
theorem Inv.more {s : Ar} {L : Nat → List Nat} {M M' : Int} (h : Inv s L M) (hm : M ≤ M') : Inv s L M' :=
  ⟨h.hn, h.hp, h.ch, h.nd, h.us, fun i c k x hc hx => by have := h.ag i c k x hc hx; omega, h.lv, h.cb, by have := h.fa; omega⟩
theorem Inv.fault {s : Ar} {L : Nat → List Nat} {M : Int} (h : Inv s L M) : Inv { s with faults := s.faults + 1 } L (M + 1) :=
  ⟨h.hn, h.hp, h.ch, h.nd, h.us, fun i c k x hc hx => by have := h.ag i c k x hc hx; omega, h.lv, h.cb, by have := h.fa; show 0 ≤ s.faults + 1 ∧ s.faults + 1 ≤ M + 1; omega⟩
/-- one class is another -/
theorem Inv.upd {s : Ar} {L : Nat → List Nat} {M M' : Int} (h : Inv s L M) {i : Nat} {c c' : Cls} {f' : Int} {r : List Nat} (hm : M ≤ M') (hc : s.cls[i]? = some c) (hf : i < s.free.length)
    (hch : Chain c'.slots f' r) (hnd : r.Nodup) (hus : ∀ (k : Nat) (x : Slot), c'.slots[k]? = some x → (x.used = false ↔ k ∈ r)) (hag : ∀ (k : Nat) (x : Slot), c'.slots[k]? = some x → 0 ≤ x.age ∧ x.age ≤ M' ∧ x.data.length ≤ 4096)
    (hlv : c'.live = usedN c'.slots) (hcb : (c'.slots.length : Int) ≤ c'.count ∧ c'.count = c.count ∧ c'.size = c.size) :
    Inv { s with free := s.free.set i f', cls := s.cls.set i c' } (updL L i r) M' := by
  have hil := (List.getElem?_eq_some_iff.1 hc).1
  have hself : (s.cls.set i c')[i]? = some c' := by simp [hil]
  have hoth : ∀ j, j ≠ i → (s.cls.set i c')[j]? = s.cls[j]? := fun j hj => by rw [List.getElem?_set, if_neg (fun e => hj e.symm)]
  refine ⟨by simpa using h.hn, by simpa using h.hp, fun j d hd => ?_, fun j => ?_, fun j d k x hd hx => ?_, fun j d k x hd hx => ?_, fun j d hd => ?_, fun j d hd => ?_, by have := h.fa; dsimp only; omega⟩
  · by_cases e : j = i
    · subst e
      dsimp only at hd
      rw [hself] at hd; injection hd with hd; subst hd
      exact ⟨f', by simp [hf], by simpa [updL] using hch⟩
    · dsimp only at hd
      rw [hoth j e] at hd
      obtain ⟨f, h1, h2⟩ := h.ch j d hd
      exact ⟨f, by dsimp only; rw [List.getElem?_set, if_neg (fun q => e q.symm)]; exact h1, by simpa [updL, e] using h2⟩
  · by_cases e : j = i <;> simp [updL, e, hnd, h.nd j]
  · by_cases e : j = i
    · subst e
      dsimp only at hd
      rw [hself] at hd; injection hd with hd; subst hd
      simpa [updL] using hus k x hx
    · dsimp only at hd
      rw [hoth j e] at hd
      simpa [updL, e] using h.us j d k x hd hx
  · by_cases e : j = i
    · subst e
      dsimp only at hd
      rw [hself] at hd; injection hd with hd; subst hd
      exact hag k x hx
    · dsimp only at hd
      rw [hoth j e] at hd
      have := h.ag j d k x hd hx; omega
  · by_cases e : j = i
    · subst e
      dsimp only at hd
      rw [hself] at hd; injection hd with hd; subst hd
      exact hlv
    · dsimp only at hd
      rw [hoth j e] at hd
      exact h.lv j d hd
  · have h1 := h.cb i c hc
    by_cases e : j = i
    · subst e
      dsimp only at hd
      rw [hself] at hd; injection hd with hd; subst hd
      omega
    · dsimp only at hd
      rw [hoth j e] at hd
      exact h.cb j d hd
/-- what is live behind such a change -/
theorem LV.upd {s : Ar} {i k : Nat} {c c' : Cls} {fr : List Int} (hc : s.cls[i]? = some c) (hq : ∀ q, q ≠ k → c'.slots[q]? = c.slots[q]?) (j q : Nat) (g : Int) (d : List UInt8) (hne : ¬ (j = i ∧ q = k)) :
    LV { s with free := fr, cls := s.cls.set i c' } j q g d ↔ LV s j q g d := by
  have hil := (List.getElem?_eq_some_iff.1 hc).1
  unfold LV
  by_cases e : j = i
  · subst e
    have hqk : q ≠ k := fun e => hne ⟨rfl, e⟩
    constructor
    · rintro ⟨c1, x, h1, h2, h3⟩
      have : c1 = c' := by simp [hil] at h1; exact h1.symm
      subst this
      exact ⟨c, x, hc, by rw [← hq q hqk]; exact h2, h3⟩
    · rintro ⟨c1, x, h1, h2, h3⟩
      rw [hc] at h1; injection h1 with h1; subst h1
      exact ⟨c', x, by simp [hil], by rw [hq q hqk]; exact h2, h3⟩
  · have : (s.cls.set i c')[j]? = s.cls[j]? := by rw [List.getElem?_set, if_neg (fun q => e q.symm)]
    simp only [this]
def shapeA (s : Ar) : List (Int × Int) := s.cls.map (fun c => (c.size, c.count))
def livesA (s : Ar) : List Int := s.cls.map (fun c => c.live)
theorem shape_set {s : Ar} {i : Nat} {c c' : Cls} (hc : s.cls[i]? = some c) (h1 : c'.size = c.size) (h2 : c'.count = c.count) : (s.cls.set i c').map (fun c => (c.size, c.count)) = shapeA s := by
  have hil := (List.getElem?_eq_some_iff.1 hc).1
  unfold shapeA
  refine List.ext_getElem? fun j => ?_
  rw [List.getElem?_map, List.getElem?_map, List.getElem?_set]
  split
  · next e => subst e; rw [hc]; simp [h1, h2]
  · rfl
/-- slot (i, k) was taken -/
structure Got (s s' : Ar) (i k : Nat) (age : Int) (size : Int) : Prop where
  lvs : ∀ j q g d, LV s' j q g d ↔ (j = i ∧ q = k ∧ g = age ∧ d = []) ∨ LV s j q g d
  old : ∀ g d, ¬ LV s i k g d
  shape : shapeA s' = shapeA s
  lives : livesA s' = (livesA s).set i ((livesA s).getD i 0 + 1)
  fit : ∃ c, s.cls[i]? = some c ∧ size ≤ c.size ∧ c.live + 1 ≤ c.count
  faults : s'.faults = s.faults
theorem fitK_at {l : List Cls} {size : Int} {i : Nat} {c : Cls} (h : fitK l size = i) (hc : l[i]? = some c) : size ≤ c.size := by
  have hil := (List.getElem?_eq_some_iff.1 hc).1
  unfold fitK at h
  have := List.findIdx_getElem (p := fun c : Cls => decide (size ≤ c.size)) (xs := l) (w := by rw [h]; exact hil)
  simp only [h] at this
  rw [(List.getElem?_eq_some_iff.1 hc).2] at this
  simpa using this
end Go.Proofs.Ytidobhflijdccaa
