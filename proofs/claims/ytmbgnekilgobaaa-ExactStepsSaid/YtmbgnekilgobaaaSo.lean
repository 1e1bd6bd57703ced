/-
  Plain: the stable sort of a list by a weak order, as merges; no program in sight.
-/
import Derived.Test.YtmbgnekilgobaaaBase
set_option linter.unusedVariables false
set_option linter.unusedSimpArgs false
namespace Go.Proofs.Ytmbgnekilgobaaa.Srt
variable {α : Type} {lt : α → α → Bool}
/-- a strict weak order -/
structure Wk (lt : α → α → Bool) : Prop where
  irr : ∀ x, lt x x = false
  tr : ∀ x y z, lt x y = true → lt y z = true → lt x z = true
  nt : ∀ x y z, lt x y = false → lt y z = false → lt x z = false
theorem Wk.asym (h : Wk lt) {x y : α} (hx : lt x y = true) : lt y x = false := by
  rcases e : lt y x with _ | _
  · rfl
  · have := h.tr x y x hx e
    rw [h.irr] at this
    cases this
theorem rev_ind {P : List α → Prop} (h0 : P []) (h1 : ∀ l x, P l → P (l ++ [x])) (l : List α) : P l := by
  rw [← List.reverse_reverse l]
  induction l.reverse with
  | nil => exact h0
  | cons x l ih => rw [List.reverse_cons]; exact h1 _ _ ih
/-- the merge of two lists; of equals the left one comes first -/
def mrg (lt : α → α → Bool) : List α → List α → List α
  | [], B => B
  | x :: A, [] => x :: A
  | x :: A, y :: B => if lt y x then y :: mrg lt (x :: A) B else x :: mrg lt A (y :: B)
termination_by A B => A.length + B.length
theorem mrg_nil (B : List α) : mrg lt [] B = B := by unfold mrg; rfl
theorem mrg_nil' (A : List α) : mrg lt A [] = A := by cases A <;> (unfold mrg; rfl)
theorem mrg_lt {x y : α} {A B : List α} (h : lt y x = true) : mrg lt (x :: A) (y :: B) = y :: mrg lt (x :: A) B := by rw [mrg, if_pos h]
theorem mrg_ge {x y : α} {A B : List α} (h : lt y x = false) : mrg lt (x :: A) (y :: B) = x :: mrg lt A (y :: B) := by rw [mrg, if_neg (by rw [h]; decide)]
theorem mrg_len (A B : List α) : (mrg lt A B).length = A.length + B.length := by
  fun_induction mrg lt A B with
  | case1 B => simp
  | case2 x A => simp
  | case3 x A y B h ih => simp at ih ⊢; omega
  | case4 x A y B h ih => simp at ih ⊢; omega
theorem mrg_mem (A B : List α) : ∀ z, z ∈ mrg lt A B ↔ z ∈ A ∨ z ∈ B := by
  fun_induction mrg lt A B with
  | case1 B => simp
  | case2 x A => simp
  | case3 x A y B h ih => intro z; simp only [List.mem_cons, ih]; constructor <;> (intro h; rcases h with h | h | h <;> simp [h])
  | case4 x A y B h ih =>
    intro z
    simp only [List.mem_cons, ih]
    constructor
    · rintro (h | h | h | h) <;> simp [h]
    · rintro ((h | h) | h | h) <;> simp [h]
theorem mrg_perm (A B : List α) : (mrg lt A B).Perm (A ++ B) := by
  fun_induction mrg lt A B with
  | case1 B => simp
  | case2 x A => simp
  | case3 x A y B h ih => exact (List.Perm.cons y ih).trans (List.perm_middle (a := y) (l₁ := x :: A) (l₂ := B)).symm
  | case4 x A y B h ih => exact List.Perm.cons x ih
/-- the merge in two pieces -/
theorem mrg_cut : ∀ (n : Nat) (A1 A2 B1 B2 : List α), A1.length + B1.length = n → (∀ x ∈ A1, ∀ y ∈ B2, lt y x = false) → (∀ x ∈ A2, ∀ y ∈ B1, lt y x = true) → mrg lt (A1 ++ A2) (B1 ++ B2) = mrg lt A1 B1 ++ mrg lt A2 B2 := by
  intro n
  induction n with
  | zero =>
    intro A1 A2 B1 B2 hn _ _
    obtain rfl : A1 = [] := List.eq_nil_of_length_eq_zero (by omega)
    obtain rfl : B1 = [] := List.eq_nil_of_length_eq_zero (by omega)
    simp [mrg_nil]
  | succ n ih =>
    intro A1 A2 B1 B2 hn h1 h2
    rcases A1 with _ | ⟨x, A1⟩
    · rcases B1 with _ | ⟨y, B1⟩
      · simp at hn
      · rw [mrg_nil]
        rcases A2 with _ | ⟨x, A2⟩
        · simp [mrg_nil]
        · have hxy := h2 x (List.mem_cons_self ..) y (List.mem_cons_self ..)
          rw [List.nil_append, List.cons_append, mrg_lt hxy]
          have := ih [] (x :: A2) B1 B2 (by simp at hn ⊢; omega) (by simp) (fun a ha b hb => h2 a ha b (List.mem_cons_of_mem _ hb))
          rw [List.nil_append, mrg_nil] at this
          rw [this, List.cons_append]
    · rcases B1 with _ | ⟨y, B1⟩
      · rcases B2 with _ | ⟨y, B2⟩
        · simp [mrg_nil']
        · have hxy := h1 x (List.mem_cons_self ..) y (List.mem_cons_self ..)
          rw [List.nil_append, List.cons_append, mrg_ge hxy]
          have := ih A1 A2 [] (y :: B2) (by simp at hn ⊢; omega) (fun a ha b hb => h1 a (List.mem_cons_of_mem _ ha) b hb) (by simp)
          rw [List.nil_append] at this
          rw [this, mrg_nil', mrg_nil', List.cons_append]
      · rcases e : lt y x with _ | _
        · rw [List.cons_append, List.cons_append, mrg_ge e, mrg_ge e]
          have := ih A1 A2 (y :: B1) B2 (by simp at hn ⊢; omega) (fun a ha b hb => h1 a (List.mem_cons_of_mem _ ha) b hb) h2
          rw [List.cons_append] at this
          rw [this, List.cons_append]
        · rw [List.cons_append, List.cons_append, mrg_lt e, mrg_lt e]
          have := ih (x :: A1) A2 B1 B2 (by simp at hn ⊢; omega) h1 (fun a ha b hb => h2 a ha b (List.mem_cons_of_mem _ hb))
          rw [List.cons_append] at this
          rw [this, List.cons_append]
theorem mrg_cut' (A1 A2 B1 B2 : List α) (h1 : ∀ x ∈ A1, ∀ y ∈ B2, lt y x = false) (h2 : ∀ x ∈ A2, ∀ y ∈ B1, lt y x = true) : mrg lt (A1 ++ A2) (B1 ++ B2) = mrg lt A1 B1 ++ mrg lt A2 B2 := mrg_cut _ A1 A2 B1 B2 rfl h1 h2
/-- merging is associative -/
theorem mrg_assoc (hw : Wk lt) : ∀ (n : Nat) (A B C : List α), A.length + B.length + C.length = n → mrg lt (mrg lt A B) C = mrg lt A (mrg lt B C) := by
  intro n
  induction n with
  | zero =>
    intro A B C hn
    obtain rfl : A = [] := List.eq_nil_of_length_eq_zero (by omega)
    simp [mrg_nil]
  | succ n ih =>
    intro A B C hn
    rcases A with _ | ⟨x, A⟩
    · simp [mrg_nil]
    rcases B with _ | ⟨y, B⟩
    · simp [mrg_nil, mrg_nil']
    rcases C with _ | ⟨z, C⟩
    · simp [mrg_nil']
    simp only [List.length_cons] at hn
    rcases eyx : lt y x with _ | _
    · rw [mrg_ge eyx]
      rcases ezx : lt z x with _ | _
      · rw [mrg_ge ezx, ih A (y :: B) (z :: C) (by simp; omega)]
        rcases ezy : lt z y with _ | _
        · rw [mrg_ge ezy, mrg_ge eyx]
        · rw [mrg_lt ezy, mrg_ge ezx]
      · have ezy : lt z y = true := by
          rcases e : lt z y with _ | _
          · have := hw.nt z y x e eyx
            rw [ezx] at this
            cases this
          · rfl
        rw [mrg_lt ezx, mrg_lt ezy, mrg_lt ezx, ← mrg_ge eyx, ih (x :: A) (y :: B) C (by simp; omega)]
    · rw [mrg_lt eyx]
      rcases ezy : lt z y with _ | _
      · rw [mrg_ge ezy, mrg_ge ezy, mrg_lt eyx, ih (x :: A) B (z :: C) (by simp; omega)]
      · have ezx := hw.tr z y x ezy eyx
        rw [mrg_lt ezy, mrg_lt ezy, mrg_lt ezx, ← mrg_lt eyx, ih (x :: A) (y :: B) C (by simp; omega)]
/-- the stable sort: each one is merged in behind -/
def srt (lt : α → α → Bool) (l : List α) : List α := l.foldl (fun out x => mrg lt out [x]) []
theorem srt_nil : srt lt ([] : List α) = [] := rfl
theorem srt_snoc (l : List α) (x : α) : srt lt (l ++ [x]) = mrg lt (srt lt l) [x] := by simp [srt, List.foldl_append]
theorem srt_one (x : α) : srt lt [x] = [x] := by simp [srt, mrg_nil]
theorem srt_len : ∀ l : List α, (srt lt l).length = l.length := by
  intro l
  induction l using rev_ind with
  | h0 => rfl
  | h1 l x ih => rw [srt_snoc, mrg_len, ih]; simp
theorem srt_perm : ∀ l : List α, (srt lt l).Perm l := by
  intro l
  induction l using rev_ind with
  | h0 => exact List.Perm.refl _
  | h1 l x ih => rw [srt_snoc]; exact (mrg_perm _ _).trans (ih.append_right _)
theorem srt_app (hw : Wk lt) (A : List α) : ∀ B : List α, srt lt (A ++ B) = mrg lt (srt lt A) (srt lt B) := by
  intro B
  induction B using rev_ind with
  | h0 => simp [srt_nil, mrg_nil']
  | h1 B x ih => rw [← List.append_assoc, srt_snoc, ih, srt_snoc, mrg_assoc hw _ _ _ _ rfl]
/-- in order -/
def Sd (lt : α → α → Bool) (l : List α) : Prop := l.Pairwise (fun x y => lt y x = false)
theorem mrg_sd (hw : Wk lt) (A B : List α) : Sd lt A → Sd lt B → Sd lt (mrg lt A B) := by
  fun_induction mrg lt A B with
  | case1 B => exact fun _ h => h
  | case2 x A => exact fun h _ => h
  | case3 x A y B h ih =>
    intro hA hB
    have hB' := List.pairwise_cons.1 hB
    have hA' := List.pairwise_cons.1 hA
    refine List.pairwise_cons.2 ⟨fun z hz => ?_, ih hA hB'.2⟩
    rcases (mrg_mem _ _ z).1 hz with hz | hz
    · rcases List.mem_cons.1 hz with rfl | hz
      · exact hw.asym h
      · exact hw.nt z x y (hA'.1 z hz) (hw.asym h)
    · exact hB'.1 z hz
  | case4 x A y B h ih =>
    intro hA hB
    have hB' := List.pairwise_cons.1 hB
    have hA' := List.pairwise_cons.1 hA
    have h : lt y x = false := by simpa using h
    refine List.pairwise_cons.2 ⟨fun z hz => ?_, ih hA'.2 hB⟩
    rcases (mrg_mem _ _ z).1 hz with hz | hz
    · exact hA'.1 z hz
    · rcases List.mem_cons.1 hz with rfl | hz
      · exact h
      · exact hw.nt z y x (hB'.1 z hz) h
theorem srt_sd (hw : Wk lt) : ∀ l : List α, Sd lt (srt lt l) := by
  intro l
  induction l using rev_ind with
  | h0 => exact List.Pairwise.nil
  | h1 l x ih => rw [srt_snoc]; exact mrg_sd hw _ _ ih (List.pairwise_singleton _ _)
/-- x among a list in order: behind A1, before A2 -/
theorem mrg_in (A1 A2 : List α) (x : α) (h1 : ∀ y ∈ A1, lt x y = false) (h2 : ∀ y ∈ A2, lt x y = true) : mrg lt (A1 ++ A2) [x] = A1 ++ x :: A2 := by
  have e1 := mrg_cut' (lt := lt) A1 A2 [x] [] (by simp) (by simpa using h2)
  have e2 := mrg_cut' (lt := lt) A1 [] [] [x] (by simpa using h1) (by simp)
  simp [mrg_nil, mrg_nil'] at e1 e2
  rw [e1, e2]
  simp
/-- a list in order, cut at a place -/
theorem Sd.left (hw : Wk lt) {A : List α} {z x : α} (h : Sd lt (A ++ [z])) (hz : lt x z = false) : ∀ y ∈ A ++ [z], lt x y = false := by
  intro y hy
  rcases List.mem_append.1 hy with hy | hy
  · have := (List.pairwise_append.1 h).2.2 y hy z (List.mem_singleton.2 rfl)
    exact hw.nt x z y hz this
  · rw [List.mem_singleton.1 hy]; exact hz
theorem Sd.right (hw : Wk lt) {A : List α} {z x : α} (h : Sd lt (z :: A)) (hz : lt x z = true) : ∀ y ∈ z :: A, lt x y = true := by
  intro y hy
  rcases List.mem_cons.1 hy with rfl | hy
  · exact hz
  · have := (List.pairwise_cons.1 h).1 y hy
    rcases e : lt x y with _ | _
    · have := hw.nt x y z e this
      rw [hz] at this
      cases this
    · rfl
/-- a piece of a list -/
def seg (l : List α) (a b : Nat) : List α := (l.drop a).take (b - a)
theorem seg_len (l : List α) (a b : Nat) : (seg l a b).length = min b l.length - a := by simp [seg]; omega
theorem seg_nil (l : List α) {a b : Nat} (h : b ≤ a) : seg l a b = [] := by simp [seg, show b - a = 0 by omega]
theorem seg_app (l : List α) {a b c : Nat} (h : a ≤ b) (h' : b ≤ c) : seg l a b ++ seg l b c = seg l a c := by
  unfold seg
  rw [show c - a = (b - a) + (c - b) by omega, List.take_add, List.drop_drop, show a + (b - a) = b by omega]
theorem seg_get (l : List α) (a b j : Nat) : (seg l a b)[j]? = if a + j < b then l[a + j]? else none := by
  unfold seg
  rw [List.getElem?_take, List.getElem?_drop]
  by_cases h : a + j < b
  · rw [if_pos (by omega), if_pos h]
  · rw [if_neg (by omega), if_neg h]
theorem seg_all (l : List α) {b : Nat} (h : l.length ≤ b) : seg l 0 b = l := by simp [seg, List.take_of_length_le h]
theorem seg_cut (l : List α) {a b : Nat} (h : a ≤ b) : l = l.take a ++ seg l a b ++ l.drop b := by
  unfold seg
  rw [List.append_assoc, show l.drop b = (l.drop a).drop (b - a) by rw [List.drop_drop]; congr 1; omega, List.take_append_drop, List.take_append_drop]
theorem seg_one (l : List α) {a : Nat} {x : α} (h : l[a]? = some x) : seg l a (a + 1) = [x] := by
  refine List.ext_getElem? fun j => ?_
  rw [seg_get]
  rcases j with _ | j
  · simp [h]
  · simp [show ¬ a + (j + 1) < a + 1 by omega]
/-- l with the piece from a to b replaced by P -/
def put (l : List α) (a b : Nat) (P : List α) : List α := l.take a ++ P ++ l.drop b
theorem put_len (l : List α) {a b : Nat} (P : List α) (h : a ≤ b) (hb : b ≤ l.length) (hP : P.length = b - a) : (put l a b P).length = l.length := by simp [put, hP]; omega
theorem put_get (l : List α) {a b : Nat} (P : List α) (h : a ≤ b) (hb : b ≤ l.length) (hP : P.length = b - a) (j : Nat) : (put l a b P)[j]? = if j < a then l[j]? else if j < b then P[j - a]? else l[j]? := by
  unfold put
  by_cases h1 : j < a
  · rw [if_pos h1, List.append_assoc, List.getElem?_append_left (by simp; omega), List.getElem?_take, if_pos h1]
  · rw [if_neg h1]
    by_cases h2 : j < b
    · rw [if_pos h2, List.append_assoc, List.getElem?_append_right (by simp; omega), List.getElem?_append_left (by simp; omega)]
      congr 1
      simp; omega
    · rw [if_neg h2, List.getElem?_append_right (by simp; omega), List.getElem?_drop]
      congr 1
      simp; omega
theorem seg_put_in (l : List α) {a b : Nat} (P : List α) (h : a ≤ b) (hb : b ≤ l.length) (hP : P.length = b - a) : seg (put l a b P) a b = P := by
  refine List.ext_getElem? fun j => ?_
  rw [seg_get, put_get l P h hb hP]
  by_cases h1 : a + j < b
  · rw [if_pos h1, if_neg (by omega), if_pos h1]; congr 1; omega
  · rw [if_neg h1, List.getElem?_eq_none (by omega)]
theorem seg_put_out (l : List α) {a b : Nat} (P : List α) (h : a ≤ b) (hb : b ≤ l.length) (hP : P.length = b - a) (c d : Nat) (ho : d ≤ a ∨ b ≤ c) : seg (put l a b P) c d = seg l c d := by
  refine List.ext_getElem? fun j => ?_
  rw [seg_get, seg_get]
  split
  · rw [put_get l P h hb hP]
    rcases ho with ho | ho
    · rw [if_pos (by omega)]
    · rw [if_neg (by omega), if_neg (by omega)]
  · rfl
theorem put_put (l : List α) {a b c d : Nat} (P Q : List α) (h : a ≤ b) (hb : b ≤ l.length) (hP : P.length = b - a) (hc : a ≤ c) (hd : d ≤ b) (hcd : c ≤ d) (hQ : Q.length = d - c) : put (put l a b P) c d Q = put l a b (put P (c - a) (d - a) Q) := by
  have hl := put_len l P h hb hP
  have hP2 : (put P (c - a) (d - a) Q).length = b - a := by rw [put_len _ _ (by omega) (by omega) (by omega), hP]
  refine List.ext_getElem? fun j => ?_
  rw [put_get _ Q hcd (by omega) hQ, put_get l P h hb hP, put_get l _ h hb hP2, put_get P Q (by omega) (by omega) (by omega)]
  by_cases h1 : j < a
  · rw [if_pos (by omega), if_pos h1, if_pos h1]
  · rw [if_neg h1, if_neg h1]
    by_cases h2 : j < c
    · rw [if_pos h2, if_pos (show j - a < c - a by omega)]
    · rw [if_neg h2, if_neg (show ¬ j - a < c - a by omega)]
      by_cases h3 : j < d
      · rw [if_pos h3, if_pos (show j < b by omega), if_pos (show j - a < d - a by omega)]
        congr 1; omega
      · rw [if_neg h3, if_neg (show ¬ j - a < d - a by omega)]
theorem put_same (l : List α) {a b : Nat} (h : a ≤ b) (hb : b ≤ l.length) : put l a b (seg l a b) = l := (seg_cut l h).symm
/-- two in a list change places -/
def swp (l : List α) (i j : Nat) : List α := match l[i]?, l[j]? with
  | some x, some y => (l.set i y).set j x
  | _, _ => l
theorem swp_len (l : List α) (i j : Nat) : (swp l i j).length = l.length := by unfold swp; split <;> simp
theorem swp_get (l : List α) {i j : Nat} (hi : i < l.length) (hj : j < l.length) (q : Nat) : (swp l i j)[q]? = if q = i then l[j]? else if q = j then l[i]? else l[q]? := by
  unfold swp
  rw [List.getElem?_eq_getElem hi, List.getElem?_eq_getElem hj]
  dsimp only
  rw [List.getElem?_set, List.getElem?_set]
  by_cases h1 : q = i
  · subst h1
    by_cases h2 : j = q
    · subst h2; simp [hi]
    · simp [h2, hi]
  · by_cases h2 : j = q
    · subst h2; simp [h1, hj]
    · have h3 : ¬ i = q := fun e => h1 e.symm
      have h4 : ¬ q = j := fun e => h2 e.symm
      simp [h1, h2, h3, h4]
end Go.Proofs.Ytmbgnekilgobaaa.Srt
