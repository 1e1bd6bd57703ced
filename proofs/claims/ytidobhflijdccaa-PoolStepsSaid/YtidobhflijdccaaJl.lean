/-
  Both arenas side by side: each call of the program's arena, and the reference's answer to the same call. No conditions beyond those of the statement.
-/
import Derived.Test.YtidobhflijdccaaJj
import Derived.Test.YtidobhflijdccaaJk
set_option linter.unusedVariables false
set_option linter.unusedSimpArgs false
namespace Go.Proofs.Ytidobhflijdccaa
open Go.RowKit Cfp
def BothOf (w : World) (B a : Nat) (G : Nat → Prop) (b : Nat) (M : Int) (N : Nat) (s : Ar) (L : Nat → List Nat) (ρ : RA) : Prop :=
  IsAr w B a s ∧ Inv s L M ∧ IsRA w G b ρ ∧ Rel s L ρ ∧ ρ.slots.length ≤ N ∧ ρ.free.length ≤ N
/-- the program's arena in block a, the reference's in block b, alike -/
def Both (w : World) (B a : Nat) (G : Nat → Prop) (b : Nat) (M : Int) (N : Nat) : Prop := ∃ s L ρ, BothOf w B a G b M N s L ρ
section
variable {w w' : World} {B a b N : Nat} {G : Nat → Prop} {M : Int} {s : Ar} {L : Nat → List Nat} {ρ : RA}
theorem RS.other {k : Nat} (h : RS G w k) : Other w B k := by
  obtain ⟨_, cs, t, h1, h2⟩ := h
  refine .inr ⟨cs, t, h1, ?_⟩
  rcases h2 with rfl | rfl | rfl <;> decide
theorem ArS.ro {k : Nat} (h : ArS B w k) : RO G w k := by
  obtain ⟨_, cs, t, h1, h2⟩ := h
  refine .inr ⟨cs, t, h1, ?_⟩
  rcases h2 with rfl | rfl | rfl <;> decide
theorem shape_at {i : Nat} {c : Cls} (h : Rel s L ρ) (hc : s.cls[i]? = some c) : ρ.sh[i]? = some (c.size, c.count) := by rw [← h.sh]; simp [shapeA, hc]
theorem fitP_shape (h : Rel s L ρ) (size : Int) : fitP ρ.sh size = fitK s.cls size := by
  rw [← h.sh]
  unfold fitP fitK shapeA
  rw [List.findIdx_map]
  rfl
theorem sh_len (h : Rel s L ρ) : ρ.sh.length = s.cls.length := by rw [← h.sh, shape_len]
theorem filterMap_nil {f : Nat → Option Nat} {l : List Nat} (h : l.filterMap f = []) : ∀ j ∈ l, f j = none := by
  rw [List.filterMap_eq_nil_iff] at h
  exact h
theorem last_fk {f : Nat → Option Nat} {k : Nat} (l : List Nat) : ∀ (r : List Nat), (l.filterMap f).reverse = k :: r → ∃ p j : Nat, l[p]? = some j ∧ f j = some k ∧ ∀ q j' : Nat, p < q → l[q]? = some j' → f j' = none := by
  induction l with
  | nil => intro r h; simp at h
  | cons x l ih =>
    intro r h
    rcases e : l.filterMap f with _ | ⟨y, t⟩
    · rcases e2 : f x with _ | z
      · rw [List.filterMap_cons_none e2, e] at h; simp at h
      · rw [List.filterMap_cons_some e2, e] at h
        simp at h
        refine ⟨0, x, rfl, by rw [e2, h.1], fun q j' hq hj' => ?_⟩
        obtain ⟨q, rfl⟩ : ∃ q', q = q' + 1 := ⟨q - 1, by omega⟩
        exact filterMap_nil e j' (List.mem_of_getElem? (by simpa using hj'))
    · have h2 : ∃ r', (l.filterMap f).reverse = k :: r' := by
        rcases e2 : f x with _ | z
        · rw [List.filterMap_cons_none e2] at h; exact ⟨_, h⟩
        · rw [List.filterMap_cons_some e2, List.reverse_cons] at h
          rcases e3 : (l.filterMap f).reverse with _ | ⟨u, v⟩
          · rw [e] at e3; simp at e3
          · rw [e3] at h
            simp at h
            exact ⟨v, by rw [h.1]⟩
      obtain ⟨r', h2⟩ := h2
      obtain ⟨p, j, h3, h4, h5⟩ := ih r' h2
      exact ⟨p + 1, j, by simpa using h3, h4, fun q j' hq hj' => by
        obtain ⟨q, rfl⟩ : ∃ q', q = q' + 1 := ⟨q - 1, by omega⟩
        exact h5 q j' (by omega) (by simpa using hj')⟩
/-- what the reference answers to the same call -/
def RAns (f : FuncId) (args : Array Value) (B a : Nat) (G : Nat → Prop) (b : Nat) (M : Int) (N : Nat) (v : Value) (w1 : World) : Prop :=
  ∀ w2, Keeps (fun _ => False) w1 w2 → Calls Try.prog f args w2 fun e w3 => e = .returned v ∧ Both w3 B a G b M N ∧ Keeps (RS G w2) w2 w3
/-- Alloc of both -/
def AllocB (w : World) (B a : Nat) (G : Nat → Prop) (b : Nat) (M : Int) (N : Nat) (size : Int) (e : Ending) (w1 : World) : Prop :=
  ∃ c k g er : Int, e = .returned (.tuple #[.agg #[.int .i64 c, .int .i64 k, .int .i64 g], .int .i64 er]) ∧ Keeps (ArS B w) w w1 ∧ RAns 29 #[.pointer (some ⟨b, 0, none⟩), .int .i64 size] B a G b (M + 1) (N + 1) (.tuple #[.agg #[.int .i64 c, .int .i64 k, .int .i64 g], .int .i64 er]) w1
theorem Both.bounds (h : BothOf w B a G b M N s L ρ) : ρ.sh.length ≤ 8 ∧ (∀ x ∈ ρ.sh, 0 ≤ x.1 ∧ x.1 ≤ 4096) ∧ (∀ j ∈ ρ.free, j < ρ.slots.length) := by
  obtain ⟨h1, h2, h3, h4, h5, h6⟩ := h
  refine ⟨by rw [sh_len h4]; exact h2.hn, fun x hx => ?_, h4.fb⟩
  obtain ⟨i, hi⟩ := List.getElem?_of_mem hx
  rw [← h4.sh] at hi
  simp [shapeA] at hi
  obtain ⟨c, hc, rfl⟩ := hi
  have := h2.cb i c hc
  dsimp only
  omega
theorem alloc_both (h : Both w B a G b M N) (hM : 0 ≤ M ∧ M < 1000000000) (hN : N ≤ 1000000) (hB : B ≤ w.heap.size) (hG : ∀ k, G k → k < w.heap.size) (size : Int) :
    Calls Try.prog 22 #[.pointer (some ⟨a, 0, none⟩), .int .i64 size] w (AllocB w B a G b M N size) := by
  obtain ⟨s, L, ρ, h⟩ := h
  obtain ⟨n8, hsh, hfb⟩ := Both.bounds h
  obtain ⟨h1, h2, h3, h4, h5, h6⟩ := h
  refine (alloc_x B a s L M size w h1 h2 hM hB).mono ?_
  rintro e w1 hx
  cases hx with
  | range he h k hr =>
    refine ⟨0, 0, 0, 1, he, k.weak (fun _ _ h => h.elim), fun w2 k2 => ?_⟩
    obtain ⟨LA, lc, SA, sc, FA, fc, q, hm⟩ := (h3.quiet k).quiet k2
    refine (ralloc_range w2 G b ρ LA lc SA sc FA fc q size hm n8 (by rw [fitP_shape h4, sh_len h4]; exact hr)).mono ?_
    rintro e w3 ⟨rfl, k3⟩
    exact ⟨rfl, ⟨s, L, ρ, (h.quiet k2).quiet k3, h2.more (by omega), ⟨_, _, _, _, _, _, _, hm.quiet k3⟩, h4, by omega, by omega⟩, k3.weak (fun _ _ h => h.elim)⟩
  | full i c he h k h1s hc hf hL hn =>
    refine ⟨0, 0, 0, 7, he, k.weak (fun _ _ h => h.elim), fun w2 k2 => ?_⟩
    obtain ⟨LA, lc, SA, sc, FA, fc, q, hm⟩ := (h3.quiet k).quiet k2
    have hil : i < ρ.sh.length := by rw [sh_len h4]; exact (List.getElem?_eq_some_iff.1 hc).1
    have hsl : slen s i = c.slots.length := by unfold slen; rw [hc]
    have hno : ∀ p j, 0 ≤ p → ρ.free[p]? = some j → fk ρ.slots i j = none := fun p j _ hp => by
      have := h4.fr i
      rw [hL, List.reverse_eq_nil_iff] at this
      exact filterMap_nil this j (List.mem_of_getElem? hp)
    refine (ralloc_full w2 G b ρ LA lc SA sc FA fc q size i (slen s i) (c.size, c.count) hm n8 (by omega) (by omega) (fun p hp => by have := hG p hp; have := k2.size; have := k.size; omega) h1s (by rw [fitP_shape h4]; exact hf) hil hfb hno (shape_at h4 hc) h4.nl (h4.nx i hil) (by rw [hsl]; exact hn)).mono ?_
    rintro e w3 ⟨rfl, k3⟩
    exact ⟨rfl, ⟨s, L, ρ, (h.quiet k2).quiet k3, h2.more (by omega), ⟨_, _, _, _, _, _, _, hm.quiet k3⟩, h4, by omega, by omega⟩, k3.weak (fun _ _ h => h.elim)⟩
  | fresh i c s' he h v g h1s hc hf hL hn hs k =>
    refine ⟨i, (c.slots.length : Nat), 1, 0, he, k, fun w2 k2 => ?_⟩
    obtain ⟨LA, lc, SA, sc, FA, fc, q, hm⟩ := (h3.kept k (fun _ e => e.ro)).quiet k2
    have hil : i < ρ.sh.length := by rw [sh_len h4]; exact (List.getElem?_eq_some_iff.1 hc).1
    have hsl : slen s i = c.slots.length := by unfold slen; rw [hc]
    have hcb := h2.cb i c hc
    have hno : ∀ p j, 0 ≤ p → ρ.free[p]? = some j → fk ρ.slots i j = none := fun p j _ hp => by
      have := h4.fr i
      rw [hL, List.reverse_eq_nil_iff] at this
      exact filterMap_nil this j (List.mem_of_getElem? hp)
    rw [← hsl] at g hs ⊢
    refine (ralloc_fresh w2 G b ρ LA lc SA sc FA fc q size i (slen s i) (c.size, c.count) hm n8 (by omega) (by omega) (fun p hp => by have := hG p hp; have := k2.size; have := k.size; omega) h1s (by rw [fitP_shape h4]; exact hf) hil hfb hno (shape_at h4 hc) h4.nl (h4.nx i hil) (by rw [hsl]; exact hn) hcb.2.1).mono ?_
    rintro e w3 ⟨rfl, r3, k3⟩
    exact ⟨rfl, ⟨s', L, _, (h.quiet k2).kept k3 (fun _ e => e.other), v, r3, h4.fresh hil g hs, by simp; omega, by show ρ.free.length ≤ N + 1; omega⟩, k3⟩
  | again i c x j r s' he h v g h1s hc hf hL hx hu hs ha k =>
    refine ⟨i, (j : Nat), x.age + 1, 0, he, k, fun w2 k2 => ?_⟩
    obtain ⟨LA, lc, SA, sc, FA, fc, q, hm⟩ := (h3.kept k (fun _ e => e.ro)).quiet k2
    have hil : i < ρ.sh.length := by rw [sh_len h4]; exact (List.getElem?_eq_some_iff.1 hc).1
    have hfr := h4.fr i
    rw [hL] at hfr
    obtain ⟨p, jj, hp, hfk, hlast⟩ := last_fk ρ.free r hfr
    obtain ⟨y, hy, hyc, hyk⟩ : ∃ y, ρ.slots[jj]? = some y ∧ y.c = i ∧ y.k = j := by
      unfold fk at hfk
      split at hfk
      · next y hy =>
        split at hfk
        · next e => injection hfk with hfk; exact ⟨y, hy, e, hfk⟩
        · cases hfk
      · cases hfk
    obtain ⟨d, hv, _⟩ := h4.on jj y hy
    rw [hyc, hyk, svw_at hc hx] at hv
    injection hv with hv
    injection hv with hv1 hv2
    injection hv2 with hv2 _
    subst hyc hyk
    rw [hv1] at g ha ⊢
    refine (ralloc_again w2 G b ρ LA lc SA sc FA fc q size y.c p jj y hm n8 (by omega) (by omega) (fun p hp => by have := hG p hp; have := k2.size; have := k.size; omega) h1s (by rw [fitP_shape h4]; exact hf) hil hfb (fun p' j' h5 h6 => hlast p' j' (by omega) h6) hp hy rfl (by omega)).mono ?_
    rintro e w3 ⟨rfl, r3, k3⟩
    exact ⟨rfl, ⟨s', _, _, (h.quiet k2).kept k3 (fun _ e => e.other), v, r3, h4.again hy (by rw [← hv2]; exact hu) hp hlast hL g hs, by simp; omega, by simp; omega⟩, k3⟩
end
end Go.Proofs.Ytidobhflijdccaa
