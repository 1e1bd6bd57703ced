/-
  An arena whose bytes are left aside. No conditions beyond those of the statement. Alloc's answer, plain, and the reference's Alloc beside it. No conditions beyond those of the statement. The reference's Alloc, where the program's answer is known. No conditions beyond those of the statement. What AllocP, and the exact Write and Free, say of the live slots. No conditions beyond those of the statement. AllocP: the slot that was got. No conditions beyond those of the statement.
-/
import Derived.Test.YtidobhflijdccaaJl
set_option linter.unusedVariables false
set_option linter.unusedSimpArgs false
namespace Go.Proofs.Ytidobhflijdccaa
open Go.RowKit Cfp
def erS (x : Slot) : Slot := { x with D := none, dc := 0, data := [] }
def erC (c : Cls) : Cls := { c with slots := c.slots.map erS }
/-- the same arena, but its slots hold no bytes -/
def er (s : Ar) : Ar := { s with cls := s.cls.map erC }
section
variable {s s' : Ar} {L : Nat → List Nat} {ρ : RA}
theorem er_cls (s : Ar) (i : Nat) : (er s).cls[i]? = (s.cls[i]?).map erC := by simp [er]
theorem svw_er (s : Ar) (i k : Nat) : svw (er s) i k = (svw s i k).map (fun v => (v.1, v.2.1, [])) := by
  unfold svw
  rw [er_cls]
  rcases s.cls[i]? with _ | c
  · rfl
  · simp only [Option.map_some, erC, List.getElem?_map]
    rcases c.slots[k]? with _ | x <;> rfl
theorem slen_er (s : Ar) (i : Nat) : slen (er s) i = slen s i := by
  unfold slen
  rw [er_cls]
  rcases s.cls[i]? with _ | c
  · rfl
  · simp [erC]
theorem shape_er (s : Ar) : shapeA (er s) = shapeA s := by simp [shapeA, er, erC]
theorem lives_er (s : Ar) : livesA (er s) = livesA s := by simp [livesA, er, erC]
theorem Step.er {i k : Nat} {g : Int} {u : Bool} {d : List UInt8} {n : Int} (h : Step s s' i k (g, u, d) n) : Step (er s) (er s') i k (g, u, []) n :=
  ⟨fun j q => by rw [svw_er, svw_er, h.vw]; split <;> rfl, by rw [shape_er, shape_er, h.shape], by rw [lives_er, lives_er, h.lives], by have := h.il; simpa [Go.Proofs.Ytidobhflijdccaa.er] using this, h.faults⟩
/-- what the relation looks at -/
theorem Rel.like (h : Rel s L ρ) (h1 : shapeA s' = shapeA s) (h2 : s'.faults = s.faults) (h3 : ∀ i, slen s' i = slen s i) (h4 : ∀ i k, svw s' i k = svw s i k) (h5 : livesA s' = livesA s) : Rel s' L ρ :=
  ⟨h1.trans h.sh, h2.trans h.fa, h.nl, fun i hi => by rw [h3]; exact h.nx i hi, fun j x hx => by rw [h4]; exact h.on j x hx, h.inj, fun i k hk => h.all i k (by rw [← h3]; exact hk), h.fr, h.fb, fun i hi => by rw [h5]; exact h.lv i hi⟩
/-- a Write is not seen -/
theorem Rel.unseen (h : Rel (er s) L ρ) {i k : Nat} {g : Int} {d d' : List UInt8} (hv : svw s i k = some (g, true, d)) (st : Step s s' i k (g, true, d') 0) (hs : ∀ q, slen s' q = slen s q) : Rel (er s') L ρ := by
  have e := st.er
  refine h.like e.shape e.faults (fun q => by rw [slen_er, slen_er, hs]) (fun j q => ?_) ?_
  · rw [e.vw]
    split
    · next e1 => rw [e1.1, e1.2, svw_er, hv]; rfl
    · rfl
  · rw [e.lives]
    refine List.ext_getElem? fun j => ?_
    rw [List.getElem?_set]
    split
    · next e1 =>
      subst e1
      have hi : i < (livesA (Go.Proofs.Ytidobhflijdccaa.er s)).length := by rw [livesA_len]; exact e.il
      rw [if_pos hi, List.getElem?_eq_getElem hi]
      simp [List.getD, List.getElem?_eq_getElem hi]
    · rfl
end
end Go.Proofs.Ytidobhflijdccaa

set_option linter.unusedVariables false
set_option linter.unusedSimpArgs false
namespace Go.Proofs.Ytidobhflijdccaa
open Go.RowKit Cfp
/-- what Alloc answers, and how the arena stands behind it -/
inductive AllocP (s : Ar) (L : Nat → List Nat) (size : Int) : Int → Int → Int → Int → Ar → (Nat → List Nat) → Prop
  | range (hr : size < 1 ∨ fitK s.cls size = s.cls.length) : AllocP s L size 0 0 0 1 s L
  | full (i : Nat) (c : Cls) (h1 : 1 ≤ size) (hc : s.cls[i]? = some c) (hf : fitK s.cls size = i) (hL : L i = []) (hn : (c.slots.length : Int) = c.count) : AllocP s L size 0 0 0 7 s L
  | fresh (i : Nat) (c : Cls) (s' : Ar) (g : Step s s' i c.slots.length (1, true, []) 1) (h1 : 1 ≤ size) (hc : s.cls[i]? = some c) (hf : fitK s.cls size = i) (hL : L i = []) (hn : (c.slots.length : Int) < c.count) (hs : ∀ j, slen s' j = if j = i then c.slots.length + 1 else slen s j) : AllocP s L size i (c.slots.length : Nat) 1 0 s' L
  | again (i : Nat) (c : Cls) (x : Slot) (j : Nat) (r : List Nat) (s' : Ar) (g : Step s s' i j (x.age + 1, true, []) 1) (h1 : 1 ≤ size) (hc : s.cls[i]? = some c) (hf : fitK s.cls size = i) (hL : L i = j :: r) (hx : c.slots[j]? = some x) (hu : x.used = false) (hs : ∀ q, slen s' q = slen s q) (ha : 0 ≤ x.age ∧ x.age < 1000000000) : AllocP s L size i j (x.age + 1) 0 s' (updL L i r)
theorem fit_er (s : Ar) (size : Int) : fitK (er s).cls size = fitK s.cls size := by
  unfold fitK er
  rw [List.findIdx_map]
  rfl
theorem AllocP.er {s s' : Ar} {L L' : Nat → List Nat} {size c k g e : Int} (h : AllocP s L size c k g e s' L') : AllocP (er s) L size c k g e (er s') L' := by
  cases h with
  | range hr => exact .range (by rw [fit_er]; simpa [Go.Proofs.Ytidobhflijdccaa.er] using hr)
  | full i c h1 hc hf hL hn => exact .full i (erC c) h1 (by rw [er_cls, hc]; rfl) (by rw [fit_er]; exact hf) hL (by simpa [erC] using hn)
  | fresh i c _ g h1 hc hf hL hn hs =>
    have := AllocP.fresh (s := Go.Proofs.Ytidobhflijdccaa.er s) (s' := Go.Proofs.Ytidobhflijdccaa.er s') (L := L) (size := size) i (erC c) (by simpa [erC] using g.er) h1 (by rw [er_cls, hc]; rfl) (by rw [fit_er]; exact hf) hL (by simpa [erC] using hn) (fun j => by rw [slen_er, slen_er, hs]; simp [erC])
    simpa [erC] using this
  | again i c x j r _ g h1 hc hf hL hx hu hs ha => exact .again i (erC c) (erS x) j r _ g.er h1 (by rw [er_cls, hc]; rfl) (by rw [fit_er]; exact hf) hL (by simp [erC, hx]) hu (fun q => by rw [slen_er, slen_er, hs]) ha
theorem AllocX.plain {w w' : World} {B a : Nat} {s : Ar} {L : Nat → List Nat} {M size : Int} {e : Ending} (h : AllocX w B a s L M size e w') (v : Inv s L M) (hM : M < 1000000000) :
    ∃ (c k g er : Int) (s' : Ar) (L' : Nat → List Nat), e = .returned (.tuple #[.agg #[.int .i64 c, .int .i64 k, .int .i64 g], .int .i64 er]) ∧ IsAr w' B a s' ∧ Inv s' L' (M + 1) ∧ AllocP s L size c k g er s' L' ∧ Keeps (ArS B w) w w' := by
  cases h with
  | range he h k hr => exact ⟨_, _, _, _, _, _, he, h, v.more (by omega), .range hr, k.weak (fun _ _ h => h.elim)⟩
  | full i c he h k h1 hc hf hL hn => exact ⟨_, _, _, _, _, _, he, h, v.more (by omega), .full i c h1 hc hf hL hn, k.weak (fun _ _ h => h.elim)⟩
  | fresh i c s' he h v g h1 hc hf hL hn hs k => exact ⟨_, _, _, _, _, _, he, h, v, .fresh i c s' g h1 hc hf hL hn hs, k⟩
  | again i c x j r s' he h v g h1 hc hf hL hx hu hs ha k => exact ⟨_, _, _, _, _, _, he, h, v, .again i c x j r s' g h1 hc hf hL hx hu hs (by omega), k⟩
end Go.Proofs.Ytidobhflijdccaa

set_option linter.unusedVariables false
set_option linter.unusedSimpArgs false
namespace Go.Proofs.Ytidobhflijdccaa
open Go.RowKit Cfp
theorem ref_alloc {s s' : Ar} {L L' : Nat → List Nat} {size c k g e : Int} {ρ : RA} {w : World} {G : Nat → Prop} {b : Nat} (h : AllocP s L size c k g e s' L') (h4 : Rel s L ρ) (n8 : s.cls.length ≤ 8)
    (hcb : ∀ (i : Nat) (c : Cls), s.cls[i]? = some c → (c.slots.length : Int) ≤ c.count ∧ c.count ≤ 65536 ∧ 1 ≤ c.size ∧ c.size ≤ 4096) (h3 : IsRA w G b ρ) (h5 : ρ.slots.length ≤ 1000000) (h6 : ρ.free.length ≤ 1000000) (hG : ∀ k, G k → k < w.heap.size) :
    Calls Try.prog 29 #[.pointer (some ⟨b, 0, none⟩), .int .i64 size] w fun en w3 => en = .returned (.tuple #[.agg #[.int .i64 c, .int .i64 k, .int .i64 g], .int .i64 e]) ∧ (∃ ρ', IsRA w3 G b ρ' ∧ Rel s' L' ρ' ∧ ρ'.slots.length ≤ ρ.slots.length + 1 ∧ ρ'.free.length ≤ ρ.free.length) ∧ Keeps (RS G w) w w3 := by
  have r8 : ρ.sh.length ≤ 8 := by rw [sh_len h4]; exact n8
  have hfb := h4.fb
  obtain ⟨LA, lc, SA, sc, FA, fc, q, hm⟩ := h3
  cases h with
  | range hr =>
    refine (ralloc_range w G b ρ LA lc SA sc FA fc q size hm r8 (by rw [fitP_shape h4, sh_len h4]; exact hr)).mono ?_
    rintro e w3 ⟨rfl, k3⟩
    exact ⟨rfl, ⟨ρ, ⟨_, _, _, _, _, _, _, hm.quiet k3⟩, h4, by omega, by omega⟩, k3.weak (fun _ _ h => h.elim)⟩
  | full i c h1s hc hf hL hn =>
    have hil : i < ρ.sh.length := by rw [sh_len h4]; exact (List.getElem?_eq_some_iff.1 hc).1
    have hsl : slen s i = c.slots.length := by unfold slen; rw [hc]
    have hno : ∀ p j, 0 ≤ p → ρ.free[p]? = some j → fk ρ.slots i j = none := fun p j _ hp => by
      have := h4.fr i
      rw [hL, List.reverse_eq_nil_iff] at this
      exact filterMap_nil this j (List.mem_of_getElem? hp)
    refine (ralloc_full w G b ρ LA lc SA sc FA fc q size i (slen s i) (c.size, c.count) hm r8 (by omega) (by omega) hG h1s (by rw [fitP_shape h4]; exact hf) hil hfb hno (shape_at h4 hc) h4.nl (h4.nx i hil) (by rw [hsl]; exact hn)).mono ?_
    rintro e w3 ⟨rfl, k3⟩
    exact ⟨rfl, ⟨ρ, ⟨_, _, _, _, _, _, _, hm.quiet k3⟩, h4, by omega, by omega⟩, k3.weak (fun _ _ h => h.elim)⟩
  | fresh i c _ g h1s hc hf hL hn hs =>
    have hil : i < ρ.sh.length := by rw [sh_len h4]; exact (List.getElem?_eq_some_iff.1 hc).1
    have hsl : slen s i = c.slots.length := by unfold slen; rw [hc]
    have hcb := hcb i c hc
    have hno : ∀ p j, 0 ≤ p → ρ.free[p]? = some j → fk ρ.slots i j = none := fun p j _ hp => by
      have := h4.fr i
      rw [hL, List.reverse_eq_nil_iff] at this
      exact filterMap_nil this j (List.mem_of_getElem? hp)
    rw [← hsl] at g hs ⊢
    refine (ralloc_fresh w G b ρ LA lc SA sc FA fc q size i (slen s i) (c.size, c.count) hm r8 (by omega) (by omega) hG h1s (by rw [fitP_shape h4]; exact hf) hil hfb hno (shape_at h4 hc) h4.nl (h4.nx i hil) (by rw [hsl]; exact hn) hcb.2.1).mono ?_
    rintro e w3 ⟨rfl, r3, k3⟩
    exact ⟨rfl, ⟨_, r3, h4.fresh hil g hs, by simp, Nat.le_refl _⟩, k3⟩
  | again i c x j r _ g h1s hc hf hL hx hu hs ha =>
    have hil : i < ρ.sh.length := by rw [sh_len h4]; exact (List.getElem?_eq_some_iff.1 hc).1
    have hfr := h4.fr i
    rw [hL] at hfr
    obtain ⟨p, jj, hp, hfk, hlast⟩ := last_fk ρ.free r hfr
    obtain ⟨y, hy, hyc, hyk⟩ : ∃ y, ρ.slots[jj]? = some y ∧ y.c = i ∧ y.k = j := by
      unfold fk at hfk
      split at hfk
      · next y hy =>
        split at hfk
        · next e => injection hfk with hfk; exact ⟨y, hy, e, hfk⟩
        · cases hfk
      · cases hfk
    obtain ⟨d, hv, _⟩ := h4.on jj y hy
    rw [hyc, hyk, svw_at hc hx] at hv
    injection hv with hv
    injection hv with hv1 hv2
    injection hv2 with hv2 _
    subst hyc hyk
    rw [hv1] at g ha ⊢
    refine (ralloc_again w G b ρ LA lc SA sc FA fc q size y.c p jj y hm r8 (by omega) (by omega) hG h1s (by rw [fitP_shape h4]; exact hf) hil hfb (fun p' j' h5 h6 => hlast p' j' (by omega) h6) hp hy rfl (by omega)).mono ?_
    rintro e w3 ⟨rfl, r3, k3⟩
    exact ⟨rfl, ⟨_, r3, h4.again hy (by rw [← hv2]; exact hu) hp hlast hL g hs, by simp, by simp; omega⟩, k3⟩
end Go.Proofs.Ytidobhflijdccaa

set_option linter.unusedVariables false
set_option linter.unusedSimpArgs false
namespace Go.Proofs.Ytidobhflijdccaa
open Go.RowKit Cfp
theorem step_lv {s s' : Ar} {i k : Nat} {g : Int} {d : List UInt8} {n : Int} (h : Step s s' i k (g, true, d) n) (j q : Nat) (a : Int) (x : List UInt8) : LV s' j q a x ↔ (j = i ∧ q = k ∧ a = g ∧ x = d) ∨ (LV s j q a x ∧ ¬ (j = i ∧ q = k)) := by
  rw [svw_LV, svw_LV, h.vw]
  by_cases e : j = i ∧ q = k
  · rw [if_pos e]
    constructor
    · intro h1
      injection h1 with h1
      injection h1 with h1 h2
      injection h2 with _ h2
      exact .inl ⟨e.1, e.2, h1.symm, h2.symm⟩
    · rintro (⟨_, _, rfl, rfl⟩ | ⟨_, h2⟩)
      · rfl
      · exact absurd e h2
  · rw [if_neg e]
    constructor
    · exact fun h1 => .inr ⟨h1, e⟩
    · rintro (⟨h1, h2, _⟩ | ⟨h1, _⟩)
      · exact absurd ⟨h1, h2⟩ e
      · exact h1
theorem step_wrote {s s' : Ar} {i k : Nat} {g : Int} {d : List UInt8} (h : Step s s' i k (g, true, d) 0) : Wrote s s' i k g d := by
  refine ⟨step_lv h, h.shape, ?_, h.faults⟩
  rw [h.lives]
  refine List.ext_getElem? fun j => ?_
  rw [List.getElem?_set]
  split
  · next e1 =>
    subst e1
    have hi : i < (livesA s).length := by rw [livesA_len]; exact h.il
    rw [if_pos hi, List.getElem?_eq_getElem hi]
    simp [List.getD, List.getElem?_eq_getElem hi]
  · rfl
theorem step_got {s s' : Ar} {i k : Nat} {g size : Int} (h : Step s s' i k (g, true, []) 1) (ho : ∀ a d, ¬ LV s i k a d) (hf : ∃ c, s.cls[i]? = some c ∧ size ≤ c.size ∧ c.live + 1 ≤ c.count) : Got s s' i k g size := by
  refine ⟨fun j q a d => ?_, ho, h.shape, h.lives, hf, h.faults⟩
  rw [step_lv h]
  constructor
  · rintro (h1 | ⟨h1, _⟩)
    · exact .inl h1
    · exact .inr h1
  · rintro (h1 | h1)
    · exact .inl h1
    · exact .inr ⟨h1, fun e => by rw [e.1, e.2] at h1; exact ho _ _ h1⟩
end Go.Proofs.Ytidobhflijdccaa

set_option linter.unusedVariables false
set_option linter.unusedSimpArgs false
namespace Go.Proofs.Ytidobhflijdccaa
open Go.RowKit Cfp
theorem AllocP.got {s s' : Ar} {L L' : Nat → List Nat} {size c k g e M : Int} (h : AllocP s L size c k g e s' L') (v : Inv s L M) (he : e = 0) : ∃ i j : Nat, c = i ∧ k = j ∧ Got s s' i j g size ∧ 1 ≤ g ∧ fitK s.cls size = i := by
  cases h with
  | range hr => cases he
  | full i c h1 hc hf hL hn => cases he
  | fresh i c _ st h1 hc hf hL hn hs =>
    have hlv := v.lv i c hc
    have hub := usedN_bd c.slots
    refine ⟨i, _, rfl, rfl, step_got st (fun a d hl => ?_) ⟨c, hc, fitK_at hf hc, by omega⟩, by omega, hf⟩
    have := svw_lt (svw_LV.1 hl)
    unfold slen at this
    rw [hc] at this
    dsimp only at this
    omega
  | again i c x j r _ st h1 hc hf hL hx hu hs ha =>
    have hlv := v.lv i c hc
    have h2 := usedN_set c.slots j x { x with used := true } hx
    have h3 := usedN_bd (c.slots.set j { x with used := true })
    have hcb := v.cb i c hc
    rw [hu] at h2
    simp at h2 h3
    refine ⟨i, j, rfl, rfl, step_got st (fun a d hl => ?_) ⟨c, hc, fitK_at hf hc, by omega⟩, by omega, hf⟩
    have := svw_LV.1 hl
    rw [svw_at hc hx, hu] at this
    injection this with this
    injection this with _ this
    injection this with this _
    cases this
end Go.Proofs.Ytidobhflijdccaa
