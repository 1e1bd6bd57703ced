/-
  arena.Alloc, Free, Write and Read by the invariant. No conditions beyond those of the statement.
-/
import Derived.Test.YtidobhflijdccaaAi
set_option linter.unusedVariables false
set_option linter.unusedSimpArgs false
namespace Go.Proofs.Ytidobhflijdccaa
open Go.RowKit Cfp
/-- what Alloc does -/
inductive Allocs (w : World) (B a : Nat) (s : Ar) (M : Int) (size : Int) (e : Ending) (w' : World) : Prop
  | range (he : e = .returned (.tuple #[.agg #[.int .i64 0, .int .i64 0, .int .i64 0], .int .i64 1])) (h : IsAr w' B a s) (k : Keeps (fun _ => False) w w') (hr : size < 1 ∨ ∀ (i : Nat) (c : Cls), s.cls[i]? = some c → c.size < size)
  | full (he : e = .returned (.tuple #[.agg #[.int .i64 0, .int .i64 0, .int .i64 0], .int .i64 7])) (h : IsAr w' B a s) (k : Keeps (fun _ => False) w w') (hf : ∃ (i : Nat) (c : Cls), s.cls[i]? = some c ∧ fitK s.cls size = i ∧ c.live = c.count)
  | ok (i j : Nat) (age : Int) (s' : Ar) (L' : Nat → List Nat) (he : e = .returned (.tuple #[.agg #[.int .i64 i, .int .i64 j, .int .i64 age], .int .i64 0])) (h : IsAr w' B a s') (v : Inv s' L' (M + 1)) (g : Got s s' i j age size) (ha : 1 ≤ age ∧ age ≤ M + 1) (k : Keeps (ArS B w) w w') (hfit : fitK s.cls size = i)
theorem lives_set {s : Ar} {i : Nat} {c c' : Cls} (hc : s.cls[i]? = some c) (h1 : c'.live = c.live + 1) : (s.cls.set i c').map (fun c => c.live) = (livesA s).set i ((livesA s).getD i 0 + 1) := by
  have : (livesA s).getD i 0 = c.live := by simp [livesA, List.getD, hc]
  rw [this, List.map_set, h1]
  rfl
theorem alloc_any (B a : Nat) (s : Ar) (L : Nat → List Nat) (M : Int) (size : Int) (w : World) (h : IsAr w B a s) (v : Inv s L M) (hM : 0 ≤ M ∧ M < 1000000000) (hB : B ≤ w.heap.size) :
    Calls Try.prog 22 #[.pointer (some ⟨a, 0, none⟩), .int .i64 size] w (Allocs w B a s M size) := by
  obtain ⟨C, hC⟩ := h.hasC v.hp
  by_cases h1 : size < 1
  · exact (alloc_no B a s size w h v.hn (.inl h1)).mono fun e w' ⟨he, k⟩ => .range he (h.quiet k) k (.inl h1)
  by_cases h2 : fitK s.cls size = s.cls.length
  · refine (alloc_no B a s size w h v.hn (.inr h2)).mono fun e w' ⟨he, k⟩ => .range he (h.quiet k) k (.inr fun i c hc => ?_)
    unfold fitK at h2
    rw [List.findIdx_eq_length] at h2
    have := h2 c (List.mem_of_getElem? hc)
    simp at this
    omega
  obtain ⟨i, hi⟩ : ∃ i, i = fitK s.cls size := ⟨_, rfl⟩
  have hil : i < s.cls.length := by have := fitK_le s.cls size; omega
  have hi8 : i < s.free.length := by rw [h.fl]; have := v.hn; omega
  obtain ⟨c, hc⟩ : ∃ c, s.cls[i]? = some c := ⟨s.cls[i], by simp [hil]⟩
  obtain ⟨f, hf, hch⟩ := v.ch i c hc
  have hcb := v.cb i c hc
  have hlv := v.lv i c hc
  have hub := usedN_bd c.slots
  have hfs := fitK_at hi.symm hc
  rcases hL : L i with _ | ⟨k, r⟩
  · rw [hL] at hch
    obtain rfl : f = -1 := hch
    by_cases hroom : (c.slots.length : Int) < c.count
    · refine (alloc_new B a s i C c size w h v.hn (by omega) hi.symm ⟨hC, hc, hf⟩ hroom hcb.2.1 (by omega) hB).mono ?_
      rintro e w' ⟨he, ⟨SA, sc, h2⟩, k2⟩
      have hfs2 : s.free.set i (-1) = s.free := by
        refine List.ext_getElem? fun j => ?_
        rw [List.getElem?_set]
        split
        · next e => subst e; rw [hf]
        · rfl
      have hinv := v.upd (M' := M + 1) (c' := { c with SA := SA, sc := sc, slots := c.slots ++ [Slot.zero.taken], live := c.live + 1 }) (f' := -1) (r := []) (by omega) hc hi8 rfl List.nodup_nil (fun k x hx => ?_) (fun k x hx => ?_) (by simp [usedN_app, Slot.taken, hlv]) ⟨by simp; omega, rfl, rfl⟩
      · rw [hfs2] at hinv
        refine .ok i c.slots.length 1 _ _ he h2 hinv ⟨fun j q g d => ?_, fun g d hl => ?_, ?_, ?_, ⟨c, hc, hfs, by omega⟩, rfl⟩ (by omega) k2 hi.symm
        · by_cases e : j = i ∧ q = c.slots.length
          · obtain ⟨rfl, rfl⟩ := e
            constructor
            · rintro ⟨c1, x, h3, h4, h5, h6, h7⟩
              simp [hil] at h3
              subst h3
              simp at h4
              subst h4
              exact .inl ⟨rfl, rfl, h6.symm, h7.symm⟩
            · rintro (⟨_, _, rfl, rfl⟩ | ⟨c1, x, h3, h4, _⟩)
              · exact ⟨_, Slot.zero.taken, by simp [hil]; rfl, by simp, rfl, rfl, rfl⟩
              · rw [hc] at h3; injection h3 with h3; subst h3
                have := (List.getElem?_eq_some_iff.1 h4).1
                omega
          · have := LV.upd (fr := s.free) (k := c.slots.length) (c' := { c with SA := SA, sc := sc, slots := c.slots ++ [Slot.zero.taken], live := c.live + 1 }) hc (fun q hq => by
              dsimp only
              by_cases hlt : q < c.slots.length
              · rw [List.getElem?_append_left hlt]
              · rw [List.getElem?_eq_none (by simp; omega), List.getElem?_eq_none (by omega)]) j q g d e
            exact this.trans ⟨.inr, fun h => h.elim (fun h => absurd ⟨h.1, h.2.1⟩ e) id⟩
        · obtain ⟨c1, x, h3, h4, _⟩ := hl
          rw [hc] at h3; injection h3 with h3; subst h3
          have := (List.getElem?_eq_some_iff.1 h4).1
          omega
        · exact shape_set hc rfl rfl
        · exact lives_set hc rfl
      · dsimp only at hx
        by_cases hlt : k < c.slots.length
        · rw [List.getElem?_append_left hlt] at hx
          have := v.us i c k x hc hx
          rw [hL] at this
          exact this
        · have hkl := (List.getElem?_eq_some_iff.1 hx).1
          simp at hkl
          obtain rfl : k = c.slots.length := by omega
          simp at hx
          subst hx
          simp [Slot.taken]
      · dsimp only at hx
        by_cases hlt : k < c.slots.length
        · rw [List.getElem?_append_left hlt] at hx
          have := v.ag i c k x hc hx
          omega
        · have hkl := (List.getElem?_eq_some_iff.1 hx).1
          simp at hkl
          obtain rfl : k = c.slots.length := by omega
          simp at hx
          subst hx
          simp [Slot.taken, Slot.zero]
          omega
    · refine (alloc_full B a s i C c size w h v.hn (by omega) hi.symm ⟨hC, hc, hf⟩ (by omega) (by omega) (by omega)).mono fun e w' ⟨he, k⟩ => .full he (h.quiet k) k ⟨i, c, hc, hi.symm, ?_⟩
      have : usedN c.slots = c.slots.length := usedN_full _ (fun x hx => by
        obtain ⟨q, hq, hqe⟩ := List.getElem_of_mem hx
        have h3 := v.us i c q x hc (by rw [List.getElem?_eq_getElem hq, hqe])
        rw [hL] at h3
        rcases hu : x.used with _ | _
        · rw [hu] at h3; simp at h3
        · rfl)
      omega
  · rw [hL] at hch
    obtain ⟨rfl, x, hx, hch2⟩ := hch
    have hag := v.ag i c k x hc hx
    have hkl := (List.getElem?_eq_some_iff.1 hx).1
    have hnd : k ∉ r ∧ r.Nodup := by have := v.nd i; rw [hL] at this; exact List.nodup_cons.1 this
    have hxu : x.used = false := (v.us i c k x hc hx).2 (by rw [hL]; exact List.mem_cons_self ..)
    have hnb := hch2.bd
    refine (alloc_free B a s i C k c x size w h v.hn (by omega) hi.symm ⟨hC, hc, hf⟩ hx (by omega) (by omega) (by omega) (by omega)).mono ?_
    rintro e w' ⟨he, h2, k2⟩
    have hinv := v.upd (M' := M + 1) (c' := { c with slots := c.slots.set k x.taken, live := c.live + 1 }) (f' := x.next) (r := r) (by omega) hc hi8 (hch2.same fun q hq => by
        have hne : ¬ k = q := fun e => hnd.1 (by rw [e]; exact hq)
        dsimp only
        rw [List.getElem?_set, if_neg hne]) hnd.2 (fun q y hy => ?_) (fun q y hy => ?_) (by dsimp only; rw [usedN_set _ _ _ _ hx, hxu, hlv]; simp [Slot.taken]) ⟨by simp; omega, rfl, rfl⟩
    · refine .ok i k (x.age + 1) _ _ he h2 hinv ⟨fun j q g d => ?_, fun g d hl => ?_, ?_, ?_, ⟨c, hc, hfs, ?_⟩, rfl⟩ (by omega) k2 hi.symm
      · by_cases e : j = i ∧ q = k
        · obtain ⟨rfl, rfl⟩ := e
          constructor
          · rintro ⟨c1, y, h3, h4, h5, h6, h7⟩
            simp [hil] at h3
            subst h3
            simp [hkl] at h4
            subst h4
            exact .inl ⟨rfl, rfl, h6.symm, h7.symm⟩
          · rintro (⟨_, _, rfl, rfl⟩ | ⟨c1, y, h3, h4, h5, _⟩)
            · exact ⟨_, x.taken, by simp [hil]; rfl, by simp [hkl], rfl, rfl, rfl⟩
            · rw [hc] at h3; injection h3 with h3; subst h3
              rw [hx] at h4; injection h4 with h4; subst h4
              rw [hxu] at h5; cases h5
        · have := LV.upd (fr := s.free.set i x.next) (k := k) (c' := { c with slots := c.slots.set k x.taken, live := c.live + 1 }) hc (fun q hq => by
            dsimp only
            rw [List.getElem?_set, if_neg (fun e => hq e.symm)]) j q g d e
          exact this.trans ⟨.inr, fun h => h.elim (fun h => absurd ⟨h.1, h.2.1⟩ e) id⟩
      · obtain ⟨c1, y, h3, h4, h5, _⟩ := hl
        rw [hc] at h3; injection h3 with h3; subst h3
        rw [hx] at h4; injection h4 with h4; subst h4
        rw [hxu] at h5; cases h5
      · exact shape_set hc rfl rfl
      · exact lives_set hc rfl
      · have h3 := usedN_set c.slots k x { x with used := true } hx
        have h4 := usedN_bd (c.slots.set k { x with used := true })
        rw [hxu] at h3
        simp at h3 h4
        omega
    · dsimp only at hy
      rw [List.getElem?_set] at hy
      split at hy
      · next e =>
        subst e
        simp [hkl] at hy
        subst hy
        simp [Slot.taken, hnd.1]
      · next e =>
        have := v.us i c q y hc hy
        rw [hL] at this
        rw [this]
        simp [show q ≠ k from fun h => e h.symm]
    · dsimp only at hy
      rw [List.getElem?_set] at hy
      split at hy
      · next e =>
        subst e
        simp [hkl] at hy
        subst hy
        simp [Slot.taken]
        omega
      · have := v.ag i c q y hc hy
        omega
end Go.Proofs.Ytidobhflijdccaa
