/-
  An arena's slots as they are seen, and arena.Alloc, Free, Write said exactly. No conditions beyond those of the statement.
-/
import Derived.Test.YtidobhflijdccaaAk
set_option linter.unusedVariables false
set_option linter.unusedSimpArgs false
namespace Go.Proofs.Ytidobhflijdccaa
open Go.RowKit Cfp
/-- what is seen of a slot: its age, whether it is in use, its bytes -/
def svw (s : Ar) (i k : Nat) : Option (Int × Bool × List UInt8) := match s.cls[i]? with
  | some c => match c.slots[k]? with
    | some x => some (x.age, x.used, x.data)
    | none => none
  | none => none
/-- how many slots of a class were ever taken -/
def slen (s : Ar) (i : Nat) : Nat := match s.cls[i]? with
  | some c => c.slots.length
  | none => 0
theorem svw_at {s : Ar} {i k : Nat} {c : Cls} {x : Slot} (hc : s.cls[i]? = some c) (hx : c.slots[k]? = some x) : svw s i k = some (x.age, x.used, x.data) := by unfold svw; rw [hc]; dsimp only; rw [hx]
theorem svw_get {s : Ar} {i k : Nat} {g : Int} {u : Bool} {d : List UInt8} (h : svw s i k = some (g, u, d)) : ∃ c x, s.cls[i]? = some c ∧ c.slots[k]? = some x ∧ x.age = g ∧ x.used = u ∧ x.data = d := by
  unfold svw at h
  split at h
  · next c hc =>
    split at h
    · next x hx =>
      injection h with h
      injection h with h1 h
      injection h with h2 h3
      exact ⟨c, x, hc, hx, h1, h2, h3⟩
    · cases h
  · cases h
theorem svw_lt {s : Ar} {i k : Nat} {v : Int × Bool × List UInt8} (h : svw s i k = some v) : k < slen s i := by
  obtain ⟨g, u, d⟩ := v
  obtain ⟨c, x, hc, hx, _⟩ := svw_get h
  unfold slen
  rw [hc]
  exact (List.getElem?_eq_some_iff.1 hx).1
theorem svw_of_lt {s : Ar} {i k : Nat} (h : k < slen s i) : ∃ v, svw s i k = some v := by
  unfold slen at h
  split at h
  · next c hc => exact ⟨_, svw_at hc (List.getElem?_eq_getElem h)⟩
  · omega
theorem svw_LV {s : Ar} {i k : Nat} {g : Int} {d : List UInt8} : LV s i k g d ↔ svw s i k = some (g, true, d) := by
  constructor
  · rintro ⟨c, x, hc, hx, h1, h2, h3⟩
    rw [svw_at hc hx, h1, h2, h3]
  · intro h
    obtain ⟨c, x, hc, hx, h1, h2, h3⟩ := svw_get h
    exact ⟨c, x, hc, hx, h2, h1, h3⟩
theorem svw_set {s : Ar} {i : Nat} {c c' : Cls} {fr : List Int} {k : Nat} {y : Slot} (hc : s.cls[i]? = some c) (hq : ∀ q, q ≠ k → c'.slots[q]? = c.slots[q]?) (hy : c'.slots[k]? = some y) (j q : Nat) :
    svw { s with free := fr, cls := s.cls.set i c' } j q = if j = i ∧ q = k then some (y.age, y.used, y.data) else svw s j q := by
  have hil := (List.getElem?_eq_some_iff.1 hc).1
  by_cases e : j = i
  · subst e
    unfold svw
    have h1 : (s.cls.set j c')[j]? = some c' := by simp [hil]
    dsimp only
    rw [h1, hc]
    dsimp only
    by_cases e2 : q = k
    · subst e2
      rw [if_pos ⟨rfl, rfl⟩, hy]
    · rw [if_neg (fun h => e2 h.2), hq q e2]
  · rw [if_neg (fun h => e h.1)]
    unfold svw
    have h1 : (s.cls.set i c')[j]? = s.cls[j]? := by rw [List.getElem?_set, if_neg (fun q => e q.symm)]
    dsimp only
    rw [h1]
theorem slen_set {s : Ar} {i : Nat} {c c' : Cls} {fr : List Int} (hc : s.cls[i]? = some c) (j : Nat) : slen { s with free := fr, cls := s.cls.set i c' } j = if j = i then c'.slots.length else slen s j := by
  have hil := (List.getElem?_eq_some_iff.1 hc).1
  by_cases e : j = i
  · subst e
    rw [if_pos rfl]
    unfold slen
    have h1 : (s.cls.set j c')[j]? = some c' := by simp [hil]
    dsimp only
    rw [h1]
  · rw [if_neg e]
    unfold slen
    have h1 : (s.cls.set i c')[j]? = s.cls[j]? := by rw [List.getElem?_set, if_neg (fun q => e q.symm)]
    dsimp only
    rw [h1]
/-- what a step of the arena is, seen from without -/
structure Step (s s' : Ar) (i k : Nat) (v : Int × Bool × List UInt8) (d : Int) : Prop where
  vw : ∀ j q, svw s' j q = if j = i ∧ q = k then some v else svw s j q
  shape : shapeA s' = shapeA s
  lives : livesA s' = (livesA s).set i ((livesA s).getD i 0 + d)
  il : i < s.cls.length
  faults : s'.faults = s.faults
/-- what Alloc does, exactly -/
inductive AllocX (w : World) (B a : Nat) (s : Ar) (L : Nat → List Nat) (M : Int) (size : Int) (e : Ending) (w' : World) : Prop
  | range (he : e = .returned (.tuple #[.agg #[.int .i64 0, .int .i64 0, .int .i64 0], .int .i64 1])) (h : IsAr w' B a s) (k : Keeps (fun _ => False) w w') (hr : size < 1 ∨ fitK s.cls size = s.cls.length)
  | full (i : Nat) (c : Cls) (he : e = .returned (.tuple #[.agg #[.int .i64 0, .int .i64 0, .int .i64 0], .int .i64 7])) (h : IsAr w' B a s) (k : Keeps (fun _ => False) w w') (h1 : 1 ≤ size) (hc : s.cls[i]? = some c) (hf : fitK s.cls size = i) (hL : L i = []) (hn : (c.slots.length : Int) = c.count)
  | fresh (i : Nat) (c : Cls) (s' : Ar) (he : e = .returned (.tuple #[.agg #[.int .i64 i, .int .i64 (c.slots.length : Nat), .int .i64 1], .int .i64 0])) (h : IsAr w' B a s') (v : Inv s' L (M + 1)) (g : Step s s' i c.slots.length (1, true, []) 1) (h1 : 1 ≤ size) (hc : s.cls[i]? = some c) (hf : fitK s.cls size = i) (hL : L i = []) (hn : (c.slots.length : Int) < c.count) (hs : ∀ j, slen s' j = if j = i then c.slots.length + 1 else slen s j) (k : Keeps (ArS B w) w w')
  | again (i : Nat) (c : Cls) (x : Slot) (j : Nat) (r : List Nat) (s' : Ar) (he : e = .returned (.tuple #[.agg #[.int .i64 i, .int .i64 j, .int .i64 (x.age + 1)], .int .i64 0])) (h : IsAr w' B a s') (v : Inv s' (updL L i r) (M + 1)) (g : Step s s' i j (x.age + 1, true, []) 1) (h1 : 1 ≤ size) (hc : s.cls[i]? = some c) (hf : fitK s.cls size = i) (hL : L i = j :: r) (hx : c.slots[j]? = some x) (hu : x.used = false) (hs : ∀ q, slen s' q = slen s q) (ha : 0 ≤ x.age ∧ x.age ≤ M) (k : Keeps (ArS B w) w w')
theorem updL_same (L : Nat → List Nat) (i : Nat) : updL L i (L i) = L := by funext j; unfold updL; split <;> simp_all
theorem alloc_x (B a : Nat) (s : Ar) (L : Nat → List Nat) (M : Int) (size : Int) (w : World) (h : IsAr w B a s) (v : Inv s L M) (hM : 0 ≤ M ∧ M < 1000000000) (hB : B ≤ w.heap.size) :
    Calls Try.prog 22 #[.pointer (some ⟨a, 0, none⟩), .int .i64 size] w (AllocX w B a s L M size) := by
  obtain ⟨C, hC⟩ := h.hasC v.hp
  by_cases h1 : size < 1
  · exact (alloc_no B a s size w h v.hn (.inl h1)).mono fun e w' ⟨he, k⟩ => .range he (h.quiet k) k (.inl h1)
  by_cases h2 : fitK s.cls size = s.cls.length
  · exact (alloc_no B a s size w h v.hn (.inr h2)).mono fun e w' ⟨he, k⟩ => .range he (h.quiet k) k (.inr h2)
  obtain ⟨i, hi⟩ : ∃ i, i = fitK s.cls size := ⟨_, rfl⟩
  have hil : i < s.cls.length := by have := fitK_le s.cls size; omega
  have hi8 : i < s.free.length := by rw [h.fl]; have := v.hn; omega
  obtain ⟨c, hc⟩ : ∃ c, s.cls[i]? = some c := ⟨s.cls[i], by simp [hil]⟩
  obtain ⟨f, hf, hch⟩ := v.ch i c hc
  have hcb := v.cb i c hc
  have hlv := v.lv i c hc
  have hub := usedN_bd c.slots
  rcases hL : L i with _ | ⟨k, r⟩
  · rw [hL] at hch
    obtain rfl : f = -1 := hch
    by_cases hroom : (c.slots.length : Int) < c.count
    · refine (alloc_new B a s i C c size w h v.hn (by omega) hi.symm ⟨hC, hc, hf⟩ hroom hcb.2.1 (by omega) hB).mono ?_
      rintro e w' ⟨he, ⟨SA, sc, h2⟩, k2⟩
      have hfs2 : s.free.set i (-1) = s.free := by
        refine List.ext_getElem? fun j => ?_
        rw [List.getElem?_set]
        split
        · next e => subst e; rw [hf]
        · rfl
      have hinv := v.upd (M' := M + 1) (c' := { c with SA := SA, sc := sc, slots := c.slots ++ [Slot.zero.taken], live := c.live + 1 }) (f' := -1) (r := []) (by omega) hc hi8 rfl List.nodup_nil (fun k x hx => ?_) (fun k x hx => ?_) (by simp [usedN_app, Slot.taken, hlv]) ⟨by simp; omega, rfl, rfl⟩
      · rw [hfs2, ← hL, updL_same] at hinv
        refine .fresh i c _ he h2 hinv ⟨fun j q => ?_, shape_set hc rfl rfl, lives_set hc rfl, hil, rfl⟩ (by omega) hc hi.symm hL hroom (fun j => ?_) k2
        · exact svw_set (fr := s.free) (c' := { c with SA := SA, sc := sc, slots := c.slots ++ [Slot.zero.taken], live := c.live + 1 }) (y := Slot.zero.taken) hc (fun q hq => by
              dsimp only
              by_cases hlt : q < c.slots.length
              · rw [List.getElem?_append_left hlt]
              · rw [List.getElem?_eq_none (by simp; omega), List.getElem?_eq_none (by omega)]) (by simp) j q
        · have := slen_set (fr := s.free) (c' := { c with SA := SA, sc := sc, slots := c.slots ++ [Slot.zero.taken], live := c.live + 1 }) hc j
          rw [this]
          simp
      · dsimp only at hx
        by_cases hlt : k < c.slots.length
        · rw [List.getElem?_append_left hlt] at hx
          have := v.us i c k x hc hx
          rw [hL] at this
          exact this
        · have hkl := (List.getElem?_eq_some_iff.1 hx).1
          simp at hkl
          obtain rfl : k = c.slots.length := by omega
          simp at hx
          subst hx
          simp [Slot.taken]
      · dsimp only at hx
        by_cases hlt : k < c.slots.length
        · rw [List.getElem?_append_left hlt] at hx
          have := v.ag i c k x hc hx
          omega
        · have hkl := (List.getElem?_eq_some_iff.1 hx).1
          simp at hkl
          obtain rfl : k = c.slots.length := by omega
          simp at hx
          subst hx
          simp [Slot.taken, Slot.zero]
          omega
    · refine (alloc_full B a s i C c size w h v.hn (by omega) hi.symm ⟨hC, hc, hf⟩ (by omega) (by omega) (by omega)).mono fun e w' ⟨he, k⟩ => .full i c he (h.quiet k) k (by omega) hc hi.symm hL (by omega)
  · rw [hL] at hch
    obtain ⟨rfl, x, hx, hch2⟩ := hch
    have hag := v.ag i c k x hc hx
    have hkl := (List.getElem?_eq_some_iff.1 hx).1
    have hnd : k ∉ r ∧ r.Nodup := by have := v.nd i; rw [hL] at this; exact List.nodup_cons.1 this
    have hxu : x.used = false := (v.us i c k x hc hx).2 (by rw [hL]; exact List.mem_cons_self ..)
    have hnb := hch2.bd
    refine (alloc_free B a s i C k c x size w h v.hn (by omega) hi.symm ⟨hC, hc, hf⟩ hx (by omega) (by omega) (by omega) (by omega)).mono ?_
    rintro e w' ⟨he, h2, k2⟩
    have hinv := v.upd (M' := M + 1) (c' := { c with slots := c.slots.set k x.taken, live := c.live + 1 }) (f' := x.next) (r := r) (by omega) hc hi8 (hch2.same fun q hq => by
        have hne : ¬ k = q := fun e => hnd.1 (by rw [e]; exact hq)
        dsimp only
        rw [List.getElem?_set, if_neg hne]) hnd.2 (fun q y hy => ?_) (fun q y hy => ?_) (by dsimp only; rw [usedN_set _ _ _ _ hx, hxu, hlv]; simp [Slot.taken]) ⟨by simp; omega, rfl, rfl⟩
    · refine .again i c x k r _ he h2 hinv ⟨fun j q => ?_, shape_set hc rfl rfl, lives_set hc rfl, hil, rfl⟩ (by omega) hc hi.symm hL hx hxu (fun q => ?_) (by omega) k2
      · exact svw_set (fr := s.free.set i x.next) (c' := { c with slots := c.slots.set k x.taken, live := c.live + 1 }) (y := x.taken) hc (fun q hq => by
          dsimp only
          rw [List.getElem?_set, if_neg (fun e => hq e.symm)]) (by simp [hkl]) j q
      · have := slen_set (fr := s.free.set i x.next) (c' := { c with slots := c.slots.set k x.taken, live := c.live + 1 }) hc q
        rw [this]
        split
        · next e => subst e; unfold slen; rw [hc]; simp
        · rfl
    · dsimp only at hy
      rw [List.getElem?_set] at hy
      split at hy
      · next e =>
        subst e
        simp [hkl] at hy
        subst hy
        simp [Slot.taken, hnd.1]
      · next e =>
        have := v.us i c q y hc hy
        rw [hL] at this
        rw [this]
        simp [show q ≠ k from fun h => e h.symm]
    · dsimp only at hy
      rw [List.getElem?_set] at hy
      split at hy
      · next e =>
        subst e
        simp [hkl] at hy
        subst hy
        simp [Slot.taken]
        omega
      · have := v.ag i c q y hc hy
        omega
end Go.Proofs.Ytidobhflijdccaa
