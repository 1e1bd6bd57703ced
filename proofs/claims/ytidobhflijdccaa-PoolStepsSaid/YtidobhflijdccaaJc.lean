/-
  arena.Free and Write said exactly; a Write that is too long. No conditions beyond those of the statement.
-/
import Derived.Test.YtidobhflijdccaaJa
set_option linter.unusedVariables false
set_option linter.unusedSimpArgs false
namespace Go.Proofs.Ytidobhflijdccaa
open Go.RowKit Cfp
theorem free_x (B a : Nat) (s : Ar) (L : Nat → List Nat) (M : Int) (i k : Nat) (age : Int) (d : List UInt8) (w : World) (h : IsAr w B a s) (v : Inv s L M) (hl : LV s i k age d) :
    Calls Try.prog 25 #[.pointer (some ⟨a, 0, none⟩), .agg #[.int .i64 i, .int .i64 k, .int .i64 age]] w fun e w' => e = .returned (.int .i64 0) ∧
      (∃ s', IsAr w' B a s' ∧ Inv s' (updL L i (k :: L i)) M ∧ Step s s' i k (age, false, []) (-1) ∧ ∀ q, slen s' q = slen s q) ∧ Keeps (ArS B w) w w' := by
  obtain ⟨C, hC⟩ := h.hasC v.hp
  obtain ⟨c, x, hv, hxd⟩ := hl.live
  have hc := hv.hc
  have hx := hv.hx
  have hil : i < s.cls.length := (List.getElem?_eq_some_iff.1 hc).1
  have hkl : k < c.slots.length := (List.getElem?_eq_some_iff.1 hx).1
  have hi8 : i < s.free.length := by rw [h.fl]; have := v.hn; omega
  obtain ⟨f, hf, hch⟩ := v.ch i c hc
  obtain ⟨S, hS⟩ := h.hasS hc (by omega)
  have hcb := v.cb i c hc
  have hlv := v.lv i c hc
  have hub := usedN_bd c.slots
  have hu1 := usedN_one c.slots k x hx hv.us
  have hag := v.ag i c k x hc hx
  have hkn : k ∉ L i := fun hk => by
    have := (v.us i c k x hc hx).2 hk
    rw [hv.us] at this; cases this
  refine (free_ok B a s i k C S age f c x w h v.hn (by omega) hv hC hS hf (by omega)).mono ?_
  rintro e w' ⟨he, h2, k2⟩
  have hne : ∀ q ∈ L i, ¬ k = q := fun q hq e => hkn (e ▸ hq)
  have hinv := v.upd (M' := M) (c' := { c with slots := c.slots.set k (x.freed f), live := c.live - 1 }) (f' := (k : Int)) (r := k :: L i) (Int.le_refl _) hc hi8 ⟨rfl, x.freed f, by simp [hkl], hch.same fun q hq => by
      dsimp only
      rw [List.getElem?_set, if_neg (hne q hq)]⟩ (List.nodup_cons.2 ⟨hkn, v.nd i⟩) (fun q y hy => ?_) (fun q y hy => ?_) (by dsimp only; rw [usedN_set _ _ _ _ hx, hv.us, hlv]; simp [Slot.freed]) ⟨by simp; omega, rfl, rfl⟩
  · refine ⟨he, ⟨_, h2, hinv, ⟨fun j q => ?_, shape_set hc rfl rfl, (lives_set2 hc rfl).trans (by rw [Int.sub_eq_add_neg]), hil, rfl⟩, fun q => ?_⟩, k2⟩
    · have := svw_set (fr := s.free.set i (k : Int)) (k := k) (c' := { c with slots := c.slots.set k (x.freed f), live := c.live - 1 }) (y := x.freed f) hc (fun q hq => by
          dsimp only
          rw [List.getElem?_set, if_neg (fun e => hq e.symm)]) (by simp [hkl]) j q
      rw [this]
      have h3 : x.age = age := hv.ag
      simp only [Slot.freed, h3]
    · have := slen_set (fr := s.free.set i (k : Int)) (c' := { c with slots := c.slots.set k (x.freed f), live := c.live - 1 }) hc q
      rw [this]
      split
      · next e => subst e; unfold slen; rw [hc]; simp
      · rfl
  · dsimp only at hy
    rw [List.getElem?_set] at hy
    split at hy
    · next e =>
      subst e
      simp [hkl] at hy
      subst hy
      simp [Slot.freed]
    · next e =>
      have := v.us i c q y hc hy
      rw [this]
      simp [show q ≠ k from fun h => e h.symm]
  · dsimp only at hy
    rw [List.getElem?_set] at hy
    split at hy
    · next e =>
      subst e
      simp [hkl] at hy
      subst hy
      simp [Slot.freed]
      omega
    · have := v.ag i c q y hc hy
      omega
theorem write_x (B a : Nat) (s : Ar) (L : Nat → List Nat) (M : Int) (i k : Nat) (age : Int) (d : List UInt8) (c0 : Cls) (D : Option Addr) (n m Bd : Nat) (bs : List UInt8) (w : World) (h : IsAr w B a s) (v : Inv s L M) (hl : LV s i k age d)
    (hc0 : s.cls[i]? = some c0) (hn : (n : Int) ≤ c0.size) (hr : Rd w Bd D 1 n (bs.map by8)) (hBd : Bd ≤ w.heap.size) (hB : B ≤ w.heap.size) :
    Calls Try.prog 31 #[.pointer (some ⟨a, 0, none⟩), .agg #[.int .i64 i, .int .i64 k, .int .i64 age], .slice D n m] w fun e w' => e = .returned (.int .i64 0) ∧
      (∃ s', IsAr w' B a s' ∧ Inv s' L M ∧ Step s s' i k (age, true, bs) 0 ∧ ∀ q, slen s' q = slen s q) ∧ Keeps (ArS B w) w w' := by
  obtain ⟨C, hC⟩ := h.hasC v.hp
  obtain ⟨c, x, hv, hxd⟩ := hl.live
  have hc := hv.hc
  have hx := hv.hx
  have : c0 = c := by rw [hc0] at hc; injection hc
  subst this
  have hil : i < s.cls.length := (List.getElem?_eq_some_iff.1 hc).1
  have hkl : k < c0.slots.length := (List.getElem?_eq_some_iff.1 hx).1
  have hi8 : i < s.free.length := by rw [h.fl]; have := v.hn; omega
  obtain ⟨f, hf, hch⟩ := v.ch i c0 hc
  obtain ⟨S, hS⟩ := h.hasS hc (by omega)
  have hcb := v.cb i c0 hc
  have hlv := v.lv i c0 hc
  have hag := v.ag i c0 k x hc hx
  have hbn : bs.length = n := by have := hr.1; simpa using this
  have hkn : k ∉ L i := fun hk => by
    have := (v.us i c0 k x hc hx).2 hk
    rw [hv.us] at this; cases this
  have hne : ∀ q ∈ L i, ¬ k = q := fun q hq e => hkn (e ▸ hq)
  have hfs2 : s.free.set i f = s.free := by
    refine List.ext_getElem? fun j => ?_
    rw [List.getElem?_set]
    split
    · next e => subst e; rw [hf]
    · rfl
  refine (write_ok B a s i k C S age c0 x D n m Bd bs w h v.hn (by omega) hv hC hS hn hcb.2.2.2 hr hBd hB).mono ?_
  rintro e w' ⟨he, ⟨D', dc', h2⟩, k2⟩
  have hinv := v.upd (M' := M) (c' := { c0 with slots := c0.slots.set k { x with D := D', dc := dc', data := bs } }) (f' := f) (r := L i) (Int.le_refl _) hc hi8 (hch.same fun q hq => by
      dsimp only
      rw [List.getElem?_set, if_neg (hne q hq)]) (v.nd i) (fun q y hy => ?_) (fun q y hy => ?_) (by dsimp only; rw [usedN_set _ _ _ _ hx, hv.us, hlv]; simp) ⟨by simp; omega, rfl, rfl⟩
  · rw [hfs2, updL_same] at hinv
    refine ⟨he, ⟨_, h2, hinv, ⟨fun j q => ?_, shape_set hc rfl rfl, ?_, hil, rfl⟩, fun q => ?_⟩, k2⟩
    · have := svw_set (fr := s.free) (k := k) (c' := { c0 with slots := c0.slots.set k { x with D := D', dc := dc', data := bs } }) (y := { x with D := D', dc := dc', data := bs }) hc (fun q hq => by
          dsimp only
          rw [List.getElem?_set, if_neg (fun e => hq e.symm)]) (by simp [hkl]) j q
      have h3 : x.age = age := hv.ag
      have h4 : x.used = true := hv.us
      refine this.trans ?_
      show (if j = i ∧ q = k then some (x.age, x.used, bs) else svw s j q) = _
      rw [h3, h4]
    · have hg : (livesA s).getD i 0 = c0.live := by simp [livesA, List.getD, hc]
      show (s.cls.set i _).map (fun c => c.live) = _
      rw [List.map_set, hg, Int.add_zero]
      rfl
    · have := slen_set (fr := s.free) (c' := { c0 with slots := c0.slots.set k { x with D := D', dc := dc', data := bs } }) hc q
      refine this.trans ?_
      split
      · next e => subst e; unfold slen; rw [hc]; simp
      · rfl
  · dsimp only at hy
    rw [List.getElem?_set] at hy
    split at hy
    · next e =>
      subst e
      simp [hkl] at hy
      subst hy
      simp [hv.us, hkn]
    · exact v.us i c0 q y hc hy
  · dsimp only at hy
    rw [List.getElem?_set] at hy
    split at hy
    · next e =>
      subst e
      simp [hkl] at hy
      subst hy
      dsimp only
      omega
    · have := v.ag i c0 q y hc hy
      omega
theorem write_lx (B a : Nat) (s : Ar) (L : Nat → List Nat) (M : Int) (i k : Nat) (age : Int) (d : List UInt8) (c0 : Cls) (D : Option Addr) (n m : Nat) (w : World) (h : IsAr w B a s) (v : Inv s L M) (hl : LV s i k age d)
    (hc0 : s.cls[i]? = some c0) (hn : c0.size < (n : Int)) :
    Calls Try.prog 31 #[.pointer (some ⟨a, 0, none⟩), .agg #[.int .i64 i, .int .i64 k, .int .i64 age], .slice D n m] w fun e w' => e = .returned (.int .i64 4) ∧ Keeps (fun _ => False) w w' := by
  obtain ⟨C, hC⟩ := h.hasC v.hp
  obtain ⟨c, x, hv, hxd⟩ := hl.live
  have hc := hv.hc
  have hx := hv.hx
  have : c0 = c := by rw [hc0] at hc; injection hc
  subst this
  have hkl : k < c0.slots.length := (List.getElem?_eq_some_iff.1 hx).1
  obtain ⟨S, hS⟩ := h.hasS hc (by omega)
  have hcb := v.cb i c0 hc
  exact write_long B a s i k C S age c0 x D n m w h v.hn (by omega) hv hC hS hn
end Go.Proofs.Ytidobhflijdccaa
