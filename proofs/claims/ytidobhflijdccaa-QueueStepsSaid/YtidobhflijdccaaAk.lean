/-
  arena.Free, Write and Read by the invariant. No conditions beyond those of the statement.
-/
import Derived.Test.YtidobhflijdccaaAj
set_option linter.unusedVariables false
set_option linter.unusedSimpArgs false
namespace Go.Proofs.Ytidobhflijdccaa
open Go.RowKit Cfp
/-- slot (i, k) was freed -/
structure Gone (s s' : Ar) (i k : Nat) : Prop where
  lvs : ∀ j q g d, LV s' j q g d ↔ LV s j q g d ∧ ¬ (j = i ∧ q = k)
  shape : shapeA s' = shapeA s
  lives : livesA s' = (livesA s).set i ((livesA s).getD i 0 - 1)
  hi : i < s.cls.length ∧ 1 ≤ (livesA s).getD i 0
  faults : s'.faults = s.faults
theorem lives_set2 {s : Ar} {i : Nat} {c c' : Cls} (hc : s.cls[i]? = some c) (h1 : c'.live = c.live - 1) : (s.cls.set i c').map (fun c => c.live) = (livesA s).set i ((livesA s).getD i 0 - 1) := by
  have : (livesA s).getD i 0 = c.live := by simp [livesA, List.getD, hc]
  rw [this, List.map_set, h1]
  rfl
theorem LV.live {s : Ar} {i k : Nat} {age : Int} {d : List UInt8} (h : LV s i k age d) : ∃ c x, Live s i k age c x ∧ x.data = d := by
  obtain ⟨c, x, h1, h2, h3, h4, h5⟩ := h
  exact ⟨c, x, ⟨h1, h2, h3, h4⟩, h5⟩
theorem LV.one {s : Ar} {i k : Nat} {age age' : Int} {d d' : List UInt8} (h : LV s i k age d) (h' : LV s i k age' d') : age = age' ∧ d = d' := by
  obtain ⟨c, x, h1, h2, h3, h4, h5⟩ := h
  obtain ⟨c', x', g1, g2, g3, g4, g5⟩ := h'
  rw [h1] at g1; injection g1 with g1; subst g1
  rw [h2] at g2; injection g2 with g2; subst g2
  exact ⟨h4.symm.trans g4, h5.symm.trans g5⟩
theorem free_any (B a : Nat) (s : Ar) (L : Nat → List Nat) (M : Int) (i k : Nat) (age : Int) (d : List UInt8) (w : World) (h : IsAr w B a s) (v : Inv s L M) (hl : LV s i k age d) :
    Calls Try.prog 25 #[.pointer (some ⟨a, 0, none⟩), .agg #[.int .i64 i, .int .i64 k, .int .i64 age]] w fun e w' => e = .returned (.int .i64 0) ∧
      (∃ s' L', IsAr w' B a s' ∧ Inv s' L' M ∧ Gone s s' i k) ∧ Keeps (ArS B w) w w' := by
  obtain ⟨C, hC⟩ := h.hasC v.hp
  obtain ⟨c, x, hv, hxd⟩ := hl.live
  have hc := hv.hc
  have hx := hv.hx
  have hil : i < s.cls.length := (List.getElem?_eq_some_iff.1 hc).1
  have hkl : k < c.slots.length := (List.getElem?_eq_some_iff.1 hx).1
  have hi8 : i < s.free.length := by rw [h.fl]; have := v.hn; omega
  obtain ⟨f, hf, hch⟩ := v.ch i c hc
  obtain ⟨S, hS⟩ := h.hasS hc (by omega)
  have hcb := v.cb i c hc
  have hlv := v.lv i c hc
  have hub := usedN_bd c.slots
  have hu1 := usedN_one c.slots k x hx hv.us
  have hag := v.ag i c k x hc hx
  have hkn : k ∉ L i := fun hk => by
    have := (v.us i c k x hc hx).2 hk
    rw [hv.us] at this; cases this
  refine (free_ok B a s i k C S age f c x w h v.hn (by omega) hv hC hS hf (by omega)).mono ?_
  rintro e w' ⟨he, h2, k2⟩
  have hne : ∀ q ∈ L i, ¬ k = q := fun q hq e => hkn (e ▸ hq)
  have hinv := v.upd (M' := M) (c' := { c with slots := c.slots.set k (x.freed f), live := c.live - 1 }) (f' := (k : Int)) (r := k :: L i) (Int.le_refl _) hc hi8 ⟨rfl, x.freed f, by simp [hkl], hch.same fun q hq => by
      dsimp only
      rw [List.getElem?_set, if_neg (hne q hq)]⟩ (List.nodup_cons.2 ⟨hkn, v.nd i⟩) (fun q y hy => ?_) (fun q y hy => ?_) (by dsimp only; rw [usedN_set _ _ _ _ hx, hv.us, hlv]; simp [Slot.freed]) ⟨by simp; omega, rfl, rfl⟩
  · refine ⟨he, ⟨_, _, h2, hinv, ⟨fun j q g d => ?_, shape_set hc rfl rfl, lives_set2 hc rfl, ⟨hil, ?_⟩, rfl⟩⟩, k2⟩
    · by_cases e : j = i ∧ q = k
      · obtain ⟨rfl, rfl⟩ := e
        constructor
        · rintro ⟨c1, y, h3, h4, h5, _⟩
          simp [hil] at h3
          subst h3
          simp [hkl] at h4
          subst h4
          cases h5
        · exact fun h => absurd ⟨rfl, rfl⟩ h.2
      · have := LV.upd (fr := s.free.set i (k : Int)) (k := k) (c' := { c with slots := c.slots.set k (x.freed f), live := c.live - 1 }) hc (fun q hq => by
          dsimp only
          rw [List.getElem?_set, if_neg (fun e => hq e.symm)]) j q g d e
        exact this.trans ⟨fun h => ⟨h, e⟩, fun h => h.1⟩
    · have : (livesA s).getD i 0 = c.live := by simp [livesA, List.getD, hc]
      omega
  · dsimp only at hy
    rw [List.getElem?_set] at hy
    split at hy
    · next e =>
      subst e
      simp [hkl] at hy
      subst hy
      simp [Slot.freed]
    · next e =>
      have := v.us i c q y hc hy
      rw [this]
      simp [show q ≠ k from fun h => e h.symm]
  · dsimp only at hy
    rw [List.getElem?_set] at hy
    split at hy
    · next e =>
      subst e
      simp [hkl] at hy
      subst hy
      simp [Slot.freed]
      omega
    · have := v.ag i c q y hc hy
      omega
/-- slot (i, k) was written -/
structure Wrote (s s' : Ar) (i k : Nat) (age : Int) (bs : List UInt8) : Prop where
  lvs : ∀ j q g d, LV s' j q g d ↔ (j = i ∧ q = k ∧ g = age ∧ d = bs) ∨ (LV s j q g d ∧ ¬ (j = i ∧ q = k))
  shape : shapeA s' = shapeA s
  lives : livesA s' = livesA s
  faults : s'.faults = s.faults
theorem write_any (B a : Nat) (s : Ar) (L : Nat → List Nat) (M : Int) (i k : Nat) (age : Int) (d : List UInt8) (c0 : Cls) (D : Option Addr) (n m Bd : Nat) (bs : List UInt8) (w : World) (h : IsAr w B a s) (v : Inv s L M) (hl : LV s i k age d)
    (hc0 : s.cls[i]? = some c0) (hn : (n : Int) ≤ c0.size) (hr : Rd w Bd D 1 n (bs.map by8)) (hBd : Bd ≤ w.heap.size) (hB : B ≤ w.heap.size) :
    Calls Try.prog 31 #[.pointer (some ⟨a, 0, none⟩), .agg #[.int .i64 i, .int .i64 k, .int .i64 age], .slice D n m] w fun e w' => e = .returned (.int .i64 0) ∧
      (∃ s' L', IsAr w' B a s' ∧ Inv s' L' M ∧ Wrote s s' i k age bs) ∧ Keeps (ArS B w) w w' := by
  obtain ⟨C, hC⟩ := h.hasC v.hp
  obtain ⟨c, x, hv, hxd⟩ := hl.live
  have hc := hv.hc
  have hx := hv.hx
  have : c0 = c := by rw [hc0] at hc; injection hc
  subst this
  have hil : i < s.cls.length := (List.getElem?_eq_some_iff.1 hc).1
  have hkl : k < c0.slots.length := (List.getElem?_eq_some_iff.1 hx).1
  have hi8 : i < s.free.length := by rw [h.fl]; have := v.hn; omega
  obtain ⟨f, hf, hch⟩ := v.ch i c0 hc
  obtain ⟨S, hS⟩ := h.hasS hc (by omega)
  have hcb := v.cb i c0 hc
  have hlv := v.lv i c0 hc
  have hag := v.ag i c0 k x hc hx
  have hbn : bs.length = n := by have := hr.1; simpa using this
  have hkn : k ∉ L i := fun hk => by
    have := (v.us i c0 k x hc hx).2 hk
    rw [hv.us] at this; cases this
  have hne : ∀ q ∈ L i, ¬ k = q := fun q hq e => hkn (e ▸ hq)
  have hfs2 : s.free.set i f = s.free := by
    refine List.ext_getElem? fun j => ?_
    rw [List.getElem?_set]
    split
    · next e => subst e; rw [hf]
    · rfl
  refine (write_ok B a s i k C S age c0 x D n m Bd bs w h v.hn (by omega) hv hC hS hn hcb.2.2.2 hr hBd hB).mono ?_
  rintro e w' ⟨he, ⟨D', dc', h2⟩, k2⟩
  have hinv := v.upd (M' := M) (c' := { c0 with slots := c0.slots.set k { x with D := D', dc := dc', data := bs } }) (f' := f) (r := L i) (Int.le_refl _) hc hi8 (hch.same fun q hq => by
      dsimp only
      rw [List.getElem?_set, if_neg (hne q hq)]) (v.nd i) (fun q y hy => ?_) (fun q y hy => ?_) (by dsimp only; rw [usedN_set _ _ _ _ hx, hv.us, hlv]; simp) ⟨by simp; omega, rfl, rfl⟩
  · rw [hfs2] at hinv
    refine ⟨he, ⟨_, _, h2, hinv, ⟨fun j q g d => ?_, shape_set hc rfl rfl, ?_, rfl⟩⟩, k2⟩
    · by_cases e : j = i ∧ q = k
      · obtain ⟨rfl, rfl⟩ := e
        constructor
        · rintro ⟨c1, y, h3, h4, h5, h6, h7⟩
          simp [hil] at h3
          subst h3
          simp [hkl] at h4
          subst h4
          exact .inl ⟨rfl, rfl, by rw [← h6]; exact hv.ag, h7.symm⟩
        · rintro (⟨_, _, rfl, rfl⟩ | h)
          · exact ⟨_, { x with D := D', dc := dc', data := d }, by simp [hil]; rfl, by simp [hkl], hv.us, hv.ag, rfl⟩
          · exact absurd ⟨rfl, rfl⟩ h.2
      · have := LV.upd (fr := s.free) (k := k) (c' := { c0 with slots := c0.slots.set k { x with D := D', dc := dc', data := bs } }) hc (fun q hq => by
          dsimp only
          rw [List.getElem?_set, if_neg (fun e => hq e.symm)]) j q g d e
        exact this.trans ⟨fun h => .inr ⟨h, e⟩, fun h => h.elim (fun h => absurd ⟨h.1, h.2.1⟩ e) (fun h => h.1)⟩
    · have hg : (livesA s).getD i 0 = c0.live := by simp [livesA, List.getD, hc]
      show (s.cls.set i _).map (fun c => c.live) = livesA s
      rw [List.map_set]
      refine List.ext_getElem? fun j => ?_
      rw [List.getElem?_set]
      split
      · next e => subst e; simp only [livesA, List.getElem?_map, hc, List.length_map, Option.map_some]; first | rfl | rw [if_pos hil]
      · rfl
  · dsimp only at hy
    rw [List.getElem?_set] at hy
    split at hy
    · next e =>
      subst e
      simp [hkl] at hy
      subst hy
      simp [hv.us, hkn]
    · exact v.us i c0 q y hc hy
  · dsimp only at hy
    rw [List.getElem?_set] at hy
    split at hy
    · next e =>
      subst e
      simp [hkl] at hy
      subst hy
      dsimp only
      omega
    · have := v.ag i c0 q y hc hy
      omega
theorem read_any (B a : Nat) (s : Ar) (L : Nat → List Nat) (M : Int) (i k : Nat) (age : Int) (d : List UInt8) (w : World) (h : IsAr w B a s) (v : Inv s L M) (hl : LV s i k age d) (hB : B ≤ w.heap.size) :
    Calls Try.prog 33 #[.pointer (some ⟨a, 0, none⟩), .agg #[.int .i64 i, .int .i64 k, .int .i64 age]] w fun e w' => (∃ D m, e = .returned (.tuple #[.slice D d.length m, .int .i64 0]) ∧ Own w' w.heap.size 5 1 D d.length m (d.map by8)) ∧ Keeps (fun _ => False) w w' := by
  obtain ⟨C, hC⟩ := h.hasC v.hp
  obtain ⟨c, x, hv, rfl⟩ := hl.live
  have hkl : k < c.slots.length := (List.getElem?_eq_some_iff.1 hv.hx).1
  obtain ⟨S, hS⟩ := h.hasS hv.hc (by omega)
  have hcb := v.cb i c hv.hc
  have hag := v.ag i c k x hv.hc hv.hx
  exact read_ok B a s i k C S age c x w h v.hn (by omega) hv hC hS (by omega) hB
theorem Inv.stale {s : Ar} {L : Nat → List Nat} {M : Int} (v : Inv s L M) (hM : M < 4611686018427387904) (hc hk ha : Int) (hno : ∀ (i k : Nat) (d : List UInt8), hc = i → hk = k → ¬ LV s i k ha d) : Stale s hc hk ha :=
  ⟨fun i c h => by have := v.cb i c h; omega, fun i k c x h1 h2 hl => hno i k x.data h1 h2 ⟨c, x, hl.hc, hl.hx, hl.us, hl.ag, rfl⟩, by have := v.fa; omega⟩
theorem usage_inv (B a : Nat) (s : Ar) (L : Nat → List Nat) (M : Int) (w : World) (h : IsAr w B a s) (v : Inv s L M) :
    Calls Try.prog 26 #[.pointer (some ⟨a, 0, none⟩)] w fun e w' => ∃ D m, e = .returned (.agg #[.slice D s.cls.length m, .int .i64 (bytesN s.cls s.cls.length), .int .i64 s.faults]) ∧ Own w' w.heap.size 3 1 D s.cls.length m ((livesA s).map (.int .i64)) ∧ Keeps (fun _ => False) w w' := by
  have := usage_any B a s w h v.small
  unfold Usages at this
  have e : livesC s.cls = (livesA s).map (.int .i64) := by simp [livesC, livesA]
  rw [e] at this
  exact this
theorem inv_new (l : List (Int × Int)) (hE : classesE l = 0) (CA : Option Addr) (cap n : Nat) (hn : l.length = n) : Inv (parAr l n CA cap) (fun _ => []) 0 := by
  obtain ⟨⟨n0, n1⟩, hlb⟩ := classes_bd2 l hE
  have hcl : (parAr l n CA cap).cls = l.map mkC := by unfold parAr; rw [← hn, List.take_length]
  have hm : ∀ (i : Nat) (c : Cls), (parAr l n CA cap).cls[i]? = some c → ∃ x ∈ l, c = mkC x := fun i c h => by
    rw [hcl] at h
    have := List.mem_of_getElem? h
    obtain ⟨x, hx, rfl⟩ := List.mem_map.1 this
    exact ⟨x, hx, rfl⟩
  refine ⟨by rw [hcl, List.length_map]; exact n1, by rw [hcl, List.length_map]; exact n0, fun i c h => ⟨-1, ?_, rfl⟩, fun _ => List.nodup_nil, fun i c k x h hx => ?_, fun i c k x h hx => ?_, fun i c h => ?_, fun i c h => ?_, by show (0 : Int) ≤ 0 ∧ (0 : Int) ≤ 0; omega⟩
  · have hi : i < n := by have := (List.getElem?_eq_some_iff.1 h).1; rw [hcl, List.length_map, hn] at this; exact this
    show (List.replicate n (-1 : Int) ++ List.replicate (8 - n) 0)[i]? = some (-1)
    rw [List.getElem?_append_left (by simpa using hi)]
    simp [List.getElem?_replicate, hi]
  · obtain ⟨y, hy, rfl⟩ := hm i c h
    simp [mkC] at hx
  · obtain ⟨y, hy, rfl⟩ := hm i c h
    simp [mkC] at hx
  · obtain ⟨y, hy, rfl⟩ := hm i c h
    rfl
  · obtain ⟨y, hy, rfl⟩ := hm i c h
    have := hlb y hy
    simp [mkC]
    omega
end Go.Proofs.Ytidobhflijdccaa
