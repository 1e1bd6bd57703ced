/-
  Both arenas side by side: Free, Write, Read, Usage. No conditions beyond those of the statement.
-/
import Derived.Test.YtidobhflijdccaaJl
set_option linter.unusedVariables false
set_option linter.unusedSimpArgs false
namespace Go.Proofs.Ytidobhflijdccaa
open Go.RowKit Cfp
section
variable {w w' : World} {B a b N : Nat} {G : Nat → Prop} {M : Int} {s : Ar} {L : Nat → List Nat} {ρ : RA}
/-- Free of both -/
def FreeB (w : World) (B a : Nat) (G : Nat → Prop) (b : Nat) (M : Int) (N : Nat) (hc hk ha : Int) (e : Ending) (w1 : World) : Prop :=
  ∃ er : Int, e = .returned (.int .i64 er) ∧ Keeps (ArS B w) w w1 ∧ RAns 30 #[.pointer (some ⟨b, 0, none⟩), .agg #[.int .i64 hc, .int .i64 hk, .int .i64 ha]] B a G b (M + 1) (N + 1) (.int .i64 er) w1
theorem free_both (h : Both w B a G b M N) (hM : 0 ≤ M ∧ M < 1000000000) (hN : N ≤ 1000000) (hG : ∀ k, G k → k < w.heap.size) (hc hk ha : Int) :
    Calls Try.prog 25 #[.pointer (some ⟨a, 0, none⟩), .agg #[.int .i64 hc, .int .i64 hk, .int .i64 ha]] w (FreeB w B a G b M N hc hk ha) := by
  obtain ⟨s, L, ρ, h⟩ := h
  obtain ⟨h1, h2, h3, h4, h5, h6⟩ := h
  obtain ⟨j, hj⟩ : ∃ j, rfindN ρ hc hk ha = j := ⟨_, rfl⟩
  have hjl : j ≤ ρ.slots.length := by rw [← hj]; exact List.findIdx_le_length
  have hfa := h2.fa
  have hfr := h4.fa
  rcases Nat.lt_or_ge j ρ.slots.length with hl | hl
  · obtain ⟨x, hx⟩ : ∃ x, ρ.slots[j]? = some x := ⟨_, List.getElem?_eq_getElem hl⟩
    obtain ⟨rfl, rfl, rfl, hu, lv⟩ := h4.find_yes hj hx
    refine (free_x B a s L M x.c x.k x.age x.b w h1 h2 lv).mono ?_
    rintro e w1 ⟨he, ⟨s', i1, i2, g, hs⟩, k⟩
    refine ⟨0, he, k, fun w2 k2 => ?_⟩
    obtain ⟨LA, lc, SA, sc, FA, fc, q, hm⟩ := (h3.kept k (fun _ e => e.ro)).quiet k2
    refine (rfree_yes w2 G b ρ LA lc SA sc FA fc q _ _ _ j x hm (by omega) (by omega) (fun p hp => by have := hG p hp; have := k2.size; have := k.size; omega) hj hx).mono ?_
    rintro e w3 ⟨rfl, r3, k3⟩
    exact ⟨rfl, ⟨s', _, _, (i1.quiet k2).kept k3 (fun _ e => e.other), i2.more (by omega), r3, h4.freed hx hu g hs, by simp; omega, by simp; omega⟩, k3⟩
  · have hst := h2.stale (by omega) hc hk ha (h4.find_no (by omega))
    refine (free_stale B a s hc hk ha w h1 h2.hn hst).mono ?_
    rintro e w1 ⟨he, i1, k⟩
    refine ⟨9, he, k, fun w2 k2 => ?_⟩
    obtain ⟨LA, lc, SA, sc, FA, fc, q, hm⟩ := (h3.kept k (fun _ e => e.ro)).quiet k2
    refine (rfree_no w2 G b ρ LA lc SA sc FA fc q hc hk ha hm (by omega) (by omega) (by omega)).mono ?_
    rintro e w3 ⟨rfl, r3, k3⟩
    exact ⟨rfl, ⟨_, _, _, (i1.quiet k2).kept k3 (fun _ e => e.other), h2.fault, ⟨_, _, _, _, _, _, _, r3⟩, h4.fault, by show ρ.slots.length ≤ N + 1; omega, by show ρ.free.length ≤ N + 1; omega⟩, k3⟩
/-- Write of both -/
def WriteB (w : World) (B a : Nat) (G : Nat → Prop) (b : Nat) (M : Int) (N : Nat) (hc hk ha : Int) (D : Option Addr) (n m : Nat) (e : Ending) (w1 : World) : Prop :=
  ∃ er : Int, e = .returned (.int .i64 er) ∧ Keeps (ArS B w) w w1 ∧ RAns 32 #[.pointer (some ⟨b, 0, none⟩), .agg #[.int .i64 hc, .int .i64 hk, .int .i64 ha], .slice D n m] B a G b (M + 1) (N + 1) (.int .i64 er) w1
theorem ArS.byte {k k' base sz n c : Nat} {A : Option Addr} {xs : List Value} (o : Own w base 5 sz A n c xs) (hk : inB A k) : ¬ ArS B w k := by
  rintro ⟨_, cs, t, h1, h2⟩
  obtain ⟨cs', h3⟩ := o.blk hk
  have := blk_type h1 h3
  subst this
  rcases h2 with h2 | h2 | h2 <;> exact absurd h2 (by decide)
theorem RS.byte {k k' base sz n c : Nat} {A : Option Addr} {xs : List Value} (o : Own w base 5 sz A n c xs) (hk : inB A k) : ¬ RS G w k := by
  rintro ⟨_, cs, t, h1, h2⟩
  obtain ⟨cs', h3⟩ := o.blk hk
  have := blk_type h1 h3
  subst this
  rcases h2 with h2 | h2 | h2 <;> exact absurd h2 (by decide)
theorem write_both (h : Both w B a G b M N) (hM : 0 ≤ M ∧ M < 1000000000) (hN : N ≤ 1000000) (hB : B ≤ w.heap.size) (hG : ∀ k, G k → k < w.heap.size) (hc hk ha : Int) (D : Option Addr) (n m base : Nat) (bs : List UInt8) (o : Own w base 5 1 D n m (bs.map by8)) (hn : n ≤ 65536) :
    Calls Try.prog 31 #[.pointer (some ⟨a, 0, none⟩), .agg #[.int .i64 hc, .int .i64 hk, .int .i64 ha], .slice D n m] w (WriteB w B a G b M N hc hk ha D n m) := by
  obtain ⟨s, L, ρ, h⟩ := h
  obtain ⟨h1, h2, h3, h4, h5, h6⟩ := h
  obtain ⟨j, hj⟩ : ∃ j, rfindN ρ hc hk ha = j := ⟨_, rfl⟩
  have hjl : j ≤ ρ.slots.length := by rw [← hj]; exact List.findIdx_le_length
  have hfa := h2.fa
  have hfr := h4.fa
  rcases Nat.lt_or_ge j ρ.slots.length with hl | hl
  · obtain ⟨x, hx⟩ : ∃ x, ρ.slots[j]? = some x := ⟨_, List.getElem?_eq_getElem hl⟩
    obtain ⟨rfl, rfl, rfl, hu, lv⟩ := h4.find_yes hj hx
    obtain ⟨c, y, hcc, _⟩ := id lv
    have hsz := shape_at h4 hcc
    rcases Int.lt_or_le c.size (n : Int) with hlong | hshort
    · refine (write_lx B a s L M x.c x.k x.age x.b c D n m w h1 h2 lv hcc hlong).mono ?_
      rintro e w1 ⟨he, k⟩
      refine ⟨4, he, k.weak (fun _ _ h => h.elim), fun w2 k2 => ?_⟩
      obtain ⟨LA, lc, SA, sc, FA, fc, q, hm⟩ := (h3.quiet k).quiet k2
      have o2 := (o.kept k (fun _ _ h => h)).kept k2 (fun _ _ h => h)
      refine (rwrite_long w2 G b ρ LA lc SA sc FA fc q x.c x.k x.age j x (c.size, c.count) D n m w2.heap.size bs hm (by omega) (fun p hp => by have := hG p hp; have := k2.size; have := k.size; omega) hj hx hsz (o2.rd (by omega)) hn hlong).mono ?_
      rintro e w3 ⟨rfl, k3⟩
      exact ⟨rfl, ⟨s, L, ρ, ((h1.quiet k).quiet k2).quiet k3, h2.more (by omega), ⟨_, _, _, _, _, _, _, hm.quiet k3⟩, h4, by omega, by omega⟩, k3.weak (fun _ _ h => h.elim)⟩
    · refine (write_x B a s L M x.c x.k x.age x.b c D n m w.heap.size bs w h1 h2 lv hcc hshort (o.rd (by omega)) (Nat.le_refl _) hB).mono ?_
      rintro e w1 ⟨he, ⟨s', i1, i2, g, hs⟩, k⟩
      refine ⟨0, he, k, fun w2 k2 => ?_⟩
      obtain ⟨LA, lc, SA, sc, FA, fc, q, hm⟩ := (h3.kept k (fun _ e => e.ro)).quiet k2
      have o2 := (o.kept k (fun p hp => ArS.byte (k' := 0) o hp)).kept k2 (fun _ _ h => h)
      refine (rwrite_yes w2 G b ρ LA lc SA sc FA fc q x.c x.k x.age j x (c.size, c.count) D n m w2.heap.size bs hm (by omega) (fun p hp => by have := hG p hp; have := k2.size; have := k.size; omega) hj hx hsz (o2.rd (by omega)) hn hshort).mono ?_
      rintro e w3 ⟨rfl, ⟨D', dc', r3⟩, k3⟩
      exact ⟨rfl, ⟨s', _, _, (i1.quiet k2).kept k3 (fun _ e => e.other), i2.more (by omega), r3, h4.wrote hx hu g hs, by simp; omega, by show ρ.free.length ≤ N + 1; omega⟩, k3⟩
  · have hst := h2.stale (by omega) hc hk ha (h4.find_no (by omega))
    refine (write_stale B a s hc hk ha D n m w h1 h2.hn hst).mono ?_
    rintro e w1 ⟨he, i1, k⟩
    refine ⟨9, he, k, fun w2 k2 => ?_⟩
    obtain ⟨LA, lc, SA, sc, FA, fc, q, hm⟩ := (h3.kept k (fun _ e => e.ro)).quiet k2
    refine (rwrite_no w2 G b ρ LA lc SA sc FA fc q hc hk ha D n m hm (by omega) (by omega) (by omega)).mono ?_
    rintro e w3 ⟨rfl, r3, k3⟩
    exact ⟨rfl, ⟨_, _, _, (i1.quiet k2).kept k3 (fun _ e => e.other), h2.fault, ⟨_, _, _, _, _, _, _, r3⟩, h4.fault, by show ρ.slots.length ≤ N + 1; omega, by show ρ.free.length ≤ N + 1; omega⟩, k3⟩
/-- Read of both -/
def ReadB (w : World) (B a : Nat) (G : Nat → Prop) (b : Nat) (M : Int) (N : Nat) (hc hk ha : Int) (e : Ending) (w1 : World) : Prop :=
  ∃ (er : Int) (D : Option Addr) (n m : Nat) (bs : List UInt8), e = .returned (.tuple #[.slice D n m, .int .i64 er]) ∧ Own w1 w.heap.size 5 1 D n m (bs.map by8) ∧ n ≤ 4096 ∧ Keeps (ArS B w) w w1 ∧
    ∀ w2, Keeps (fun _ => False) w1 w2 → Calls Try.prog 34 #[.pointer (some ⟨b, 0, none⟩), .agg #[.int .i64 hc, .int .i64 hk, .int .i64 ha]] w2 fun e w3 => ∃ (D2 : Option Addr) (m2 : Nat), e = .returned (.tuple #[.slice D2 n m2, .int .i64 er]) ∧ Own w3 w2.heap.size 5 1 D2 n m2 (bs.map by8) ∧ Own w3 w.heap.size 5 1 D n m (bs.map by8) ∧ Both w3 B a G b (M + 1) (N + 1) ∧ Keeps (RS G w2) w2 w3
theorem read_both (h : Both w B a G b M N) (hM : 0 ≤ M ∧ M < 1000000000) (hN : N ≤ 1000000) (hB : B ≤ w.heap.size) (hc hk ha : Int) :
    Calls Try.prog 33 #[.pointer (some ⟨a, 0, none⟩), .agg #[.int .i64 hc, .int .i64 hk, .int .i64 ha]] w (ReadB w B a G b M N hc hk ha) := by
  obtain ⟨s, L, ρ, h⟩ := h
  obtain ⟨h1, h2, h3, h4, h5, h6⟩ := h
  obtain ⟨j, hj⟩ : ∃ j, rfindN ρ hc hk ha = j := ⟨_, rfl⟩
  have hjl : j ≤ ρ.slots.length := by rw [← hj]; exact List.findIdx_le_length
  have hfa := h2.fa
  have hfr := h4.fa
  rcases Nat.lt_or_ge j ρ.slots.length with hl | hl
  · obtain ⟨x, hx⟩ : ∃ x, ρ.slots[j]? = some x := ⟨_, List.getElem?_eq_getElem hl⟩
    obtain ⟨rfl, rfl, rfl, hu, lv⟩ := h4.find_yes hj hx
    obtain ⟨c, y, hcc, hyy, _, _, hyd⟩ := id lv
    have hbl : x.b.length ≤ 4096 := by rw [← hyd]; exact (h2.ag _ _ _ _ hcc hyy).2.2
    refine (read_any B a s L M x.c x.k x.age x.b w h1 h2 lv hB).mono ?_
    rintro e w1 ⟨⟨D, m, he, o⟩, k⟩
    refine ⟨0, D, x.b.length, m, x.b, he, o, hbl, k.weak (fun _ _ h => h.elim), fun w2 k2 => ?_⟩
    obtain ⟨LA, lc, SA, sc, FA, fc, q, hm⟩ := (h3.quiet k).quiet k2
    refine (rread_yes w2 G b ρ LA lc SA sc FA fc q _ _ _ j x hm (by omega) hj hx (by omega)).mono ?_
    rintro e w3 ⟨⟨D2, m2, rfl, o2⟩, k3⟩
    exact ⟨D2, m2, rfl, o2, (o.kept k2 (fun _ _ h => h)).kept k3 (fun _ _ h => h), ⟨s, L, ρ, ((h1.quiet k).quiet k2).quiet k3, h2.more (by omega), ⟨_, _, _, _, _, _, _, hm.quiet k3⟩, h4, by omega, by omega⟩, k3.weak (fun _ _ h => h.elim)⟩
  · have hst := h2.stale (by omega) hc hk ha (h4.find_no (by omega))
    refine (read_stale B a s hc hk ha w h1 h2.hn hst).mono ?_
    rintro e w1 ⟨he, i1, k⟩
    refine ⟨9, none, 0, 0, [], he, Own.nil _ _ _ _, by omega, k, fun w2 k2 => ?_⟩
    obtain ⟨LA, lc, SA, sc, FA, fc, q, hm⟩ := (h3.kept k (fun _ e => e.ro)).quiet k2
    refine (rread_no w2 G b ρ LA lc SA sc FA fc q hc hk ha hm (by omega) (by omega) (by omega)).mono ?_
    rintro e w3 ⟨rfl, r3, k3⟩
    exact ⟨none, 0, rfl, Own.nil _ _ _ _, Own.nil _ _ _ _, ⟨_, _, _, (i1.quiet k2).kept k3 (fun _ e => e.other), h2.fault, ⟨_, _, _, _, _, _, _, r3⟩, h4.fault, by show ρ.slots.length ≤ N + 1; omega, by show ρ.free.length ≤ N + 1; omega⟩, k3⟩
/-- Usage of both -/
def UsageB (w : World) (B a : Nat) (G : Nat → Prop) (b : Nat) (M : Int) (N : Nat) (e : Ending) (w1 : World) : Prop :=
  ∃ (D : Option Addr) (n m : Nat) (bt f : Int) (lv : List Int), e = .returned (.agg #[.slice D n m, .int .i64 bt, .int .i64 f]) ∧ Own w1 w.heap.size 3 1 D n m (lv.map (.int .i64)) ∧ n ≤ 8 ∧ Keeps (fun _ => False) w w1 ∧
    ∀ w2, Keeps (fun _ => False) w1 w2 → Calls Try.prog 37 #[.pointer (some ⟨b, 0, none⟩)] w2 fun e w3 => ∃ (D2 : Option Addr) (m2 : Nat), e = .returned (.agg #[.slice D2 n m2, .int .i64 bt, .int .i64 f]) ∧ Own w3 w2.heap.size 3 1 D2 n m2 (lv.map (.int .i64)) ∧ Both w3 B a G b M N ∧ Keeps (fun _ => False) w2 w3
theorem usage_both (h : Both w B a G b M N) (hN : N ≤ 1000000) : Calls Try.prog 26 #[.pointer (some ⟨a, 0, none⟩)] w (UsageB w B a G b M N) := by
  obtain ⟨s, L, ρ, h⟩ := h
  obtain ⟨n8, hsh, hfb⟩ := Both.bounds h
  obtain ⟨h1, h2, h3, h4, h5, h6⟩ := h
  refine (usage_inv B a s L M w h1 h2).mono ?_
  rintro e w1 ⟨D, m, he, o, k⟩
  refine ⟨D, s.cls.length, m, _, _, _, he, o, h2.hn, k, fun w2 k2 => ?_⟩
  obtain ⟨LA, lc, SA, sc, FA, fc, q, hm⟩ := (h3.quiet k).quiet k2
  refine (rusage_any w2 G b ρ LA lc SA sc FA fc q hm (by omega) n8 hsh h4.cl).mono ?_
  rintro e w3 ⟨D2, m2, rfl, o2, k3⟩
  have e1 : livR ρ.sh.length ρ.slots = livesA s := h4.lives.symm
  rw [e1, sh_len h4] at o2
  exact ⟨D2, m2, by rw [sh_len h4, h4.bytes, h4.fa], o2, ⟨s, L, ρ, ((h1.quiet k).quiet k2).quiet k3, h2, ⟨_, _, _, _, _, _, _, hm.quiet k3⟩, h4, h5, h6⟩, k3⟩
/-- at the beginning -/
theorem both_new (l : List (Int × Int)) (n : Nat) (hl : l.length = n) (hE : classesE l = 0) (CA : Option Addr) (cap : Nat) {D : Option Addr} {c q : Nat} (h : IsAr w B a (parAr l n CA cap)) (hb : Blk w b 136 #[.slice D n c, .slice none 0 0, .slice none 0 0, .slice (some ⟨q, 0, none⟩) n n, .int .i64 0])
    (g1 : ¬ G b) (g2 : ¬ G q) (g3 : ∀ k, inB D k → ¬ G k) (ho : Own w 0 37 2 D n c (prs l)) (hq : Blk w q 3 (Array.replicate n (.int .i64 0))) : Both w B a G b 0 0 := by
  refine ⟨_, _, _, h, inv_new l hE CA cap n hl, ⟨D, c, none, 0, none, 0, q, ?_⟩, Rel.new l n hl CA cap, Nat.le_refl _, Nat.le_refl _⟩
  have hno : ∀ k, ¬ inB none k := fun k h => by obtain ⟨_, e, _⟩ := h; cases e
  refine ⟨by simpa [hl] using hb, by rw [hl]; exact ho, Own.nil _ _ _ _, Own.nil _ _ _ _, ?_, fun x hx => by simp at hx, hno _, g1, g2, fun k h => absurd h (hno k), fun k h => absurd h (hno k), g3, fun x hx => by simp at hx⟩
  have : (intCs (List.replicate n 0)).toArray = Array.replicate n (.int .i64 0) := by unfold intCs; simp
  show Blk w q _ (intCs (List.replicate n 0)).toArray
  rw [this]; exact hq
end
end Go.Proofs.Ytidobhflijdccaa
