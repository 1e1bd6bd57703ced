/-
  A pool in memory; the least free number. No conditions beyond those of the statement.
-/
import Derived.Test.YtidobhflijdccaaPl
import Derived.Test.YtidobhflijdccaaMem3
set_option linter.unusedVariables false
set_option linter.unusedSimpArgs false
namespace Go.Proofs.Ytidobhflijdccaa
open Go.RowKit Cfp
/-- block b is a map that reads as D -/
def MapIs (w : World) (b : Nat) (D : KD) : Prop := w.ownsMap Try.prog 9 (plainElem Try.prog 3) b (Maps.size D) D
theorem map_tight {w : World} {P : Program} {k : TypeId} {R : Value → Option (KD × List MemPlace)} {b n : Nat} {D : KD} (h : w.ownsMap P k R b n D) : w.ownsMap P k R b (Maps.size D) D := by
  obtain ⟨es, clock, hb, F, hs, rfl⟩ := h
  exact ⟨es, clock, hb, F, by simp [Maps.size, length_sorted], rfl⟩
theorem MapIs.block {w : World} {b : Nat} {D : KD} (h : MapIs w b D) : ∃ es c, w.heap[b]? = some (.map es c) := by
  obtain ⟨es, clock, hb, _⟩ := h
  exact ⟨es, clock, hb⟩
theorem MapIs.lt {w : World} {b : Nat} {D : KD} (h : MapIs w b D) : b < w.heap.size := World.ownsMap.lt h
theorem MapIs.not {w : World} {b : Nat} {D : KD} (h : MapIs w b D) {t : TypeId} {cs : Array Value} (hb : Blk w b t cs) : False := by
  obtain ⟨es, c, h1⟩ := h.block
  have := hb.symm.trans h1
  injection this with this
  cases this
theorem MapIs.kept {w w' : World} {b : Nat} {D : KD} {S : Nat → Prop} (h : MapIs w b D) (k : Keeps S w w') (hs : ¬ S b) : MapIs w' b D := by
  have hlt := h.lt
  obtain ⟨es, clock, hb, r⟩ := h
  exact ⟨es, clock, (k.block b hlt hs).trans hb, r⟩
theorem MapIs.new (w : World) : MapIs (w.alloc (.map #[] 0)) w.heap.size (.map []) := World.ownsMap_made w _ _ _

/-- the pool in block p, of the arena a, for n keys; all that is written lies at B or above -/
structure IsPo (w : World) (B p a : Nat) (n : Int) (E : List PE) (EA : Option Addr) (cap mb : Nat) (D : KD) : Prop where
  le : B ≤ p
  blk : Blk w p 144 #[.pointer (some ⟨a, 0, none⟩), .int .i64 n, .slice EA E.length cap, .map (some mb)]
  own : Own w B 147 4 EA E.length cap (peCs E)
  lem : B ≤ mb
  map : MapIs w mb D
/-- block b is none of a pool's -/
def OthP (w : World) (B b : Nat) : Prop := b < B ∨ ∃ cs t, Blk w b t cs ∧ t ≠ 144 ∧ t ≠ 147
section
variable {w w' : World} {B p a : Nat} {n : Int} {E : List PE} {EA : Option Addr} {cap mb : Nat} {D : KD} {S : Nat → Prop}
theorem IsPo.kept (h : IsPo w B p a n E EA cap mb D) (k : Keeps S w w') (hs : ∀ b, S b → OthP w B b) : IsPo w' B p a n E EA cap mb D := by
  refine ⟨h.le, h.blk.kept k (fun hS => ?_), h.own.kept k (fun b hb hS => ?_), h.lem, h.map.kept k (fun hS => ?_)⟩
  · rcases hs p hS with h1 | ⟨cs, t, h1, h2, _⟩
    · have := h.le; omega
    · exact h2 (blk_type h1 h.blk)
  · rcases hs b hS with h1 | ⟨cs, t, h1, _, h3⟩
    · have := h.own.inB hb; omega
    · obtain ⟨cs', h4⟩ := h.own.blk hb
      exact h3 (blk_type h1 h4)
  · rcases hs mb hS with h1 | ⟨cs, t, h1, _, _⟩
    · have := h.lem; omega
    · exact h.map.not h1
theorem IsPo.quiet (h : IsPo w B p a n E EA cap mb D) (k : Keeps (fun _ => False) w w') : IsPo w' B p a n E EA cap mb D := h.kept k (fun _ h => h.elim)
theorem OthP.ar {B' : Nat} {b : Nat} (h : ArS B' w b) : OthP w B b := by
  obtain ⟨_, cs, t, h1, h2⟩ := h
  refine .inr ⟨cs, t, h1, ?_, ?_⟩ <;> rcases h2 with rfl | rfl | rfl <;> decide
theorem IsPo.ar {B' : Nat} (h : IsPo w B p a n E EA cap mb D) (k : Keeps (ArS B' w) w w') : IsPo w' B p a n E EA cap mb D := h.kept k (fun b hb => OthP.ar hb)
/-- an arena beside a map -/
theorem IsArH.map {s : Ar} {X : Nat → Prop} (h : IsArH w B a s X) {es : Array MapEntry} {c : Nat} (hm : w.heap[mb]? = some (.map es c)) (k : Keeps (· = mb) w w') : IsArH w' B a s X := by
  have hno : ∀ {b : Nat} {t : TypeId} {cs : Array Value}, Blk w b t cs → ¬ b = mb := fun {b t cs} hb e => by
    subst e
    have := hb.symm.trans hm
    injection this with this
    cases this
  refine ⟨h.le, h.blk.kept k (hno h.blk), h.own.kept k (fun b hb => ?_), fun j d hj hd => (h.sl j d hj hd).kept k (fun b hb => ?_), fun j d hj hd q x hx => (h.da j d hj hd q x hx).kept k (fun b hb => ?_), h.dj, h.fl⟩
  · obtain ⟨cs, h1⟩ := h.own.blk hb
    exact hno h1
  · obtain ⟨cs, h1⟩ := (h.sl j d hj hd).blk hb
    exact hno h1
  · obtain ⟨cs, h1⟩ := (h.da j d hj hd q x hx).blk hb
    exact hno h1
/-- the blocks of a pool itself, but for its map -/
def PoO (B : Nat) (w : World) (k : Nat) : Prop := B ≤ k ∧ ∃ cs t, Blk w k t cs ∧ (t = 144 ∨ t = 147)
theorem PoO.quiet {w0 : World} (h : Keeps (fun _ => False) w0 w) (k : Keeps (PoO B w) w w') : Keeps (PoO B w0) w0 w' :=
  (h.weak (S' := PoO B w0) (fun _ _ h => h.elim)).step k (fun b hb ⟨h1, cs, t, h2, h3⟩ => ⟨h1, cs, t, (h.block b hb (fun h => h)).symm.trans h2, h3⟩)
theorem PoO.other {b : Nat} (h : PoO B w b) : Other w B b := by
  obtain ⟨_, cs, t, h1, h2⟩ := h
  refine .inr ⟨cs, t, h1, ?_⟩
  rcases h2 with rfl | rfl <;> exact ⟨by decide, by decide, by decide, by decide⟩
theorem PoO.not {t : TypeId} {b : Nat} {cs : Array Value} (h : Blk w b t cs) (h4 : t ≠ 144) (h5 : t ≠ 147) : ¬ PoO B w b := by
  rintro ⟨_, cs', t', h7, h8⟩
  have := blk_type h h7
  rcases h8 with rfl | rfl
  · exact h4 this
  · exact h5 this
/-- the blocks of a pool and its arena that may be written -/
def PoS (B : Nat) (w : World) (k : Nat) : Prop := ArS B w k ∨ (B ≤ k ∧ ((∃ cs t, Blk w k t cs ∧ (t = 144 ∨ t = 147)) ∨ ∃ es c, w.heap[k]? = some (.map es c)))
theorem PoS.same {w0 : World} {b : Nat} (he : w.heap[b]? = w0.heap[b]?) (h : PoS B w b) : PoS B w0 b := by
  rcases h with ⟨h1, cs, t, h2, h3⟩ | ⟨h1, ⟨cs, t, h2, h3⟩ | ⟨es, c, h2⟩⟩
  · exact .inl ⟨h1, cs, t, he.symm.trans h2, h3⟩
  · exact .inr ⟨h1, .inl ⟨cs, t, he.symm.trans h2, h3⟩⟩
  · exact .inr ⟨h1, .inr ⟨es, c, he.symm.trans h2⟩⟩
theorem PoS.trans {w0 : World} (h : Keeps (PoS B w0) w0 w) (k : Keeps (PoS B w) w w') : Keeps (PoS B w0) w0 w' := by
  refine h.step k (fun b hb hS => ?_)
  by_cases hn : PoS B w0 b
  · exact hn
  · exact hS.same (h.block b hb hn)
theorem PoS.quiet {w0 : World} (h : Keeps (fun _ => False) w0 w) (k : Keeps (PoS B w) w w') : Keeps (PoS B w0) w0 w' := PoS.trans (h.weak (fun _ _ h => h.elim)) k
theorem PoS.ar (h : Keeps (ArS B w) w w') : Keeps (PoS B w) w w' := h.weak (fun _ _ h => .inl h)
theorem PoS.po (h : Keeps (PoO B w) w w') : Keeps (PoS B w) w w' := h.weak (fun _ _ h => .inr ⟨h.1, .inl h.2⟩)
theorem IsPo.inSO (h : IsPo w B p a n E EA cap mb D) : PoO B w p := ⟨h.le, _, _, h.blk, .inl rfl⟩
theorem IsPo.inEO (h : IsPo w B p a n E EA cap mb D) {b : Nat} (hb : inB EA b) : PoO B w b := by
  obtain ⟨cs, h1⟩ := h.own.blk hb
  exact ⟨(h.own.inB hb).1, _, _, h1, .inr rfl⟩
theorem PoS.not {t : TypeId} {b : Nat} {cs : Array Value} (h : Blk w b t cs) (h1 : t ≠ 122) (h2 : t ≠ 125) (h3 : t ≠ 130) (h4 : t ≠ 144) (h5 : t ≠ 147) : ¬ PoS B w b := by
  rintro (h6 | ⟨_, ⟨cs', t', h7, h8⟩ | ⟨es, c, h7⟩⟩)
  · exact ArS.not h h1 h2 h3 h6
  · have := blk_type h h7
    rcases h8 with rfl | rfl
    · exact h4 this
    · exact h5 this
  · have := h.symm.trans h7
    injection this with this
    cases this
theorem PoS.low {b : Nat} (h : b < B) : ¬ PoS B w b := by
  rintro (h1 | ⟨h1, _⟩)
  · exact ArS.low h h1
  · omega
theorem PoS.to0 {w0 : World} (k0 : Keeps (fun _ => False) w0 w) (k : Keeps (PoS B w) w w') (hB : w0.heap.size ≤ B) : Keeps (fun _ => False) w0 w' :=
  k0.step k (fun b hb h => PoS.low (by omega) h)
theorem IsPo.inS (h : IsPo w B p a n E EA cap mb D) : PoS B w p := .inr ⟨h.le, .inl ⟨_, _, h.blk, .inl rfl⟩⟩
theorem IsPo.inM (h : IsPo w B p a n E EA cap mb D) : PoS B w mb := .inr ⟨h.lem, .inr h.map.block⟩
theorem IsPo.inE (h : IsPo w B p a n E EA cap mb D) {b : Nat} (hb : inB EA b) : PoS B w b := by
  obtain ⟨cs, h1⟩ := h.own.blk hb
  exact .inr ⟨(h.own.inB hb).1, .inl ⟨_, _, h1, .inr rfl⟩⟩
/-- the arena, where the pool's blocks are written -/
theorem IsPo.other (h : IsPo w B p a n E EA cap mb D) {b : Nat} (hb : inB EA b) : Other w B b := by
  obtain ⟨cs, h1⟩ := h.own.blk hb
  exact .inr ⟨cs, _, h1, by decide, by decide, by decide, by decide⟩
theorem IsPo.otherP (h : IsPo w B p a n E EA cap mb D) : Other w B p := .inr ⟨_, _, h.blk, by decide, by decide, by decide, by decide⟩
theorem IsPo.cells (h : IsPo w B p a n E EA cap mb D) : (w.cell? ⟨p, 0, none⟩ = some (.pointer (some ⟨a, 0, none⟩)) ∧ w.cell? ⟨p, 1, none⟩ = some (.int .i64 n) ∧ w.cell? ⟨p, 2, none⟩ = some (.slice EA E.length cap) ∧ w.cell? ⟨p, 3, none⟩ = some (.map (some mb))) ∧ p < w.heap.size :=
  ⟨⟨h.blk.cell 0, h.blk.cell 1, h.blk.cell 2, h.blk.cell 3⟩, h.blk.lt⟩
/-- the entries' slice is another -/
theorem IsPo.slice (h1 : B ≤ p) (hb : Blk w p 144 #[.pointer (some ⟨a, 0, none⟩), .int .i64 n, .slice EA E.length cap, .map (some mb)]) {E' : List PE} {EA' : Option Addr} {cap' m : Nat} (hm : E'.length = m) (ho : Own w B 147 4 EA' m cap' (peCs E')) (h2 : B ≤ mb) (h3 : MapIs w mb D) :
    IsPo (w.setCell ⟨p, 2, none⟩ (.slice EA' m cap')) B p a n E' EA' cap' mb D := by
  subst hm
  have kS := keepsOne w p 2 (.slice EA' E'.length cap')
  exact ⟨h1, hb.set 2 _, ho.kept kS (fun b hb' e => by subst e; obtain ⟨cs, h4⟩ := ho.blk hb'; exact absurd (blk_type h4 hb) (by decide)), h2, h3.kept kS (fun e => by subst e; exact h3.not hb)⟩
/-- the users of an entry are others -/
theorem IsPo.users {g : Nat} (h : IsPo w B p a n E (some ⟨g, 0, none⟩) cap mb D) {id : Nat} {x : PE} (hx : E[id]? = some x) (u : Int) :
    IsPo (w.setCell ⟨g, id * 4 + 3, none⟩ (.int .i64 u)) B p a n (E.set id { x with users := u }) (some ⟨g, 0, none⟩) cap mb D := by
  have kS := keepsOne w g (id * 4 + 3) (.int .i64 u)
  have hi : inB (some ⟨g, 0, none⟩ : Option Addr) g := ⟨_, rfl, rfl⟩
  obtain ⟨cs, hg⟩ := h.own.blk hi
  refine ⟨h.le, ?_, ?_, h.lem, h.map.kept kS (fun e => by subst e; exact h.map.not hg)⟩
  · have := h.blk.kept kS (fun e => by subst e; exact absurd (blk_type h.blk hg) (by decide))
    rw [List.length_set]
    exact this
  · have := h.own.store (id * 4 + 3) (.int .i64 u)
    rw [peCs_users hx] at this
    rw [List.length_set]
    exact this
/-- an entry is another -/
theorem IsPo.entry {g : Nat} (h : IsPo w B p a n E (some ⟨g, 0, none⟩) cap mb D) {id : Nat} {x : PE} (hx : E[id]? = some x) (y : PE) :
    IsPo ((((w.setCell ⟨g, id * 4, none⟩ (.int .i64 y.h.1)).setCell ⟨g, id * 4 + 1, none⟩ (.int .i64 y.h.2.1)).setCell ⟨g, id * 4 + 2, none⟩ (.int .i64 y.h.2.2)).setCell ⟨g, id * 4 + 3, none⟩ (.int .i64 y.users)) B p a n (E.set id y) (some ⟨g, 0, none⟩) cap mb D ∧
    Keeps (· = g) w ((((w.setCell ⟨g, id * 4, none⟩ (.int .i64 y.h.1)).setCell ⟨g, id * 4 + 1, none⟩ (.int .i64 y.h.2.1)).setCell ⟨g, id * 4 + 2, none⟩ (.int .i64 y.h.2.2)).setCell ⟨g, id * 4 + 3, none⟩ (.int .i64 y.users)) := by
  have kS := (((keepsOne w g (id * 4) (.int .i64 y.h.1)).setCell (p := ⟨g, id * 4 + 1, none⟩) (.inl rfl) (.int .i64 y.h.2.1)).setCell (p := ⟨g, id * 4 + 2, none⟩) (.inl rfl) (.int .i64 y.h.2.2)).setCell (p := ⟨g, id * 4 + 3, none⟩) (.inl rfl) (.int .i64 y.users)
  have hi : inB (some ⟨g, 0, none⟩ : Option Addr) g := ⟨_, rfl, rfl⟩
  obtain ⟨cs, hg⟩ := h.own.blk hi
  refine ⟨⟨h.le, ?_, ?_, h.lem, h.map.kept kS (fun e => by subst e; exact h.map.not hg)⟩, kS⟩
  · have := h.blk.kept kS (fun e => by subst e; exact absurd (blk_type h.blk hg) (by decide))
    rw [List.length_set]
    exact this
  · have := (((h.own.store (id * 4) (.int .i64 y.h.1)).store (id * 4 + 1) (.int .i64 y.h.2.1)).store (id * 4 + 2) (.int .i64 y.h.2.2)).store (id * 4 + 3) (.int .i64 y.users)
    rw [peCs_all hx] at this
    rw [List.length_set]
    exact this
end

/-- what free gives -/
def Frees (w : World) (B p a : Nat) (n : Int) (E : List PE) (mb : Nat) (D : KD) (e : Ending) (w' : World) : Prop :=
  ∃ (E' : List PE) (EA' : Option Addr) (cap' id : Nat) (x : PE), e = .returned (.int .i64 id) ∧ IsPo w' B p a n E' EA' cap' mb D ∧ (E' = E ∨ E' = E ++ [PE.zero]) ∧ E'[id]? = some x ∧ x.users = 0 ∧ 1 ≤ id ∧ (∀ (j : Nat) (y : PE), 1 ≤ j → j < id → E[j]? = some y → y.users ≠ 0) ∧ Keeps (PoO B w) w w'
set_option maxRecDepth 100000 in
set_option maxHeartbeats 1000000 in
theorem pfree_ok (w : World) (B p a : Nat) (n : Int) (E : List PE) (EA : Option Addr) (cap mb : Nat) (D : KD) (h : IsPo w B p a n E EA cap mb D) (hne : 0 < E.length) (hlen : E.length ≤ 1000000) (hB : B ≤ w.heap.size) :
    Calls Try.prog 71 #[.pointer (some ⟨p, 0, none⟩)] w (Frees w B p a n E mb D) := by
  obtain ⟨g, rfl, hg1, hg2⟩ := h.own.some_ hne
  obtain ⟨⟨p0, p1, p2, p3⟩, hpw⟩ := h.cells
  have H := hide h
  obtain ⟨N, hN⟩ : ∃ N, N = E.length := ⟨_, rfl⟩
  rw [← hN] at p2 hne hlen
  have HN := hide hN
  clear h hN
  go_enter Try.func71, Try.ntmps71
  go_wp2_with fail
  trace "LOOP"
  go_loopw [3] (fun iv wr => ∃ (k nq : Nat), 1 ≤ k ∧ k ≤ N ∧ iv = .int .i64 k ∧ wr = w.drewN nq ∧ Hid (∀ (j : Nat) (y : PE), 1 ≤ j → j < k → E[j]? = some y → y.users ≠ 0)) (fun iv _ => N - (intOf iv).toNat)
  case atStart => exact ⟨1, 0, by omega, by omega, rfl, rfl, hide (fun j y h1 h2 => by omega)⟩
  case round =>
    obtain ⟨k, nq, hk1, hkN, rfl, rfl, HU⟩ := hrel
    by_cases hlt : k < N
    · obtain ⟨x, hx⟩ : ∃ x, E[k]? = some x := ⟨E[k]'(by rw [← HN.out]; exact hlt), by simp⟩
      obtain ⟨_, _, _, g3⟩ := peCs_at hx
      have q3 := H.out.own.cell (k * 4 + 3) (by have := HN.out; omega)
      rw [g3] at q3
      have hkI : (k : Int) < (N : Int) := by omega
      have hk0 : (0 : Int) ≤ (k : Int) := by omega
      have HX := hide hx
      by_cases hu : x.users = 0
      · have hub : (x.users == 0) = true := by simp [hu]
        clear hx g3 hu
        go_wp2_with fail
        go_ret
        have hu : x.users = 0 := by simpa using hub
        exact ⟨E, _, cap, k, x, rfl, H.out.quiet ((Keeps.refl (fun _ => False) w).drewN _), .inl rfl, HX.out, hu, hk1, HU.out, (Keeps.refl _ w).drewN _⟩
      · have hub : (x.users == 0) = false := by simpa using hu
        have HN2 : Hid (k + 1 ≤ N) := hlt
        clear hx g3 hu
        go_wp2_with fail
        go_roundw
        case rel =>
          refine ⟨k + 1, _, by omega, HN2.out, by go_num, rfl, hide (fun j y h1 h2 hy => ?_)⟩
          by_cases e : j = k
          · subst e
            rw [HX.out] at hy; injection hy with hy; subst hy
            simpa using hub
          · exact HU.out j y h1 (by omega) hy
        case measure => have := HN2.out; simp [intOf]; omega
    · obtain rfl : k = N := by omega
      have hkI : ¬ ((k : Int) < (k : Int)) := by omega
      have HO := hide (show Own w B 147 4 (some ⟨g, 0, none⟩) k cap (peCs E) from by rw [HN.out]; exact H.out.own)
      go_upto_region 6 with fail
      trace "R6"
      generalize hw1 : w.drewN nq = w1 at *
      have K1 : Hid (Keeps (fun _ => False) w w1) := hide (by rw [← hw1]; exact (Keeps.refl _ _).drewN _)
      clear hw1 p0 p1 p2 p3
      have H1 := hide (H.out.quiet K1.out)
      have HO1 := hide (HO.out.kept K1.out (fun _ _ h => h))
      obtain ⟨⟨p0, p1, p2, p3⟩, hpw1⟩ := H1.out.cells
      rw [← HN.out] at p2
      have hB1 : B ≤ w1.heap.size := Nat.le_trans hB K1.out.size
      go_upto_region 7 with (at_builtin; refine wpList_app _ elemPE rfl (.tmp 27) (.tmp 29) rfl B _ rfl (HO1.out.kept ((Keeps.refl (fun _ => False) w1).alloc _) (fun _ _ h => h)) _ (m := 1) [.int .i64 0, .int .i64 0, .int .i64 0, .int .i64 0] rfl (by exact Blk.rd (xs := [.int .i64 0, .int .i64 0, .int .i64 0, .int .i64 0]) (Blk.new_at _ _ _ _ (by simp)) rfl) (by simp [Value.oneCell']) (by simp only [maxLen]; omega) (by omega) (by simp; omega) ?_; intro A7 c7 w7 o7 k7 hA7; have hkA := (Keeps.refl (fun _ => False) w1).alloc (.cells #[.int .i64 0, .int .i64 0, .int .i64 0, .int .i64 0] 147); have hb7 := (H1.out.blk.kept hkA (fun h => h)).kept k7 (fun h => by obtain ⟨cs, h4⟩ := (HO1.out.kept hkA (fun _ _ h => h)).blk h; exact absurd (blk_type h4 (H1.out.blk.kept hkA (fun h => h))) (by decide)); have HB7 := hide hb7; have HM7 := hide ((H1.out.map.kept hkA (fun h => h)).kept k7 (fun h => by obtain ⟨cs, h4⟩ := (HO1.out.kept hkA (fun _ _ h => h)).blk h; exact (H1.out.map.kept hkA (fun h => h)).not h4)); have O7 := hide o7; have K7 := hide (Keeps.trans (Keeps.weak hkA (fun _ _ h => h.elim)) (k7.weak (S' := fun b => b = g) (fun b _ hb => ((inB_some _ _ _).1 hb).symm))); have f7 := hb7.frozen 2; have c7a := hb7.cell 2; have hp7 := hb7.lt; clear o7 k7 hA7 hkA hb7)
      trace "R7"
      have hfin := hide (IsPo.slice (E := E) (E' := E ++ [PE.zero]) (m := k + 1) H.out.le HB7.out (by simp [HN.out]) (by have := O7.out; rw [peCs_app]; exact this) H.out.lem HM7.out)
      have kfin := hide (Keeps.trans (K7.out.weak (S' := PoO B w1) (fun b hb e => by subst e; exact H1.out.inEO ⟨_, rfl, rfl⟩)) ((keepsOne w7 p 2 (.slice A7 (k + 1) c7)).weak (S' := PoO B w1) (fun b hb e => by subst e; exact H1.out.inSO)))
      go_wp2_with fail
      trace "R8"
      go_ret
      exact ⟨E ++ [PE.zero], A7, c7, k, PE.zero, rfl, hfin.out, .inr rfl, by have := HN.out; simp [this], rfl, hk1, HU.out, PoO.quiet K1.out kfin.out⟩
end Go.Proofs.Ytidobhflijdccaa
