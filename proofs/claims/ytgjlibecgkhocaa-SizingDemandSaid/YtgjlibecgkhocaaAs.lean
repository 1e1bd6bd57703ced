
/-
  arena.Alloc. No conditions beyond those of the statement.
-/
import Derived.Test.YtgjlibecgkhocaaAq
import Derived.Deep.CutRange
set_option linter.unusedVariables false
set_option linter.unusedSimpArgs false
namespace Go.Proofs.Ytgjlibecgkhocaa
open Go.RowKit

section
variable {w w' : World} {B a : Nat} {s : Ar} {X : Nat → Prop} {S : Nat → Prop}
theorem IsArH.free_cell (h : IsArH w B a s X) {i : Nat} {f : Int} (hf : s.free[i]? = some f) : w.cell? ⟨a, 1 + i, none⟩ = some (.int .i64 f) := by
  rw [h.blk.cell, List.getElem?_toArray, Nat.add_comm]
  unfold arC
  have hi := (List.getElem?_eq_some_iff.1 hf).1
  rw [List.getElem?_cons_succ, List.getElem?_append_left (by simpa using hi), List.getElem?_map, hf]
  rfl
theorem IsArH.faults_cell (h : IsArH w B a s X) : w.cell? ⟨a, 9, none⟩ = some (.int .i64 s.faults) := by
  rw [h.blk.cell, List.getElem?_toArray]
  unfold arC
  rw [List.getElem?_cons_succ, List.getElem?_append_right (by simp [h.fl])]
  simp [h.fl]
theorem IsArH.classes_cell (h : IsArH w B a s X) : w.cell? ⟨a, 0, none⟩ = some (.slice s.CA s.cls.length s.cap) := by
  rw [h.blk.cell]; rfl
theorem arC_free (s : Ar) (i : Nat) (f : Int) (hi : i < s.free.length) : arC { s with free := s.free.set i f } = (arC s).set (1 + i) (.int .i64 f) := by
  unfold arC
  rw [Nat.add_comm, List.set_cons_succ, List.set_append_left _ _ (by simpa using hi), List.map_set]
theorem arC_faults (s : Ar) (f : Int) (hl : s.free.length = 8) : arC { s with faults := f } = (arC s).set 9 (.int .i64 f) := by
  unfold arC
  rw [List.set_cons_succ, List.set_append_right _ _ (by simp [hl])]
  simp [hl]
theorem IsArH.setFree (h : IsArH w B a s X) (i : Nat) (f : Int) (hi : i < 8) : IsArH (w.setCell ⟨a, 1 + i, none⟩ (.int .i64 f)) B a { s with free := s.free.set i f } X :=
  h.arena _ _ _ rfl rfl rfl (by simp [h.fl]) (arC_free s i f (by rw [h.fl]; exact hi))
theorem IsArH.setFaults (h : IsArH w B a s X) (f : Int) : IsArH (w.setCell ⟨a, 9, none⟩ (.int .i64 f)) B a { s with faults := f } X :=
  h.arena _ _ _ rfl rfl rfl h.fl (arC_faults s f h.fl)
theorem Own.slot {S n c k q : Nat} {l : List Slot} {x y : Slot} {v : Value} (h : Own w B 93 4 (some ⟨S, 0, none⟩) n c (slotCs l)) (hx : l[k]? = some x) (hq : q < 4) (hy : slotC y = (slotC x).set q v) :
    Own (w.setCell ⟨S, k * 4 + q, none⟩ v) B 93 4 (some ⟨S, 0, none⟩) n c (slotCs (l.set k y)) := by
  have := h.store (k * 4 + q) v
  rw [slotCs_set hx hq hy] at this
  exact this
/-- the blocks of an arena that may be written -/
def ArS (B : Nat) (w : World) (k : Nat) : Prop := B ≤ k ∧ ∃ cs t, Blk w k t cs ∧ (t = 86 ∨ t = 89 ∨ t = 93)
theorem ArS.trans {w0 : World} (h : Keeps (ArS B w0) w0 w) (k : Keeps (ArS B w) w w') : Keeps (ArS B w0) w0 w' := by
  refine h.step k (fun b hb hS => ?_)
  by_cases hn : ArS B w0 b
  · exact hn
  · obtain ⟨h1, cs, t, h2, h3⟩ := hS
    exact ⟨h1, cs, t, (h.block b hb hn).symm.trans h2, h3⟩
theorem ArS.quiet {w0 : World} (h : Keeps (fun _ => False) w0 w) (k : Keeps (ArS B w) w w') : Keeps (ArS B w0) w0 w' := ArS.trans (h.weak (fun _ _ h => h.elim)) k
theorem ArS.ar (h : IsArH w B a s X) : ArS B w a := ⟨h.le, _, _, h.blk, .inl rfl⟩
theorem ArS.cls {C : Nat} (h : IsArH w B a s X) (hC : s.CA = some ⟨C, 0, none⟩) : ArS B w C := by
  have ho := h.own
  rw [hC] at ho
  have hi : inB (some ⟨C, 0, none⟩ : Option Addr) C := ⟨_, rfl, rfl⟩
  obtain ⟨cs, hb⟩ := ho.blk hi
  exact ⟨(ho.inB hi).1, cs, _, hb, .inr (.inl rfl)⟩
theorem ArS.slot {S n c : Nat} {xs : List Value} (ho : Own w B 93 4 (some ⟨S, 0, none⟩) n c xs) : ArS B w S := by
  have hi : inB (some ⟨S, 0, none⟩ : Option Addr) S := ⟨_, rfl, rfl⟩
  obtain ⟨cs, hb⟩ := ho.blk hi
  exact ⟨(ho.inB hi).1, cs, _, hb, .inr (.inr rfl)⟩
/-- a block that is not the arena's stays -/
theorem ArS.not {t : TypeId} {b : Nat} {cs : Array Value} (h : Blk w b t cs) (h1 : t ≠ 86) (h2 : t ≠ 89) (h3 : t ≠ 93) : ¬ ArS B w b := by
  rintro ⟨_, cs', t', hb, h4⟩
  have := blk_type h hb
  rcases h4 with rfl | rfl | rfl
  · exact h1 this
  · exact h2 this
  · exact h3 this
theorem ArS.low {b : Nat} (h : b < B) : ¬ ArS B w b := fun ⟨h1, _⟩ => by omega
theorem keepsOne (w : World) (S j : Nat) (v : Value) : Keeps (· = S) w (w.setCell ⟨S, j, none⟩ v) := Keeps.setCell (S := (· = S)) (p := ⟨S, j, none⟩) (Keeps.refl _ _) (.inl rfl) _
end

/-- three cells are written -/
theorem Blk.set3 {w : World} {g : Nat} {t : TypeId} {x y z : Value} (h : Blk w g t #[x, y, z]) (x' y' z' : Value) : Blk (((w.setCell ⟨g, 0, none⟩ x').setCell ⟨g, 1, none⟩ y').setCell ⟨g, 2, none⟩ z') g t #[x', y', z'] := ((Blk.set h 0 x').set 1 y').set 2 z'
theorem keeps3 (w : World) (g : Nat) (x' y' z' : Value) : Keeps (· = g) w (((w.setCell ⟨g, 0, none⟩ x').setCell ⟨g, 1, none⟩ y').setCell ⟨g, 2, none⟩ z') :=
  ((keepsOne w g 0 x').trans (keepsOne _ g 1 y')).trans (keepsOne _ g 2 z')
/-- a size that has no class -/
theorem alloc_no (B a : Nat) (s : Ar) (size : Int) (w : World) (h : IsAr w B a s) (hn : s.cls.length ≤ 8) (h1 : size < 1 ∨ fitK s.cls size = s.cls.length) :
    Calls Try.prog 34 #[.pointer (some ⟨a, 0, none⟩), .int .i64 size] w fun e w' => e = .returned (.tuple #[.agg #[.int .i64 0, .int .i64 0, .int .i64 0], .int .i64 1]) ∧ Keeps (fun _ => False) w w' := by
  have k1 := (Keeps.refl (fun _ => False) w).alloc (.cells #[.int .i64 0, .int .i64 0, .int .i64 0] 58)
  have b1 := hide (Blk.new w 58 #[.int .i64 0, .int .i64 0, .int .i64 0])
  have HF := hide (fit_no B a s size _ (h.quiet k1) hn h1)
  have K1 := hide k1
  clear h hn h1 k1
  go_enter Try.func34, Try.ntmps34
  go_wp2_with fail
  refine HF.out.mono ?_
  rintro e w2 ⟨rfl, k2⟩
  have K2 := hide (K1.out.trans k2)
  have b2 := hide (b1.out.kept k2 (fun h => h))
  obtain ⟨⟨q0, q1, q2⟩, ⟨f0, f1, f2⟩, hz⟩ := b2.out.three
  clear k2
  go_wp2_with fail
  have b3 := hide (b2.out.set3 (.int .i64 0) (.int .i64 0) (.int .i64 0))
  have K3 := hide (K2.out.step (keeps3 w2 w.heap.size (.int .i64 0) (.int .i64 0) (.int .i64 0)) (fun b hb e => by omega))
  generalize ((w2.setCell _ _).setCell _ _).setCell _ _ = w3 at *
  have r0 := b3.out.cell 0
  have r1 := b3.out.cell 1
  have r2 := b3.out.cell 2
  refine bodyPost_ret (v := .tuple #[.agg #[(.int .i64 0), (.int .i64 0), (.int .i64 0)], .int .i64 1]) (by simp [results, Try.results34, go_sem, r0, r1, r2]) rfl ?_
  exact ⟨rfl, K3.out⟩
end Go.Proofs.Ytgjlibecgkhocaa
