/-
  The deck of numbers (package heavykeysmade): what its methods give is some number in the range; only the deck's own block changes.
-/
import Derived.Test.YtidobhflijdccaaBase
set_option linter.unusedVariables false
set_option linter.unusedSimpArgs false
namespace Go.Proofs.Ytidobhflijdccaa
open Go.RowKit

def within (x n : Int) : Int := (wrap64 (x.tmod n + n)).tmod n
theorem within_bd (x n : Int) (n0 : 1 ≤ n) (n1 : n ≤ 2305843009213693952) : 0 ≤ within x n ∧ within x n < n := by
  unfold within
  have h1 := Int.tmod_lt_of_pos x (show 0 < n by omega)
  have h2 := Int.lt_tmod_of_pos x (show 0 < n by omega)
  have h3 : wrap64 (x.tmod n + n) = x.tmod n + n := by unfold wrap64; omega
  rw [h3, Int.tmod_eq_emod_of_nonneg (by omega)]
  exact ⟨Int.emod_nonneg _ (by omega), Int.emod_lt_of_pos _ (by omega)⟩

theorem within_any (x n : Int) (x0 : -9223372036854775808 ≤ x) (x1 : x < 9223372036854775808) (n0 : 1 ≤ n) (n1 : n ≤ 2305843009213693952) (w : World) :
    Calls Try.prog 73 #[.int .i64 x, .int .i64 n] w fun e w' => e = .returned (.int .i64 (within x n)) ∧ w = w' := by
  go_enter Try.func73, Try.ntmps73
  go_wp2
  go_ret
  exact ⟨rfl, rfl⟩

/-- Block g holds a deck; its list lies below block B. -/
def IsDeck (w : World) (B g : Nat) : Prop :=
  ∃ (A : Option Addr) (n c : Nat) (at_ : Nat) (zs : List Int), Blk w g 118 #[.slice A n c, .int .i64 at_] ∧ B ≤ g ∧ Rd w B A 1 n (zs.map (.int .i64)) ∧
    (∀ z ∈ zs, -9223372036854775808 ≤ z ∧ z < 9223372036854775808) ∧ at_ ≤ n ∧ n ≤ 35184372088832
theorem IsDeck.kept {S : Nat → Prop} {w w' : World} {B g : Nat} (h : IsDeck w B g) (k : Keeps S w w') (hg : ¬ S g) (hb : ∀ b, b < B → ¬ S b) : IsDeck w' B g := by
  obtain ⟨A, n, c, at_, zs, h1, h2, h3, h4, h5, h6⟩ := h
  exact ⟨A, n, c, at_, zs, h1.kept k hg, h2, h3.kept k hb, h4, h5, h6⟩
theorem IsDeck.lt {w : World} {B g : Nat} (h : IsDeck w B g) : g < w.heap.size := by
  obtain ⟨A, n, c, at_, zs, h1, _⟩ := h
  exact h1.lt
theorem IsDeck.le {w : World} {B g : Nat} (h : IsDeck w B g) : B ≤ g := by
  obtain ⟨A, n, c, at_, zs, _, h1, _⟩ := h
  exact h1

/-- What Next gives: some number from 0 to n - 1; only the deck's block has changed. -/
def Nexts (w : World) (B g : Nat) (n : Int) (e : Ending) (w' : World) : Prop :=
  ∃ x : Int, e = .returned (.int .i64 x) ∧ 0 ≤ x ∧ x < n ∧ IsDeck w' B g ∧ Keeps (· = g) w w'

theorem next_any (n : Int) (n0 : 1 ≤ n) (n1 : n ≤ 2305843009213693952) (B g : Nat) (w : World) (h : IsDeck w B g) :
    Calls Try.prog 42 #[.pointer (some ⟨g, 0, none⟩), .int .i64 n] w (Nexts w B g n) := by
  obtain ⟨A, m, c, k, zs, h1, h2, h3, h4, h5, h6⟩ := h
  have hl : zs.length = m := by simpa using h3.1
  have f0 := h1.cell 0
  have f1 := h1.cell 1
  have ff := h1.frozen 1
  simp only [List.getElem?_toArray, List.getElem?_cons_zero, List.getElem?_cons_succ] at f0 f1
  by_cases hk : k < m
  · obtain ⟨b, off, rfl, hb, hc⟩ := h3.2 (by omega)
    have hcell := hc k (.int .i64 (zs.getD k 0)) (by simp [List.getD, show k < zs.length by omega])
    have hz := h4 (zs.getD k 0) (by rw [List.getD, List.getElem?_eq_getElem (by omega)]; simp)
    have hbd := within_bd (zs.getD k 0) n n0 n1
    obtain ⟨z, hz'⟩ : ∃ z, z = zs.getD k 0 := ⟨_, rfl⟩
    rw [← hz'] at hcell hz hbd
    have hne : b ≠ g := by omega
    have H1 := hide h1
    have H3 := hide h3
    have H4 := hide h4
    clear h1 h3 hz' hc hl h4
    go_enter Try.func42, Try.ntmps42
    go_wp2
    go_quiet (fail)
    go_wp2
    obtain ⟨w2, hw2⟩ : ∃ w2, w2 = (w.drewN nq).setCell ⟨g, 1, none⟩ (.int .i64 ((k : Int) + 1)) := ⟨_, rfl⟩
    rw [← hw2]
    have b2 : Blk w2 g 118 #[.slice (some ⟨b, off, none⟩) m c, .int .i64 ((k : Int) + 1)] := by rw [hw2]; exact (H1.out.drewN nq).set 1 _
    have k2 : Keeps (· = g) w w2 := by rw [hw2]; exact Keeps.setCell (S := (· = g)) (p := ⟨g, 1, none⟩) ((Keeps.refl _ _).drewN nq) (.inl rfl) _
    have g0 := b2.cell 0
    have g1 := b2.cell 1
    simp only [List.getElem?_toArray, List.getElem?_cons_zero, List.getElem?_cons_succ] at g0 g1
    have g2 := k2.cell_some hcell (by simpa using hne)
    have e1 : IntKind.i64.wrap ((k : Int) + 1 - 1) = (k : Int) := by rw [IntKind.wrap_i64]; omega
    have K2 := hide k2
    have B2 := hide b2
    clear hw2 f0 f1 ff hcell k2 b2 H1
    go_quiet ((go_at_call 73; exact quiet_left (within_any _ _ (by omega) (by omega) (by omega) (by omega) _)))
    go_wp2
    go_ret
    refine ⟨_, rfl, hbd.1, hbd.2, ⟨_, m, c, k + 1, zs, B2.out.drewN _, h2, (H3.out.kept K2.out (by omega)).drewN _, H4.out, by omega, h6⟩, K2.out.drewN _⟩
  · have H1 := hide h1
    have H3 := hide h3
    have H4 := hide h4
    clear h1 h3 hl h4
    go_enter Try.func42, Try.ntmps42
    go_wp2
    go_quiet (fail)
    go_wp2
    go_ret
    refine ⟨0, rfl, by omega, by omega, ⟨A, m, c, k, zs, H1.out.drewN _, h2, H3.out.drewN _, H4.out, h5, h6⟩, (Keeps.refl _ _).drewN _⟩

/-- made.New: a deck in a new block. -/
theorem new_any (A : Option Addr) (n c : Nat) (zs : List Int) (B : Nat) (w : World) (hB : B ≤ w.heap.size) (hr : Rd w B A 1 n (zs.map (.int .i64)))
    (hz : ∀ z ∈ zs, -9223372036854775808 ≤ z ∧ z < 9223372036854775808) (hn : n ≤ 35184372088832) :
    Calls Try.prog 17 #[.slice A n c] w fun e w' => e = .returned (.pointer (some ⟨w.heap.size, 0, none⟩)) ∧ w' = w.alloc (.cells #[.slice A n c, .int .i64 0] 118) := by
  go_enter Try.func17, Try.ntmps17
  go_wp2
  go_ret
  exact ⟨rfl, rfl⟩
theorem IsDeck.made {A : Option Addr} {n c : Nat} {zs : List Int} {B : Nat} {w : World} (hB : B ≤ w.heap.size) (hr : Rd w B A 1 n (zs.map (.int .i64)))
    (hz : ∀ z ∈ zs, -9223372036854775808 ≤ z ∧ z < 9223372036854775808) (hn : n ≤ 35184372088832) : IsDeck (w.alloc (.cells #[.slice A n c, .int .i64 0] 118)) B w.heap.size :=
  ⟨A, n, c, 0, zs, Blk.new _ _ _, hB, hr.kept (S := fun _ => False) ((Keeps.refl _ _).alloc _) (fun _ _ h => h), hz, by omega, hn⟩
/-- made.New, for the laws: the deck, and that nothing else has changed. -/
def Decks (w : World) (B : Nat) (e : Ending) (w' : World) : Prop :=
  e = .returned (.pointer (some ⟨w.heap.size, 0, none⟩)) ∧ IsDeck w' B w.heap.size ∧ Keeps (fun _ => False) w w'
theorem new_deck (A : Option Addr) (n c : Nat) (zs : List Int) (B : Nat) (w : World) (hB : B ≤ w.heap.size) (hr : Rd w B A 1 n (zs.map (.int .i64)))
    (hz : ∀ z ∈ zs, -9223372036854775808 ≤ z ∧ z < 9223372036854775808) (hn : n ≤ 35184372088832) : Calls Try.prog 17 #[.slice A n c] w (Decks w B) :=
  (new_any A n c zs B w hB hr hz hn).mono fun e w' ⟨he, hw⟩ => ⟨he, by rw [hw]; exact IsDeck.made hB hr hz hn, by rw [hw]; exact (Keeps.refl _ _).alloc _⟩


end Go.Proofs.Ytidobhflijdccaa
