/-
  The deck of numbers (package heavykeysmade): what its methods give is some number in the range; only the deck's own block changes.
-/
import Derived.Test.YtaiopdipldaimaaBase
set_option linter.unusedVariables false
set_option linter.unusedSimpArgs false
namespace Go.Proofs.Ytaiopdipldaimaa
open Go.RowKit

def within (x n : Int) : Int := (wrap64 (x.tmod n + n)).tmod n
theorem within_bd (x n : Int) (n0 : 1 ≤ n) (n1 : n ≤ 2305843009213693952) : 0 ≤ within x n ∧ within x n < n := by
  unfold within
  have h1 := Int.tmod_lt_of_pos x (show 0 < n by omega)
  have h2 := Int.lt_tmod_of_pos x (show 0 < n by omega)
  have h3 : wrap64 (x.tmod n + n) = x.tmod n + n := by unfold wrap64; omega
  rw [h3, Int.tmod_eq_emod_of_nonneg (by omega)]
  exact ⟨Int.emod_nonneg _ (by omega), Int.emod_lt_of_pos _ (by omega)⟩

theorem within_any (x n : Int) (x0 : -9223372036854775808 ≤ x) (x1 : x < 9223372036854775808) (n0 : 1 ≤ n) (n1 : n ≤ 2305843009213693952) (w : World) :
    Calls Try.prog 81 #[.int .i64 x, .int .i64 n] w fun e w' => e = .returned (.int .i64 (within x n)) ∧ w = w' := by
  go_enter Try.func81, Try.ntmps81
  go_wp2
  go_ret
  exact ⟨rfl, rfl⟩

/-- Block g holds a deck; its list lies below block B. -/
def IsDeck (w : World) (B g : Nat) : Prop :=
  ∃ (A : Option Addr) (n c : Nat) (at_ : Nat) (zs : List Int), Blk w g 88 #[.slice A n c, .int .i64 at_] ∧ B ≤ g ∧ Rd w B A 1 n (zs.map (.int .i64)) ∧
    (∀ z ∈ zs, -9223372036854775808 ≤ z ∧ z < 9223372036854775808) ∧ at_ ≤ n ∧ n ≤ 35184372088832
theorem IsDeck.kept {S : Nat → Prop} {w w' : World} {B g : Nat} (h : IsDeck w B g) (k : Keeps S w w') (hg : ¬ S g) (hb : ∀ b, b < B → ¬ S b) : IsDeck w' B g := by
  obtain ⟨A, n, c, at_, zs, h1, h2, h3, h4, h5, h6⟩ := h
  exact ⟨A, n, c, at_, zs, h1.kept k hg, h2, h3.kept k hb, h4, h5, h6⟩
theorem IsDeck.lt {w : World} {B g : Nat} (h : IsDeck w B g) : g < w.heap.size := by
  obtain ⟨A, n, c, at_, zs, h1, _⟩ := h
  exact h1.lt
theorem IsDeck.le {w : World} {B g : Nat} (h : IsDeck w B g) : B ≤ g := by
  obtain ⟨A, n, c, at_, zs, _, h1, _⟩ := h
  exact h1

/-- What Next gives: some number from 0 to n - 1; only the deck's block has changed. -/
def Nexts (w : World) (B g : Nat) (n : Int) (e : Ending) (w' : World) : Prop :=
  ∃ x : Int, e = .returned (.int .i64 x) ∧ 0 ≤ x ∧ x < n ∧ IsDeck w' B g ∧ Keeps (· = g) w w'

theorem next_any (n : Int) (n0 : 1 ≤ n) (n1 : n ≤ 2305843009213693952) (B g : Nat) (w : World) (h : IsDeck w B g) :
    Calls Try.prog 48 #[.pointer (some ⟨g, 0, none⟩), .int .i64 n] w (Nexts w B g n) := by
  obtain ⟨A, m, c, k, zs, h1, h2, h3, h4, h5, h6⟩ := h
  have hl : zs.length = m := by simpa using h3.1
  have f0 := h1.cell 0
  have f1 := h1.cell 1
  have ff := h1.frozen 1
  simp only [List.getElem?_toArray, List.getElem?_cons_zero, List.getElem?_cons_succ] at f0 f1
  by_cases hk : k < m
  · obtain ⟨b, off, rfl, hb, hc⟩ := h3.2 (by omega)
    have hcell := hc k (.int .i64 (zs.getD k 0)) (by simp [List.getD, show k < zs.length by omega])
    have hz := h4 (zs.getD k 0) (by rw [List.getD, List.getElem?_eq_getElem (by omega)]; simp)
    have hbd := within_bd (zs.getD k 0) n n0 n1
    obtain ⟨z, hz'⟩ : ∃ z, z = zs.getD k 0 := ⟨_, rfl⟩
    rw [← hz'] at hcell hz hbd
    have hne : b ≠ g := by omega
    have H1 := hide h1
    have H3 := hide h3
    have H4 := hide h4
    clear h1 h3 hz' hc hl h4
    go_enter Try.func48, Try.ntmps48
    go_wp2
    go_quiet (fail)
    go_wp2
    obtain ⟨w2, hw2⟩ : ∃ w2, w2 = (w.drewN nq).setCell ⟨g, 1, none⟩ (.int .i64 ((k : Int) + 1)) := ⟨_, rfl⟩
    rw [← hw2]
    have b2 : Blk w2 g 88 #[.slice (some ⟨b, off, none⟩) m c, .int .i64 ((k : Int) + 1)] := by rw [hw2]; exact (H1.out.drewN nq).set 1 _
    have k2 : Keeps (· = g) w w2 := by rw [hw2]; exact Keeps.setCell (S := (· = g)) (p := ⟨g, 1, none⟩) ((Keeps.refl _ _).drewN nq) (.inl rfl) _
    have g0 := b2.cell 0
    have g1 := b2.cell 1
    simp only [List.getElem?_toArray, List.getElem?_cons_zero, List.getElem?_cons_succ] at g0 g1
    have g2 := k2.cell_some hcell (by simpa using hne)
    have e1 : IntKind.i64.wrap ((k : Int) + 1 - 1) = (k : Int) := by rw [IntKind.wrap_i64]; omega
    have K2 := hide k2
    have B2 := hide b2
    clear hw2 f0 f1 ff hcell k2 b2 H1
    go_quiet ((go_at_call 81; exact quiet_left (within_any _ _ (by omega) (by omega) (by omega) (by omega) _)))
    go_wp2
    go_ret
    refine ⟨_, rfl, hbd.1, hbd.2, ⟨_, m, c, k + 1, zs, B2.out.drewN _, h2, (H3.out.kept K2.out (by omega)).drewN _, H4.out, by omega, h6⟩, K2.out.drewN _⟩
  · have H1 := hide h1
    have H3 := hide h3
    have H4 := hide h4
    clear h1 h3 hl h4
    go_enter Try.func48, Try.ntmps48
    go_wp2
    go_quiet (fail)
    go_wp2
    go_ret
    refine ⟨0, rfl, by omega, by omega, ⟨A, m, c, k, zs, H1.out.drewN _, h2, H3.out.drewN _, H4.out, h5, h6⟩, (Keeps.refl _ _).drewN _⟩

/-- made.New: a deck in a new block. -/
theorem new_any (A : Option Addr) (n c : Nat) (zs : List Int) (B : Nat) (w : World) (hB : B ≤ w.heap.size) (hr : Rd w B A 1 n (zs.map (.int .i64)))
    (hz : ∀ z ∈ zs, -9223372036854775808 ≤ z ∧ z < 9223372036854775808) (hn : n ≤ 35184372088832) :
    Calls Try.prog 14 #[.slice A n c] w fun e w' => e = .returned (.pointer (some ⟨w.heap.size, 0, none⟩)) ∧ w' = w.alloc (.cells #[.slice A n c, .int .i64 0] 88) := by
  go_enter Try.func14, Try.ntmps14
  go_wp2
  go_ret
  exact ⟨rfl, rfl⟩
theorem IsDeck.made {A : Option Addr} {n c : Nat} {zs : List Int} {B : Nat} {w : World} (hB : B ≤ w.heap.size) (hr : Rd w B A 1 n (zs.map (.int .i64)))
    (hz : ∀ z ∈ zs, -9223372036854775808 ≤ z ∧ z < 9223372036854775808) (hn : n ≤ 35184372088832) : IsDeck (w.alloc (.cells #[.slice A n c, .int .i64 0] 88)) B w.heap.size :=
  ⟨A, n, c, 0, zs, Blk.new _ _ _, hB, hr.kept (S := fun _ => False) ((Keeps.refl _ _).alloc _) (fun _ _ h => h), hz, by omega, hn⟩
/-- made.New, for the laws: the deck, and that nothing else has changed. -/
def Decks (w : World) (B : Nat) (e : Ending) (w' : World) : Prop :=
  e = .returned (.pointer (some ⟨w.heap.size, 0, none⟩)) ∧ IsDeck w' B w.heap.size ∧ Keeps (fun _ => False) w w'
theorem new_deck (A : Option Addr) (n c : Nat) (zs : List Int) (B : Nat) (w : World) (hB : B ≤ w.heap.size) (hr : Rd w B A 1 n (zs.map (.int .i64)))
    (hz : ∀ z ∈ zs, -9223372036854775808 ≤ z ∧ z < 9223372036854775808) (hn : n ≤ 35184372088832) : Calls Try.prog 14 #[.slice A n c] w (Decks w B) :=
  (new_any A n c zs B w hB hr hz hn).mono fun e w' ⟨he, hw⟩ => ⟨he, by rw [hw]; exact IsDeck.made hB hr hz hn, by rw [hw]; exact (Keeps.refl _ _).alloc _⟩

/-- What Word gives: some number of 64 bits. -/
def Words (w : World) (B g : Nat) (e : Ending) (w' : World) : Prop :=
  ∃ x : Int, e = .returned (.int .u64 x) ∧ 0 ≤ x ∧ x < 18446744073709551616 ∧ IsDeck w' B g ∧ Keeps (· = g) w w'
theorem word_any (B g : Nat) (w : World) (h : IsDeck w B g) : Calls Try.prog 49 #[.pointer (some ⟨g, 0, none⟩)] w (Words w B g) := by
  have hB := h.le
  go_enter Try.func49, Try.ntmps49
  go_wp2_with fail
  refine (next_any 4294967296 (by omega) (by omega) B g _ h).mono ?_
  rintro e w1 ⟨x, rfl, x0, x1, h1, k1⟩
  have K1 := hide k1
  clear k1
  go_wp2_with fail
  refine (next_any 4294967296 (by omega) (by omega) B g _ h1).mono ?_
  rintro e w2 ⟨y, rfl, y0, y1, h2, k2⟩
  have K2 := hide k2
  clear k2
  go_wp2_with fail
  go_ret
  exact ⟨_, rfl, (wf_u64 (wf_bits _ _ _ _)).1, (wf_u64 (wf_bits _ _ _ _)).2, h2, K1.out.trans K2.out⟩

/-- What Table gives: 16 words in a new block. -/
def Tables (w : World) (B g : Nat) (e : Ending) (w' : World) : Prop :=
  ∃ (b : Nat) (zs : List Int), e = .returned (.slice (some ⟨b, 0, none⟩) 16 16) ∧ zs.length = 16 ∧ (∀ z ∈ zs, 0 ≤ z ∧ z < 18446744073709551616) ∧ Blk w' b 24 (zs.map (.int .u64)).toArray ∧ w.heap.size ≤ b ∧ IsDeck w' B g ∧ Keeps (· = g) w w'
theorem table_any (B g : Nat) (w : World) (h : IsDeck w B g) : Calls Try.prog 16 #[.pointer (some ⟨g, 0, none⟩)] w (Tables w B g) := by
  have hg := h.lt
  have hmk : ∀ w, (Instr.makeSlice 31 (.int .i64 16) (.int .i64 16)).run Try.prog w = .ok (.slice (some ⟨w.heap.size, 0, none⟩) 16 16) (w.alloc (.cells (Array.replicate 16 (.int .u64 0)) 24)) := fun _ => by kernel_rfl
  have hd := h.kept (S := fun _ => False) ((Keeps.refl _ w).alloc (.cells (Array.replicate 16 (.int .u64 0)) 24)) (fun hh => hh) (fun _ _ hh => hh)
  have hb := Blk.new w 24 (Array.replicate 16 (.int .u64 0))
  have hk := (Keeps.refl (· = g) w).alloc (.cells (Array.replicate 16 (.int .u64 0)) 24)
  go_enter Try.func16, Try.ntmps16
  go_wp2_with fail
  obtain ⟨w1, hw1⟩ : ∃ w1, w1 = w.alloc (.cells (Array.replicate 16 (.int .u64 0)) 24) := ⟨_, rfl⟩
  rw [← hw1] at hd hb hk ⊢
  have HB := hide hb
  have HK := hide hk
  clear hw1 hb hk hmk h
  refine (next_any 4 (by omega) (by omega) B g _ hd).mono ?_
  rintro e w2 ⟨x, rfl, x0, x1, h2, k2⟩
  have b2 := HB.out.kept k2 (by omega)
  have HK2 := hide (HK.out.trans k2)
  clear k2 hd HB HK w1
  rcases Bool.eq_false_or_eq_true (x == 1) with hx | hx
  · go_wp2_with fail
    go_loopw [12] (fun i wr => ∃ (k : Nat) (zs : List Int), k ≤ 16 ∧ i = .int .i64 k ∧ zs.length = 16 ∧ (∀ z ∈ zs, 0 ≤ z ∧ z < 18446744073709551616) ∧ Blk wr w.heap.size 24 (zs.map (.int .u64)).toArray ∧ IsDeck wr B g ∧ Keeps (· = g) w wr) (fun i _ => 16 - (intOf i).toNat)
    case atStart => exact ⟨0, List.replicate 16 0, by omega, rfl, rfl, by decide, b2, h2, HK2.out⟩
    case round =>
      obtain ⟨k, zs, hk, rfl, hl, hz, bz, dz, kz⟩ := hrel
      have BZ := hide bz
      have KZ := hide kz
      have HZ := hide hz
      have HL := hide hl
      clear hl hz bz kz
      by_cases hlt : k < 16
      · go_wp2_with fail
        go_roundw
        case rel => exact ⟨k + 1, zs, by omega, by go_num, HL.out, HZ.out, BZ.out, dz, KZ.out⟩
        case measure => simp [intOf]; omega
      · go_wp2_with fail
        go_ret
        exact ⟨w.heap.size, zs, rfl, HL.out, HZ.out, BZ.out, Nat.le_refl _, dz, KZ.out⟩
  · go_wp2_with fail
    go_loopw [12] (fun i wr => ∃ (k : Nat) (zs : List Int), k ≤ 16 ∧ i = .int .i64 k ∧ zs.length = 16 ∧ (∀ z ∈ zs, 0 ≤ z ∧ z < 18446744073709551616) ∧ Blk wr w.heap.size 24 (zs.map (.int .u64)).toArray ∧ IsDeck wr B g ∧ Keeps (· = g) w wr) (fun i _ => 16 - (intOf i).toNat)
    case atStart => exact ⟨0, List.replicate 16 0, by omega, rfl, rfl, by decide, b2, h2, HK2.out⟩
    case round =>
      obtain ⟨k, zs, hk, rfl, hl, hz, bz, dz, kz⟩ := hrel
      have BZ := hide bz
      have KZ := hide kz
      have HZ := hide hz
      have HL := hide hl
      clear hl hz bz kz
      by_cases hlt : k < 16
      · go_wp2_with fail
        refine (word_any B g _ dz).mono ?_
        rintro e w3 ⟨y, rfl, y0, y1, h3, k3⟩
        have b3 := BZ.out.kept k3 (by omega)
        have hc3 := b3.cell k
        have hf3 := b3.frozen k
        rw [show ((zs.map (Value.int .u64)).toArray)[k]? = some (.int .u64 (zs.getD k 0)) from by
          have := HL.out; simp [List.getD, show k < zs.length by omega]] at hc3
        have K3 := hide (KZ.out.trans k3)
        have B3 := hide b3
        clear k3 b3 BZ KZ
        go_wp2_with fail
        go_roundw
        case rel =>
          refine ⟨k + 1, zs.set k y, by omega, by go_num, by simpa using HL.out, ?_, ?_, ?_, ?_⟩
          · intro z hz
            rcases List.mem_or_eq_of_mem_set hz with h | rfl
            · exact HZ.out z h
            · exact ⟨y0, y1⟩
          · have := B3.out.set k (.int .u64 y)
            simpa [List.map_set] using this
          · exact h3.kept (Keeps.setCell (S := (· = w.heap.size)) (p := ⟨w.heap.size, k, none⟩) (Keeps.refl _ _) (.inl rfl) _) (by omega) (by have := h3.le; intro b hb; omega)
          · exact Keeps.setCell (p := ⟨w.heap.size, k, none⟩) K3.out (.inr (Nat.le_refl _)) _
        case measure => simp [intOf]; omega
      · go_wp2_with fail
        go_ret
        exact ⟨w.heap.size, zs, rfl, HL.out, HZ.out, BZ.out, Nat.le_refl _, dz, KZ.out⟩
end Go.Proofs.Ytaiopdipldaimaa
