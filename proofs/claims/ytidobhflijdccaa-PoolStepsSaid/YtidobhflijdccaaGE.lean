/-
  The comparison of two lists of numbers that are the same. The comparison of two usages that are the same. The deck's short texts.
-/
import Derived.Test.YtidobhflijdccaaArgs
import Derived.Test.YtidobhflijdccaaMem2
import Derived.Deep.CutRange
import Derived.Test.YtidobhflijdccaaDeck
import Derived.Deep.RegionHeld3
set_option linter.unusedVariables false
set_option linter.unusedSimpArgs false
namespace Go.Proofs.Ytidobhflijdccaa
open Go.RowKit
theorem sameInts_any (L : List Int) (A A2 : Option Addr) (m c c2 B B2 : Nat) (w : World) (hr : Rd w B A 1 m (L.map (.int .i64))) (hr2 : Rd w B2 A2 1 m (L.map (.int .i64))) (hm : m ≤ 140737488351232) :
    Calls Try.prog 27 #[.slice A m c, .slice A2 m c2] w fun e w' => e = .returned (.bool true) ∧ ∃ nq, w' = w.drewN nq := by
  have hl : L.length = m := by simpa using hr.1
  go_enter Try.func27, Try.ntmps27
  go_wp2_with fail
  go_loopw [5, 13] (fun _ i wr => ∃ k : Nat, k ≤ m ∧ i = .int .i64 k ∧ ∃ nq, wr = w.drewN nq) (fun _ i _ => m - (intOf i).toNat)
  case atStart => exact ⟨0, by omega, rfl, 0, rfl⟩
  case round =>
    obtain ⟨k, hk, rfl, nq, rfl⟩ := hrel
    by_cases hlt : k < m
    · obtain ⟨b, off, rfl, _, hc⟩ := hr.2 (by omega)
      obtain ⟨b2, off2, rfl, _, hc2⟩ := hr2.2 (by omega)
      have c1 := hc k (.int .i64 (L.getD k 0)) (by simp [List.getD, show k < L.length by omega])
      have c2' := hc2 k (.int .i64 (L.getD k 0)) (by simp [List.getD, show k < L.length by omega])
      obtain ⟨p, hp⟩ : ∃ p, p = L.getD k 0 := ⟨_, rfl⟩
      rw [← hp] at c1 c2'
      have HL := hide hl
      have hltI : (k : Int) < (m : Int) := by omega
      clear hp hr hr2 hc hc2 hl
      go_wp2_with fail
      go_quiet (fail)
      go_wp2_with fail
      go_roundw
      case rel => exact ⟨k + 1, by omega, by go_num, _, rfl⟩
      case measure => simp [intOf]; omega
    · go_wp2_with fail
      go_ret
      exact ⟨rfl, _, rfl⟩
end Go.Proofs.Ytidobhflijdccaa

set_option linter.unusedVariables false
set_option linter.unusedSimpArgs false
namespace Go.Proofs.Ytidobhflijdccaa
open Go.RowKit
theorem sameUsage_any (L : List Int) (A A2 : Option Addr) (m c c2 B B2 : Nat) (b f : Int) (w : World) (hr : Rd w B A 1 m (L.map (.int .i64))) (hr2 : Rd w B2 A2 1 m (L.map (.int .i64))) (hm : m ≤ 140737488351232) :
    Calls Try.prog 36 #[.agg #[.slice A m c, .int .i64 b, .int .i64 f], .agg #[.slice A2 m c2, .int .i64 b, .int .i64 f]] w fun e w' => e = .returned (.bool true) ∧ Keeps (fun _ => False) w w' := by
  have k1 := (Keeps.refl (fun _ => False) w).alloc (.cells #[.slice A m c, .int .i64 b, .int .i64 f] 46)
  have k2 := k1.alloc (.cells #[.slice A2 m c2, .int .i64 b, .int .i64 f] 46)
  have HX := hide ((Blk.new w 46 #[.slice A m c, .int .i64 b, .int .i64 f]).alloc (.cells #[.slice A2 m c2, .int .i64 b, .int .i64 f] 46))
  have HY := hide (Blk.new_at (w.alloc (.cells #[.slice A m c, .int .i64 b, .int .i64 f] 46)) 46 #[.slice A2 m c2, .int .i64 b, .int .i64 f] (w.heap.size + 1) (by simp))
  have R1 := hide (hr.kept k2 (fun _ _ h => h))
  have R2 := hide (hr2.kept k2 (fun _ _ h => h))
  have K2 := hide k2
  clear k1 k2 hr hr2
  go_enter Try.func36, Try.ntmps36
  go_upto_region 1 with fail
  generalize (w.alloc _).alloc _ = w2 at *
  generalize w.heap.size = X at *
  obtain ⟨⟨x0, x1, x2⟩, _, hX⟩ := HX.out.three
  obtain ⟨⟨y0, y1, y2⟩, _, hY⟩ := HY.out.three
  go_wp2_with fail
  refine (sameInts_any L A A2 m c c2 B B2 _ R1.out R2.out hm).mono ?_
  rintro e w3 ⟨rfl, nq, rfl⟩
  go_wp2_with fail
  go_ret
  exact ⟨rfl, K2.out.drewN _⟩
end Go.Proofs.Ytidobhflijdccaa

set_option linter.unusedVariables false
set_option linter.unusedSimpArgs false
namespace Go.Proofs.Ytidobhflijdccaa
open Go.RowKit

/-- What Short gives: some text of two or three bytes. -/
def Shorts (w : World) (B g : Nat) (e : Ending) (w' : World) : Prop :=
  ∃ s : ByteArray, e = .returned (.string s) ∧ 2 ≤ s.size ∧ s.size ≤ 3 ∧ IsDeck w' B g ∧ Keeps (· = g) w w'
theorem IsDeck.drew {w : World} {B g : Nat} (h : IsDeck w B g) : IsDeck w.drew B g := h.kept (S := fun _ => False) (Keeps.refl _ _).drew (fun h => h) (fun _ _ h => h)
theorem run_abc (x : Int) (h0 : 0 ≤ x) (h1 : x < 5) : ∃ t : ByteArray, (t.size : Int) = 1 + x ∧
    (∀ w, (Instr.sliceAt 9 (.string ⟨#[97, 98, 99, 100, 101, 102, 103, 104]⟩) none (some (.int .i64 (1 + x))) none).run Try.prog w = .ok (.string t) w) ∧
    (∀ w, (Instr.slice 9 (.string ⟨#[97, 98, 99, 100, 101, 102, 103, 104]⟩) none (some (.int .i64 (1 + x))) none).run Try.prog w = .ok (.string t) w) := by
  have hsz : (ByteArray.mk #[97, 98, 99, 100, 101, 102, 103, 104]).size = 8 := rfl
  have h2 := fun w => run_slice_string_h (P := Try.prog) w 9 ⟨#[97, 98, 99, 100, 101, 102, 103, 104]⟩ Try.underlying9 .i64 (1 + x) (by omega) (by rw [hsz]; omega)
  refine ⟨_, ?_, fun w => ?_, h2⟩
  · rw [ByteArray.size_extract, hsz]; omega
  · rw [run_sliceAt_string _ _ _ _ _ _ Try.underlying9]; exact h2 w
theorem run_conv1 (y : Int) (W : World) : ∃ t : ByteArray, t.size = 1 ∧ (convert 54 9 (.slice (some ⟨W.heap.size, 0, none⟩) 1 1)).run Try.prog (W.alloc (.cells #[.int .u8 (IntKind.u8.wrap y)] 5)) = .ok (.string t) (W.alloc (.cells #[.int .u8 (IntKind.u8.wrap y)] 5)) := by
  have hb : 0 ≤ IntKind.u8.wrap y ∧ IntKind.u8.wrap y < 256 := by rw [IntKind.wrap_u8]; omega
  refine ⟨⟨[(IntKind.u8.wrap y).toNat.toUInt8].toArray⟩, rfl, ?_⟩
  refine run_convert_bytes_back (P := Try.prog) (W.alloc (.cells #[.int .u8 (IntKind.u8.wrap y)] 5)) 54 9 5 ⟨W.heap.size, 0, none⟩ 1 [(IntKind.u8.wrap y).toNat.toUInt8] Try.underlying54 Try.underlying5 Try.underlying9 ?_
  intro j hj
  obtain rfl : j = 0 := by simpa using hj
  have h1 := (Blk.new W 5 #[.int .u8 (IntKind.u8.wrap y)]).cell 0
  have h2 : ((IntKind.u8.wrap y).toNat.toUInt8.toNat : Int) = IntKind.u8.wrap y := by
    show (((IntKind.u8.wrap y).toNat % 256 : Nat) : Int) = _
    omega
  rw [show (⟨W.heap.size, 0, none⟩ : Addr).add 0 = ⟨W.heap.size, 0, none⟩ from by simp [Addr.add], h1]
  show some (Value.int .u8 (IntKind.u8.wrap y)) = some (Value.int .u8 ((IntKind.u8.wrap y).toNat.toUInt8.toNat : Int))
  rw [h2]
theorem run_conv1' (y : Int) (y0 : 0 ≤ y) (y1 : y < 256) (W : World) : ∃ t : ByteArray, t.size = 1 ∧ (convert 54 9 (.slice (some ⟨W.heap.size, 0, none⟩) 1 1)).run Try.prog (W.alloc (.cells #[.int .u8 y] 5)) = .ok (.string t) (W.alloc (.cells #[.int .u8 y] 5)) := by
  have := run_conv1 y W
  rwa [show IntKind.u8.wrap y = y from by rw [IntKind.wrap_u8]; omega] at this
set_option maxRecDepth 100000 in
theorem short_any (B g : Nat) (w : World) (h : IsDeck w B g) : Calls Try.prog 43 #[.pointer (some ⟨g, 0, none⟩)] w (Shorts w B g) := by
  have hB := h.le
  go_enter Try.func43, Try.ntmps43
  go_wp2_with fail
  go_region_with ((go_at_call 42; refine (next_any _ (by omega) (by omega) B g _ (by first | assumption | exact IsDeck.drew (by assumption))).mono ?_; rintro e w1 ⟨x, rfl, x0, x1, h1, k1⟩; obtain ⟨t, ht, hs1, hs2⟩ := run_abc x x0 (by omega); have e1 : IntKind.i64.wrap (1 + x) = 1 + x := IntWalk.i64_in _ (by omega); have e2 : IntKind.i64.wrap (97 + x) = 97 + x := IntWalk.i64_in _ (by omega); obtain ⟨t2, ht2, hcv⟩ := run_conv1 (97 + x) w1))
  all_goals
    go_wp2_with fail
    go_ret
    refine ⟨_, rfl, ?_, ?_, IsDeck.kept (S := fun _ => False) (by assumption) ((Keeps.refl _ _).alloc _) (fun h => h) (fun _ _ h => h), ?_⟩
    · rw [ByteArray.size_append]; omega
    · rw [ByteArray.size_append]; omega
    · exact Keeps.alloc (Keeps.trans (Keeps.trans (Keeps.refl _ _).drew (by assumption)) (by assumption)) _
end Go.Proofs.Ytidobhflijdccaa
