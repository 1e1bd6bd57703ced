/-
  The deck's short texts.
-/
import Derived.Test.YtaiopdipldaimaaDeck
import Derived.Deep.RegionHeld3
set_option linter.unusedVariables false
set_option linter.unusedSimpArgs false
namespace Go.Proofs.Ytaiopdipldaimaa
open Go.RowKit

/-- What Short gives: some text of two or three bytes. -/
def Shorts (w : World) (B g : Nat) (e : Ending) (w' : World) : Prop :=
  ∃ s : ByteArray, e = .returned (.string s) ∧ 2 ≤ s.size ∧ s.size ≤ 3 ∧ IsDeck w' B g ∧ Keeps (· = g) w w'
theorem IsDeck.drew {w : World} {B g : Nat} (h : IsDeck w B g) : IsDeck w.drew B g := h.kept (S := fun _ => False) (Keeps.refl _ _).drew (fun h => h) (fun _ _ h => h)
theorem run_abc (x : Int) (h0 : 0 ≤ x) (h1 : x < 5) : ∃ t : ByteArray, (t.size : Int) = 1 + x ∧
    (∀ w, (Instr.sliceAt 9 (.string ⟨#[97, 98, 99, 100, 101, 102, 103, 104]⟩) none (some (.int .i64 (1 + x))) none).run Try.prog w = .ok (.string t) w) ∧
    (∀ w, (Instr.slice 9 (.string ⟨#[97, 98, 99, 100, 101, 102, 103, 104]⟩) none (some (.int .i64 (1 + x))) none).run Try.prog w = .ok (.string t) w) := by
  have hsz : (ByteArray.mk #[97, 98, 99, 100, 101, 102, 103, 104]).size = 8 := rfl
  have h2 := fun w => run_slice_string_h (P := Try.prog) w 9 ⟨#[97, 98, 99, 100, 101, 102, 103, 104]⟩ Try.underlying9 .i64 (1 + x) (by omega) (by rw [hsz]; omega)
  refine ⟨_, ?_, fun w => ?_, h2⟩
  · rw [ByteArray.size_extract, hsz]; omega
  · rw [run_sliceAt_string _ _ _ _ _ _ Try.underlying9]; exact h2 w
theorem run_conv1 (y : Int) (W : World) : ∃ t : ByteArray, t.size = 1 ∧ (convert 46 9 (.slice (some ⟨W.heap.size, 0, none⟩) 1 1)).run Try.prog (W.alloc (.cells #[.int .u8 (IntKind.u8.wrap y)] 5)) = .ok (.string t) (W.alloc (.cells #[.int .u8 (IntKind.u8.wrap y)] 5)) := by
  have hb : 0 ≤ IntKind.u8.wrap y ∧ IntKind.u8.wrap y < 256 := by rw [IntKind.wrap_u8]; omega
  refine ⟨⟨[(IntKind.u8.wrap y).toNat.toUInt8].toArray⟩, rfl, ?_⟩
  refine run_convert_bytes_back (P := Try.prog) (W.alloc (.cells #[.int .u8 (IntKind.u8.wrap y)] 5)) 46 9 5 ⟨W.heap.size, 0, none⟩ 1 [(IntKind.u8.wrap y).toNat.toUInt8] Try.underlying46 Try.underlying5 Try.underlying9 ?_
  intro j hj
  obtain rfl : j = 0 := by simpa using hj
  have h1 := (Blk.new W 5 #[.int .u8 (IntKind.u8.wrap y)]).cell 0
  have h2 : ((IntKind.u8.wrap y).toNat.toUInt8.toNat : Int) = IntKind.u8.wrap y := by
    show (((IntKind.u8.wrap y).toNat % 256 : Nat) : Int) = _
    omega
  rw [show (⟨W.heap.size, 0, none⟩ : Addr).add 0 = ⟨W.heap.size, 0, none⟩ from by simp [Addr.add], h1]
  show some (Value.int .u8 (IntKind.u8.wrap y)) = some (Value.int .u8 ((IntKind.u8.wrap y).toNat.toUInt8.toNat : Int))
  rw [h2]
theorem run_conv1' (y : Int) (y0 : 0 ≤ y) (y1 : y < 256) (W : World) : ∃ t : ByteArray, t.size = 1 ∧ (convert 46 9 (.slice (some ⟨W.heap.size, 0, none⟩) 1 1)).run Try.prog (W.alloc (.cells #[.int .u8 y] 5)) = .ok (.string t) (W.alloc (.cells #[.int .u8 y] 5)) := by
  have := run_conv1 y W
  rwa [show IntKind.u8.wrap y = y from by rw [IntKind.wrap_u8]; omega] at this
set_option maxRecDepth 100000 in
theorem short_any (B g : Nat) (w : World) (h : IsDeck w B g) : Calls Try.prog 17 #[.pointer (some ⟨g, 0, none⟩)] w (Shorts w B g) := by
  have hB := h.le
  go_enter Try.func17, Try.ntmps17
  go_wp2_with fail
  go_region_with ((go_at_call 48; refine (next_any _ (by omega) (by omega) B g _ (by first | assumption | exact IsDeck.drew (by assumption))).mono ?_; rintro e w1 ⟨x, rfl, x0, x1, h1, k1⟩; obtain ⟨t, ht, hs1, hs2⟩ := run_abc x x0 (by omega); have e1 : IntKind.i64.wrap (1 + x) = 1 + x := IntWalk.i64_in _ (by omega); have e2 : IntKind.i64.wrap (97 + x) = 97 + x := IntWalk.i64_in _ (by omega); obtain ⟨t2, ht2, hcv⟩ := run_conv1 (97 + x) w1))
  all_goals
    go_wp2_with fail
    go_ret
    refine ⟨_, rfl, ?_, ?_, IsDeck.kept (S := fun _ => False) (by assumption) ((Keeps.refl _ _).alloc _) (fun h => h) (fun _ _ h => h), ?_⟩
    · rw [ByteArray.size_append]; omega
    · rw [ByteArray.size_append]; omega
    · exact Keeps.alloc (Keeps.trans (Keeps.trans (Keeps.refl _ _).drew (by assumption)) (by assumption)) _
end Go.Proofs.Ytaiopdipldaimaa
