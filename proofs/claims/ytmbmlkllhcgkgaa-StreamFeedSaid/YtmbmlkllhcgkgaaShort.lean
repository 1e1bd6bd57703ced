/-
  The deck's short texts.
-/
import Derived.Test.YtmbmlkllhcgkgaaDeck
import Derived.Deep.RegionHeld3
set_option linter.unusedVariables false
set_option linter.unusedSimpArgs false
namespace Go.Proofs.Ytmbmlkllhcgkgaa
open Go.RowKit

/-- What Short gives: some text of two or three bytes. -/
def Shorts (w : World) (B g : Nat) (e : Ending) (w' : World) : Prop :=
  ∃ s : ByteArray, e = .returned (.string s) ∧ 2 ≤ s.size ∧ s.size ≤ 3 ∧ IsDeck w' B g ∧ Keeps (· = g) w w'
theorem IsDeck.drew {w : World} {B g : Nat} (h : IsDeck w B g) : IsDeck w.drew B g := h.kept (S := fun _ => False) (Keeps.refl _ _).drew (fun h => h) (fun _ _ h => h)
theorem run_conv1 (y : Int) (W : World) : ∃ t : ByteArray, t.size = 1 ∧ (convert 23 9 (.slice (some ⟨W.heap.size, 0, none⟩) 1 1)).run Try.prog (W.alloc (.cells #[.int .u8 (IntKind.u8.wrap y)] 5)) = .ok (.string t) (W.alloc (.cells #[.int .u8 (IntKind.u8.wrap y)] 5)) := by
  have hb : 0 ≤ IntKind.u8.wrap y ∧ IntKind.u8.wrap y < 256 := by rw [IntKind.wrap_u8]; omega
  refine ⟨⟨[(IntKind.u8.wrap y).toNat.toUInt8].toArray⟩, rfl, ?_⟩
  refine run_convert_bytes_back (P := Try.prog) (W.alloc (.cells #[.int .u8 (IntKind.u8.wrap y)] 5)) 23 9 5 ⟨W.heap.size, 0, none⟩ 1 [(IntKind.u8.wrap y).toNat.toUInt8] Try.underlying23 Try.underlying5 Try.underlying9 ?_
  intro j hj
  obtain rfl : j = 0 := by simpa using hj
  have h1 := (Blk.new W 5 #[.int .u8 (IntKind.u8.wrap y)]).cell 0
  have h2 : ((IntKind.u8.wrap y).toNat.toUInt8.toNat : Int) = IntKind.u8.wrap y := by
    show (((IntKind.u8.wrap y).toNat % 256 : Nat) : Int) = _
    omega
  rw [show (⟨W.heap.size, 0, none⟩ : Addr).add 0 = ⟨W.heap.size, 0, none⟩ from by simp [Addr.add], h1]
  show some (Value.int .u8 (IntKind.u8.wrap y)) = some (Value.int .u8 ((IntKind.u8.wrap y).toNat.toUInt8.toNat : Int))
  rw [h2]
theorem run_conv1' (y : Int) (y0 : 0 ≤ y) (y1 : y < 256) (W : World) : ∃ t : ByteArray, t.size = 1 ∧ (convert 23 9 (.slice (some ⟨W.heap.size, 0, none⟩) 1 1)).run Try.prog (W.alloc (.cells #[.int .u8 y] 5)) = .ok (.string t) (W.alloc (.cells #[.int .u8 y] 5)) := by
  have := run_conv1 y W
  rwa [show IntKind.u8.wrap y = y from by rw [IntKind.wrap_u8]; omega] at this
end Go.Proofs.Ytmbmlkllhcgkgaa
