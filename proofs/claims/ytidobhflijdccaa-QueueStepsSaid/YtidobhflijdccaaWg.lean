/-
  The deck's weights.
-/
import Derived.Test.YtidobhflijdccaaShort
set_option linter.unusedVariables false
set_option linter.unusedSimpArgs false
namespace Go.Proofs.Ytidobhflijdccaa
open Go.RowKit
/-- some weight; only the deck's block has changed -/
def GotW (w : World) (B g : Nat) (e : Ending) (w' : World) : Prop :=
  ∃ x : Int, e = .returned (.int .u64 x) ∧ 0 ≤ x ∧ x < 18446744073709551616 ∧ IsDeck w' B g ∧ Keeps (· = g) w w'
theorem u64_bd (z : Int) : 0 ≤ IntKind.u64.wrap z ∧ IntKind.u64.wrap z < 18446744073709551616 := by rw [IntKind.wrap_u64]; omega
set_option maxRecDepth 100000 in
theorem weightD (B g : Nat) (w : World) (h : IsDeck w B g) : Calls Try.prog 63 #[.pointer (some ⟨g, 0, none⟩)] w (GotW w B g) := by
  go_enter Try.func63, Try.ntmps63
  go_wp2_with fail
  refine (next_any 12 (by omega) (by omega) B g _ h).mono ?_
  rintro e w1 ⟨x, rfl, x0, x1, h1, k1⟩
  have K1 := hide k1
  clear k1
  go_wp2_with fail
  · refine (next_any 1099511627776 (by omega) (by omega) B g _ h1).mono ?_
    rintro e w2 ⟨y, rfl, y0, y1, h2, k2⟩
    have K2 := hide k2
    clear k2
    go_wp2_with fail
    go_ret
    exact ⟨_, rfl, by omega, by omega, h2, K1.out.trans K2.out⟩
  · refine (next_any 1099511627776 (by omega) (by omega) B g _ h1).mono ?_
    rintro e w2 ⟨y, rfl, y0, y1, h2, k2⟩
    have K2 := hide k2
    clear k2
    go_wp2_with fail
    go_ret
    exact ⟨_, rfl, by omega, by omega, h2, K1.out.trans K2.out⟩
  · refine (next_any 7 (by omega) (by omega) B g _ h1).mono ?_
    rintro e w2 ⟨y, rfl, y0, y1, h2, k2⟩
    have K2 := hide k2
    clear k2
    go_wp2_with fail
    refine (next_any 61 (by omega) (by omega) B g _ h2).mono ?_
    rintro e w3 ⟨z, rfl, z0, z1, h3, k3⟩
    have K3 := hide k3
    clear k3
    go_wp2_with fail
    go_ret
    exact ⟨_, rfl, by first | exact (u64_bd _).1 | omega, by first | exact (u64_bd _).2 | omega, h3, (K1.out.trans K2.out).trans K3.out⟩
  · refine (next_any 20 (by omega) (by omega) B g _ h1).mono ?_
    rintro e w2 ⟨y, rfl, y0, y1, h2, k2⟩
    have K2 := hide k2
    clear k2
    go_wp2_with fail
    go_ret
    exact ⟨_, rfl, by omega, by omega, h2, K1.out.trans K2.out⟩
end Go.Proofs.Ytidobhflijdccaa
