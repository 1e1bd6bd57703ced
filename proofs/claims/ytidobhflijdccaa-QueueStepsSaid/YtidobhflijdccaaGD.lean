/-
  The comparison of two lists of numbers that are the same. The comparison of two usages that are the same.
-/
import Derived.Test.YtidobhflijdccaaArgs
import Derived.Test.YtidobhflijdccaaMem2
import Derived.Deep.CutRange
set_option linter.unusedVariables false
set_option linter.unusedSimpArgs false
namespace Go.Proofs.Ytidobhflijdccaa
open Go.RowKit
theorem sameInts_any (L : List Int) (A A2 : Option Addr) (m c c2 B B2 : Nat) (w : World) (hr : Rd w B A 1 m (L.map (.int .i64))) (hr2 : Rd w B2 A2 1 m (L.map (.int .i64))) (hm : m ≤ 140737488351232) :
    Calls Try.prog 27 #[.slice A m c, .slice A2 m c2] w fun e w' => e = .returned (.bool true) ∧ ∃ nq, w' = w.drewN nq := by
  have hl : L.length = m := by simpa using hr.1
  go_enter Try.func27, Try.ntmps27
  go_wp2_with fail
  go_loopw [5, 13] (fun _ i wr => ∃ k : Nat, k ≤ m ∧ i = .int .i64 k ∧ ∃ nq, wr = w.drewN nq) (fun _ i _ => m - (intOf i).toNat)
  case atStart => exact ⟨0, by omega, rfl, 0, rfl⟩
  case round =>
    obtain ⟨k, hk, rfl, nq, rfl⟩ := hrel
    by_cases hlt : k < m
    · obtain ⟨b, off, rfl, _, hc⟩ := hr.2 (by omega)
      obtain ⟨b2, off2, rfl, _, hc2⟩ := hr2.2 (by omega)
      have c1 := hc k (.int .i64 (L.getD k 0)) (by simp [List.getD, show k < L.length by omega])
      have c2' := hc2 k (.int .i64 (L.getD k 0)) (by simp [List.getD, show k < L.length by omega])
      obtain ⟨p, hp⟩ : ∃ p, p = L.getD k 0 := ⟨_, rfl⟩
      rw [← hp] at c1 c2'
      have HL := hide hl
      have hltI : (k : Int) < (m : Int) := by omega
      clear hp hr hr2 hc hc2 hl
      go_wp2_with fail
      go_quiet (fail)
      go_wp2_with fail
      go_roundw
      case rel => exact ⟨k + 1, by omega, by go_num, _, rfl⟩
      case measure => simp [intOf]; omega
    · go_wp2_with fail
      go_ret
      exact ⟨rfl, _, rfl⟩
end Go.Proofs.Ytidobhflijdccaa

set_option linter.unusedVariables false
set_option linter.unusedSimpArgs false
namespace Go.Proofs.Ytidobhflijdccaa
open Go.RowKit
theorem sameUsage_any (L : List Int) (A A2 : Option Addr) (m c c2 B B2 : Nat) (b f : Int) (w : World) (hr : Rd w B A 1 m (L.map (.int .i64))) (hr2 : Rd w B2 A2 1 m (L.map (.int .i64))) (hm : m ≤ 140737488351232) :
    Calls Try.prog 36 #[.agg #[.slice A m c, .int .i64 b, .int .i64 f], .agg #[.slice A2 m c2, .int .i64 b, .int .i64 f]] w fun e w' => e = .returned (.bool true) ∧ Keeps (fun _ => False) w w' := by
  have k1 := (Keeps.refl (fun _ => False) w).alloc (.cells #[.slice A m c, .int .i64 b, .int .i64 f] 46)
  have k2 := k1.alloc (.cells #[.slice A2 m c2, .int .i64 b, .int .i64 f] 46)
  have HX := hide ((Blk.new w 46 #[.slice A m c, .int .i64 b, .int .i64 f]).alloc (.cells #[.slice A2 m c2, .int .i64 b, .int .i64 f] 46))
  have HY := hide (Blk.new_at (w.alloc (.cells #[.slice A m c, .int .i64 b, .int .i64 f] 46)) 46 #[.slice A2 m c2, .int .i64 b, .int .i64 f] (w.heap.size + 1) (by simp))
  have R1 := hide (hr.kept k2 (fun _ _ h => h))
  have R2 := hide (hr2.kept k2 (fun _ _ h => h))
  have K2 := hide k2
  clear k1 k2 hr hr2
  go_enter Try.func36, Try.ntmps36
  go_upto_region 1 with fail
  generalize (w.alloc _).alloc _ = w2 at *
  generalize w.heap.size = X at *
  obtain ⟨⟨x0, x1, x2⟩, _, hX⟩ := HX.out.three
  obtain ⟨⟨y0, y1, y2⟩, _, hY⟩ := HY.out.three
  go_wp2_with fail
  refine (sameInts_any L A A2 m c c2 B B2 _ R1.out R2.out hm).mono ?_
  rintro e w3 ⟨rfl, nq, rfl⟩
  go_wp2_with fail
  go_ret
  exact ⟨rfl, K2.out.drewN _⟩
end Go.Proofs.Ytidobhflijdccaa
