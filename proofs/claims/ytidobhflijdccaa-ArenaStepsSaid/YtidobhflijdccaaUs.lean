/-
  The comparison of two usages that are the same.
-/
import Derived.Test.YtidobhflijdccaaSi
import Derived.Test.YtidobhflijdccaaMem2
import Derived.Deep.CutRange
set_option linter.unusedVariables false
set_option linter.unusedSimpArgs false
namespace Go.Proofs.Ytidobhflijdccaa
open Go.RowKit
theorem sameUsage_any (L : List Int) (A A2 : Option Addr) (m c c2 B B2 : Nat) (b f : Int) (w : World) (hr : Rd w B A 1 m (L.map (.int .i64))) (hr2 : Rd w B2 A2 1 m (L.map (.int .i64))) (hm : m ≤ 140737488351232) :
    Calls Try.prog 36 #[.agg #[.slice A m c, .int .i64 b, .int .i64 f], .agg #[.slice A2 m c2, .int .i64 b, .int .i64 f]] w fun e w' => e = .returned (.bool true) ∧ Keeps (fun _ => False) w w' := by
  have k1 := (Keeps.refl (fun _ => False) w).alloc (.cells #[.slice A m c, .int .i64 b, .int .i64 f] 46)
  have k2 := k1.alloc (.cells #[.slice A2 m c2, .int .i64 b, .int .i64 f] 46)
  have HX := hide ((Blk.new w 46 #[.slice A m c, .int .i64 b, .int .i64 f]).alloc (.cells #[.slice A2 m c2, .int .i64 b, .int .i64 f] 46))
  have HY := hide (Blk.new_at (w.alloc (.cells #[.slice A m c, .int .i64 b, .int .i64 f] 46)) 46 #[.slice A2 m c2, .int .i64 b, .int .i64 f] (w.heap.size + 1) (by simp))
  have R1 := hide (hr.kept k2 (fun _ _ h => h))
  have R2 := hide (hr2.kept k2 (fun _ _ h => h))
  have K2 := hide k2
  clear k1 k2 hr hr2
  go_enter Try.func36, Try.ntmps36
  go_upto_region 1 with fail
  generalize (w.alloc _).alloc _ = w2 at *
  generalize w.heap.size = X at *
  obtain ⟨⟨x0, x1, x2⟩, _, hX⟩ := HX.out.three
  obtain ⟨⟨y0, y1, y2⟩, _, hY⟩ := HY.out.three
  go_wp2_with fail
  refine (sameInts_any L A A2 m c c2 B B2 _ R1.out R2.out hm).mono ?_
  rintro e w3 ⟨rfl, nq, rfl⟩
  go_wp2_with fail
  go_ret
  exact ⟨rfl, K2.out.drewN _⟩
end Go.Proofs.Ytidobhflijdccaa
