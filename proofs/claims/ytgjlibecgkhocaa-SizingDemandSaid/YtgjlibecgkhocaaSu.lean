/-
  The example of the chapter on sizing (awake).
-/
import Derived.Test.YtgjlibecgkhocaaSv
set_option linter.unusedVariables false
set_option linter.unusedSimpArgs false
namespace Go.Proofs.Ytgjlibecgkhocaa
open Go.RowKit Cfp

def c28 : Cfg := ⟨1, 0, 1, 1, 1, 4, 1, 2, 1, 0, 2, 4, 1, 40, 0⟩
def l28 (x : Int) : List (Int × Int) := [(32, 20), (64, x)]
theorem fine28 : Fine c28 := by constructor <;> decide

/-- the example: its classes and its table in blocks of their own -/
def Exs (w : World) (x : Int) (e : Ending) (w' : World) : Prop :=
  ∃ G b : Nat, e = .returned (Value.agg #[.int .i64 c28.length, .int .i64 c28.lateness, .int .i64 c28.windows, .int .i64 c28.shards, .int .i64 c28.spread, .int .i64 c28.queue, .int .i64 c28.mode, .int .i64 c28.slots, .int .i64 c28.exact_, .int .u64 c28.promote, .int .i64 c28.depth, .int .i64 c28.width, .int .i64 c28.top, .int .i64 c28.key, .slice (some ⟨G, 0, none⟩) 2 2, .slice (some ⟨b, 0, none⟩) 16 16, .int .u64 c28.seed]) ∧ Blk w' G 46 (clv (l28 x)).toArray ∧ Keeps (fun _ => False) w w'
set_option maxRecDepth 100000 in
set_option maxHeartbeats 2000000 in
theorem example28 (x : Int) (w : World) : Calls Try.prog 46 #[.int .i64 x] w (Exs w x) := by
  have hmk : ∀ w, (Instr.makeSlice 26 (.int .i64 16) (.int .i64 16)).run Try.prog w = .ok (.slice (some ⟨w.heap.size, 0, none⟩) 16 16) (w.alloc (.cells (Array.replicate 16 (.int .u64 0)) 24)) := fun _ => by kernel_rfl
  go_enter Try.func46, Try.ntmps46
  go_wp2_with fail
  refine bodyPost_ret (v := Value.agg #[.int .i64 c28.length, .int .i64 c28.lateness, .int .i64 c28.windows, .int .i64 c28.shards, .int .i64 c28.spread, .int .i64 c28.queue, .int .i64 c28.mode, .int .i64 c28.slots, .int .i64 c28.exact_, .int .u64 c28.promote, .int .i64 c28.depth, .int .i64 c28.width, .int .i64 c28.top, .int .i64 c28.key, .slice (some ⟨w.heap.size + 1, 0, none⟩) 2 2, .slice (some ⟨w.heap.size + 1 + 1, 0, none⟩) 16 16, .int .u64 c28.seed]) (by simp [results, Try.results46, go_sem, c28]) rfl ?_
  exact ⟨_, _, rfl, (Blk.new_at _ _ _ _ (by simp)).alloc _, ((((Keeps.refl _ _).alloc _).alloc _).alloc _)⟩

theorem demand28 (x : Int) : demand0 c28 (l28 x) = [16, 7] := by
  have h : (l28 x).map Prod.fst = (l28 9).map Prod.fst := rfl
  rw [demand_fst h]
  decide +kernel
theorem classes28 (x : Int) (h0 : 0 ≤ x) (h1 : x ≤ 65536) : classesE (l28 x) = 0 := by
  unfold classesE l28
  rw [if_neg (by simp)]
  unfold classesFrom
  rw [if_neg (by dsimp only; omega), if_neg (by dsimp only; omega)]
  unfold classesFrom
  rw [if_neg (by dsimp only; omega), if_neg (by dsimp only; omega)]
  rfl
theorem room28 (x : Int) : Room c28 (l28 x) := ⟨1, (64, x), rfl, rfl, by simp [c28], by dsimp only; omega, by simp [c28]⟩

set_option maxRecDepth 100000 in
set_option maxHeartbeats 2000000 in
theorem awake28 (w : World) : Calls Try.prog 23 #[] w fun e w' => e = .returned (.bool true) ∧ Keeps (fun _ => False) w w' := by
  go_enter Try.func23, Try.ntmps23
  go_wp2_with fail
  refine (example28 9 _).mono ?_
  rintro e w1 ⟨G1, b1, rfl, bG1, k1⟩
  go_wp2_with fail
  refine (sdemand_ok c28 fine28 (l28 9) (classes28 9 (by omega) (by omega)) (room28 9) _ _ 2 2 16 _ _ (bG1.rd (n := 2) (sz := 2) rfl) (Nat.le_refl _)).mono ?_
  rintro e w2 ⟨g2, rfl, hg2, nu2, k2⟩
  rw [demand28] at nu2
  have K2 := hide (k1.trans k2)
  have NU := hide nu2
  clear k1 k2 nu2 bG1 hg2
  go_wp2_with fail
  have kb := (Keeps.refl (fun _ => False) w2).alloc (.cells #[.int .i64 16, .int .i64 7] 3)
  have bb := Blk.new w2 3 #[.int .i64 16, .int .i64 7]
  have hn3 := NU.out.kept kb (fun h => h)
  refine (sameInts_any [16, 7] (some ⟨g2, 0, none⟩) (some ⟨w2.heap.size, 0, none⟩) 2 2 2 _ _ _ (Blk.rd (sz := 1) (n := 2) hn3 rfl) (Blk.rd (xs := [.int .i64 16, .int .i64 7]) (sz := 1) (n := 2) bb rfl) (by omega)).mono ?_
  rintro e w3 ⟨rfl, nq, rfl⟩
  have K3 := hide ((K2.out.trans kb).drewN nq)
  clear kb bb hn3 K2 NU
  go_wp2_with fail
  refine (example28 9 _).mono ?_
  rintro e w4 ⟨G4, b4, rfl, bG4, k4⟩
  go_wp2_with fail
  refine (svalidate_ok c28 fine28 (l28 9) (classes28 9 (by omega) (by omega)) (room28 9) _ _ 2 2 16 _ _ (bG4.rd (n := 2) (sz := 2) rfl) (Nat.le_refl _)).mono ?_
  rintro e w5 ⟨rfl, k5⟩
  have e1 : fullV (demand0 c28 (l28 9)) (l28 9) = 0 := by rw [demand28]; decide
  rw [e1]
  have K5 := hide ((K3.out.trans k4).trans k5)
  clear k4 k5 bG4 K3 e1
  go_wp2_with fail
  refine (example28 6 _).mono ?_
  rintro e w6 ⟨G6, b6, rfl, bG6, k6⟩
  go_wp2_with fail
  refine (svalidate_ok c28 fine28 (l28 6) (classes28 6 (by omega) (by omega)) (room28 6) _ _ 2 2 16 _ _ (bG6.rd (n := 2) (sz := 2) rfl) (Nat.le_refl _)).mono ?_
  rintro e w7 ⟨rfl, k7⟩
  have e1 : fullV (demand0 c28 (l28 6)) (l28 6) = 7 := by rw [demand28]; decide
  rw [e1]
  have K7 := hide ((K5.out.trans k6).trans k7)
  clear k6 k7 bG6 K5 e1
  go_wp2_with fail
  go_ret
  exact ⟨rfl, K7.out⟩
end Go.Proofs.Ytgjlibecgkhocaa
