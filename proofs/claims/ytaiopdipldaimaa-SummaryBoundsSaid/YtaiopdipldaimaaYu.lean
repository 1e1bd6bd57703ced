/-
  The law's awake: the example of the chapter. No conditions beyond those of the statement.
-/
import Derived.Test.YtaiopdipldaimaaYs
set_option linter.unusedVariables false
set_option linter.unusedSimpArgs false
namespace Go.Proofs.Ytaiopdipldaimaa
open Go.RowKit Vp enc21
def exE : Ln := ⟨⟨#[97]⟩, 5, 0⟩
def exB : List UInt8 := [5, 0, 1, 1, 97, 5, 0, 0]
theorem ex_err : encErr [exE] [] = 0 := by decide
theorem ex_all : encAll 5 0 [exE] [] = exB := by decide
set_option maxRecDepth 100000 in
set_option maxHeartbeats 1000000 in
theorem awake21 (w : World) : Calls Try.prog 23 #[] w fun e w' => e = .returned (.bool true) ∧ Keeps (fun _ => False) w w' := by
  obtain ⟨w1, hw1⟩ : ∃ v, v = w.alloc (.cells #[.string ⟨#[97]⟩, .int .u64 5, .int .u64 0] 99) := ⟨_, rfl⟩
  have k1 : Keeps (fun _ => False) w w1 := by rw [hw1]; exact (Keeps.refl _ _).alloc _
  have b1 : Blk w1 w.heap.size 99 #[.string ⟨#[97]⟩, .int .u64 5, .int .u64 0] := by rw [hw1]; exact Blk.new _ _ _
  have hS : SmIn w1 w1.heap.size (some ⟨w.heap.size, 0, none⟩) 1 [exE] none 0 (fun _ => (none, 0, 0, [])) := ⟨rfl, b1.rd (xs := lnCs [exE]) (n := 1) (sz := 3) rfl, Rd.zero rfl, fun j hj => by omega, fun x hx => by
    obtain rfl : x = exE := by simpa using hx
    exact ⟨⟨by decide, by decide⟩, ⟨by decide, by decide⟩, by decide⟩, by omega, by omega⟩
  have HE := hide (encode_any w1 w1.heap.size 5 0 _ none 1 1 0 0 [exE] _ hS (Nat.le_refl _) ⟨by omega, by omega⟩ ⟨by omega, by omega⟩)
  have K1 := hide k1
  have HW1 := hide hw1
  clear hw1 k1 b1 hS
  go_enter Try.func23, Try.ntmps23
  go_wp2_with fail
  rw [← HW1.out]
  trace "ENC"
  refine HE.out.mono ?_
  rintro e w2 ⟨A, n, c, rfl, hn, _, hr, k2⟩
  have e0 : encErr [exE] (Cmp.rowsL (fun _ => (none, 0, 0, [])) 0) = 0 := ex_err
  have ea : encAll 5 0 [exE] (Cmp.rowsL (fun _ => (none, 0, 0, [])) 0) = exB := ex_all
  rw [e0, if_pos rfl, ea] at hr hn
  rw [e0]
  have hn8 : n = 8 := hn
  subst hn8
  have HR := hide hr
  have K2 := hide (K1.out.trans k2)
  have B2 := hide (Blk.new w2 5 (exB.map by8).toArray)
  have kA := (Keeps.refl (fun _ => False) w2).alloc (.cells (exB.map by8).toArray 5)
  have HSm := hide (same_any exB exB A (some ⟨w2.heap.size, 0, none⟩) 8 8 c 8 _ _ _ (hr.kept kA (fun _ _ h => h)) (B2.out.rd (n := 8) (sz := 1) rfl) (by omega) (by omega))
  have KA := hide (K2.out.trans kA)
  clear hr hn k2 kA HW1 HE e0 ea
  go_wp2_with fail
  trace "SAME"
  refine HSm.out.mono ?_
  rintro e w3 ⟨rfl, nq, rfl⟩
  simp only [decide_true]
  go_wp2_with fail
  go_ret
  exact ⟨rfl, KA.out.drewN nq⟩
end Go.Proofs.Ytaiopdipldaimaa
