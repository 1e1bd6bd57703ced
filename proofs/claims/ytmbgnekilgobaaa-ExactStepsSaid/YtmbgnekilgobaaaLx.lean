/-
  The chapter's example of bounds. No conditions beyond those of the statement.
-/
import Derived.Test.YtmbgnekilgobaaaLw
import Derived.Test.YtmbgnekilgobaaaLu
set_option linter.unusedVariables false
set_option linter.unusedSimpArgs false
namespace Go.Proofs.Ytmbgnekilgobaaa
open Go.RowKit
def lnA : Ln := ⟨⟨#[97]⟩, 1, 7⟩
def lnB : Ln := ⟨⟨#[98]⟩, 0, 7⟩
def lnc : Ln := ⟨⟨#[99]⟩, 9, 9⟩
theorem awake_srt : srtL [lnB, lnA, lnc] = [lnc, lnA, lnB] := by
  have h1 : lnLt lnA lnB = true := by simp [lnLt, lnA, lnB, ByteArray.toList_eq, Op.bytesLess]
  have h2 : lnLt lnc lnA = true := by simp [lnLt, lnA, lnc]
  show Srt.srt lnLt ([lnB, lnA] ++ [lnc]) = _
  rw [Srt.srt_snoc, show [lnB, lnA] = [lnB] ++ [lnA] from rfl, Srt.srt_snoc, Srt.srt_one, Srt.mrg_lt h1, Srt.mrg_nil', Srt.mrg_lt h2, Srt.mrg_nil']
set_option maxRecDepth 100000 in
theorem awake18 (w : World) : Calls Try.prog 25 #[] w fun e w' => e = .returned (.bool true) ∧ Keeps (fun _ => False) w w' := by
  have R1 : Hid (Rd (w.alloc (.cells (lnCs [lnB, lnA, lnc]).toArray 38)) (w.alloc (.cells (lnCs [lnB, lnA, lnc]).toArray 38)).heap.size (some ⟨w.heap.size, 0, none⟩) 3 3 (lnCs [lnB, lnA, lnc])) := hide (Blk.rd (Blk.new _ _ _) (by rw [lnCs_len]; rfl))
  go_enter Try.func25, Try.ntmps25
  go_wp2_with fail
  refine (bsort_any (w.alloc (.cells (lnCs [lnB, lnA, lnc]).toArray 38)) _ _ _ _ [lnB, lnA, lnc] R1.out (by omega)).mono ?_
  rintro e w2 ⟨A2, c2, rfl, h2, k2⟩
  rw [awake_srt] at h2
  obtain ⟨g, rfl, _⟩ := Own.some_ h2 (by omega)
  have K2 := hide (((Keeps.refl (fun _ => False) w).alloc _).trans k2)
  have H2 := hide h2
  clear k2 h2 R1
  go_wp2_with fail
  refine (badd_any 2 5 0 3 ⟨by omega, by omega⟩ ⟨by omega, by omega⟩ ⟨by omega, by omega⟩ ⟨by omega, by omega⟩ _).mono ?_
  rintro e w3 ⟨rfl, k3⟩
  have h3 := H2.out.kept k3 (fun _ _ h => h)
  obtain ⟨p0, _, _⟩ := Lns.at_ h3 (i := 0) (x := lnc) rfl
  obtain ⟨p1, _, _⟩ := Lns.at_ h3 (i := 1) (x := lnA) rfl
  obtain ⟨p2, _, _⟩ := Lns.at_ h3 (i := 2) (x := lnB) rfl
  simp only [lnA, lnB, lnc, Nat.zero_mul, Nat.one_mul, Nat.reduceMul] at p0 p1 p2
  rw [show Sat.add 2 0 = 2 from by decide, show Sat.add 5 3 = 8 from by decide]
  have K3 := hide (K2.out.trans k3)
  clear k3 h3 K2 H2
  go_wp2_with fail
  go_ret
  exact ⟨rfl, K3.out⟩
end Go.Proofs.Ytmbgnekilgobaaa
