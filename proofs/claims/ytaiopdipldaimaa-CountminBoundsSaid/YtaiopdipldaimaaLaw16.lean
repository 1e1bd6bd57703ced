/-
  CountminAlone: with one key its estimate is its weight; the walk, and the chapter's example. No conditions beyond those of the statement.
-/
import Derived.Test.YtaiopdipldaimaaCmN
import Derived.Test.YtaiopdipldaimaaDeck
set_option linter.unusedVariables false
set_option linter.unusedSimpArgs false
namespace Go.Proofs.Ytaiopdipldaimaa
open Go.RowKit

namespace Cmp
theorem one_cell {R : Rows} {t : List Int} {seed : Int} {k : List UInt8} {T w : Int} (h : Fine R 1 1 T) (hT : T ≤ big) (hw : 0 ≤ w) :
    least R t seed k 1 = cell R 0 0 ∧ cell (raise R t seed k (least R t seed k 1 + w) 1) 0 0 = cell R 0 0 + w := by
  have hp := pos_lt t seed k 1 0 (by omega)
  have hp0 : pos t seed k 1 0 = 0 := by omega
  have hv := val_of (R := R) (t := t) (seed := seed) (k := k) 1 1 h.2.1 (by omega) 0 (by omega)
  rw [hp0] at hv
  have hc := h.2.2 0 0
  have hl : least R t seed k 1 = cell R 0 0 := by
    show min big (val R t seed k 0) = _
    rw [hv]; omega
  refine ⟨hl, ?_⟩
  rw [raise_cell 1 1 1 h.1 h.2.1 (by omega) (by omega), if_pos ⟨by omega, hp0.symm⟩, hv, hl]
  omega
end Cmp

set_option maxRecDepth 100000 in
set_option maxHeartbeats 1000000 in
theorem awake16 (w : World) : Calls Try.prog 21 #[] w fun e w' => e = .returned (.bool true) ∧ Keeps (fun _ => False) w w' := by
  have hmk : ∀ w, (Instr.makeSlice 31 (.int .i64 16) (.int .i64 16)).run Try.prog w = .ok (.slice (some ⟨w.heap.size, 0, none⟩) 16 16) (w.alloc (.cells (Array.replicate 16 (.int .u64 0)) 24)) := fun _ => by kernel_rfl
  have hrd : ∀ w : World, Rd (w.alloc (.cells (Array.replicate 16 (.int .u64 0)) 24)) (w.alloc (.cells (Array.replicate 16 (.int .u64 0)) 24)).heap.size (some ⟨w.heap.size, 0, none⟩) 1 16 ((List.replicate 16 0).map (.int .u64)) := fun w =>
    Blk.rd (xs := (List.replicate 16 (0 : Int)).map (.int .u64)) (Blk.new w 24 _) rfl
  have hnew := new_ok (c := 16) 1 1 (by omega) (by omega) 0 (by omega) (by omega) (List.replicate 16 0) (by decide) (hrd w)
  rw [show ((1 : Nat) : Int) = 1 from rfl] at hnew
  have HN := hide hnew
  clear hnew hrd
  go_enter Try.func21, Try.ntmps21
  go_wp2_with fail
  refine HN.out.mono ?_
  rintro e w1 ⟨g, bs, bt, ct, rfl, sk, hgt, k1⟩
  have ha := fun (W : World) (lo hi : Nat) (R : Cmp.Rows) (T : Int) (h : Sk W lo hi g 1 1 R (List.replicate 16 0) 0 T bs bt ct) (s : ByteArray) (hs : s.size ≤ 10) (wt : Int) (h0 : 0 < wt) (h1 : wt ≤ 10) (hT : T ≤ 10) (hk : s.data.toList ≠ []) =>
    show Calls Try.prog 18 #[.pointer (some ⟨g, 0, none⟩), .string s, .int .u64 wt] W fun e w' => e = .returned (.int .i64 0) ∧ Keeps (fun b => lo ≤ b ∧ b < hi) W w' ∧
        ∃ R', Sk w' lo hi g 1 1 R' (List.replicate 16 0) 0 (T + wt) bs bt ct ∧ Cmp.cell R' 0 0 = Cmp.cell R 0 0 + wt from
      (add_any h hgt s (by omega) wt (by omega) (by omega)).mono fun e w' ⟨h1, h2, h3⟩ => by
        have hE : Cmp.addE s.data.toList wt T = 0 := by unfold Cmp.addE; rw [if_neg hk, if_neg (by omega), if_pos (by omega)]
        rw [hE] at h1 h3
        rw [if_pos rfl, if_pos rfl] at h3
        exact ⟨h1, h2, _, h3, (Cmp.one_cell h.fine (by unfold Cmp.big; omega) (by omega)).2⟩
  have HA := hide ha
  have SK := hide sk
  have K1 := hide (((Keeps.refl (fun _ => False) w).alloc _).trans k1)
  have hle : (w.alloc (.cells (Array.replicate 16 (.int .u64 0)) 24)).heap.size = w.heap.size + 1 := by simp
  have HLE := hide hle
  clear ha sk k1 HN hmk hle
  go_wp2_with fail
  refine (HA.out _ _ _ _ _ SK.out ⟨#[97]⟩ (by decide) 5 (by omega) (by omega) (by omega) (by decide)).mono ?_
  rintro e w2 ⟨rfl, k2, R2, sk2, hc2⟩
  have SK2 := hide sk2
  have K2 := hide k2
  have HC2 := hide hc2
  clear sk2 k2 hc2
  go_wp2_with fail
  refine (HA.out _ _ _ _ _ SK2.out ⟨#[98]⟩ (by decide) 3 (by omega) (by omega) (by omega) (by decide)).mono ?_
  rintro e w3 ⟨rfl, k3, R3, sk3, hc3⟩
  have hest := estimate_any sk3 ⟨#[99]⟩ (by decide)
  have hl := (Cmp.one_cell (t := List.replicate 16 0) (seed := 0) (k := [99]) (w := 0) sk3.fine (by unfold Cmp.big; omega) (by omega)).1
  have hc : Cmp.cell R3 0 0 = 8 := by
    rw [hc3, HC2.out]
    rfl
  rw [show (ByteArray.mk #[99]).data.toList = [99] from rfl, hl, hc] at hest
  have HEST := hide hest
  have htot := fun q => total_any (sk3.drewN q)
  have HTOT := hide htot
  have K3 := hide k3
  have HK : Hid (Keeps (fun _ => False) w w3) := by
    have h1 := ((K1.out.step K2.out (fun b hb h => ?_)).step K3.out (fun b hb h => ?_))
    · exact h1
    · have := HLE.out; omega
    · have := HLE.out; omega
  clear hest hl hc htot sk3 k3 hc3 HA
  go_wp2_with fail
  refine HEST.out.mono ?_
  rintro e w4 ⟨rfl, nq, rfl⟩
  go_wp2_with fail
  refine (HTOT.out _).mono ?_
  rintro e w5 ⟨rfl, rfl⟩
  go_wp2_with fail
  go_ret
  exact ⟨rfl, HK.out.drewN _⟩
end Go.Proofs.Ytaiopdipldaimaa
