/-
  The law's guard on a summary that is an argument. No conditions beyond those of the statement.
-/
import Derived.Test.YtaiopdipldaimaaMA
set_option linter.unusedVariables false
set_option linter.unusedSimpArgs false
namespace Go.Proofs.Ytaiopdipldaimaa
open Go.RowKit Cfp
/-- what the guard says -/
def Plain21 (n m : Nat) (l : List Ln) (F : RowsF) : Prop := n ≤ 120 ∧ m ≤ 8 ∧ (∀ x ∈ l, x.key.size ≤ 300) ∧ ∀ j, j < m → (F j).2.1 ≤ 300
def Plains (w : World) (n m : Nat) (l : List Ln) (F : RowsF) (e : Ending) (w' : World) : Prop := ∃ bv, e = .returned (.bool bv) ∧ (bv = true → Plain21 n m l F) ∧ Keeps (fun _ => False) w w'
set_option maxRecDepth 100000 in
set_option maxHeartbeats 1000000 in
theorem plain_any (w : World) (B : Nat) (tot un : Int) (A R : Option Addr) (n cA m cR : Nat) (l : List Ln) (F : RowsF) (hr : Rd w B A 3 n (lnCs l)) (hR : Rd w B R 1 m ((List.range m).map fun j => .slice (F j).1 (F j).2.1 (F j).2.2.1)) (hB : B ≤ w.heap.size) :
    Calls Try.prog 22 #[smV tot A n cA un R m cR] w (Plains w n m l F) := by
  obtain ⟨w2, hw2⟩ : ∃ w2, w2 = w.alloc (.cells (smC tot A n cA un R m cR) 45) := ⟨_, rfl⟩
  have k2 : Keeps (fun _ => False) w w2 := by rw [hw2]; exact (Keeps.refl _ _).alloc _
  have b3 : Blk w2 w.heap.size 45 (smC tot A n cA un R m cR) := by rw [hw2]; exact Blk.new _ _ _
  have HL := hide (hr.kept k2 (fun _ _ h => h))
  have HRo := hide (hR.kept k2 (fun _ _ h => h))
  have HLN := hide (lnRd_len hr)
  have s1 : w2.cell? ⟨w.heap.size, 1, none⟩ = some (.slice A n cA) := b3.cell 1
  have s3 : w2.cell? ⟨w.heap.size, 3, none⟩ = some (.slice R m cR) := b3.cell 3
  have B3 := hide b3
  have K2 := hide k2
  have HW2 := hide hw2
  clear hw2 k2 b3 hr hR
  rcases g1 : decide ((120 : Int) < (n : Int)) with _ | _
  rotate_left
  · go_enter Try.func22, Try.ntmps22
    go_upto_region 1 with fail
    rw [← HW2.out]
    go_wp2_with fail
    go_ret
    exact ⟨false, rfl, fun h => (by cases h), K2.out⟩
  rcases g2 : decide ((8 : Int) < (m : Int)) with _ | _
  rotate_left
  · go_enter Try.func22, Try.ntmps22
    go_upto_region 1 with fail
    rw [← HW2.out]
    go_wp2_with fail
    go_ret
    exact ⟨false, rfl, fun h => (by cases h), K2.out⟩
  have hn : n ≤ 120 := by simp at g1; omega
  have hm : m ≤ 8 := by simp at g2; omega
  go_enter Try.func22, Try.ntmps22
  go_upto_region 1 with fail
  rw [← HW2.out]
  clear HW2
  generalize hgs : w.heap.size = gs at *
  go_wp2_with fail
  trace "LOOPA"
  go_loopw [20] (fun iv wr => ∃ i : Nat, i ≤ n ∧ iv = .int .i64 i ∧ Hid (∀ x ∈ l.take i, x.key.size ≤ 300) ∧ Hid (Keeps (fun _ => False) w2 wr)) (fun iv _ => n - (intOf iv).toNat)
  case atStart => exact ⟨0, by omega, rfl, hide (fun x hx => by simp at hx), hide (Keeps.refl _ _)⟩
  case round =>
    obtain ⟨i, hi, rfl, HJ, KR⟩ := hrel
    by_cases hlt : i < n
    · have HLT : Hid (i + 1 ≤ n) := hlt
      obtain ⟨x, hx⟩ : ∃ x, l[i]? = some x := ⟨l[i]'(by rw [HLN.out]; exact hlt), by simp⟩
      obtain ⟨b, off, rfl, hbB, c0, c1, c2⟩ := lnRd_at (HL.out.kept KR.out (fun _ _ h => h)) hx (by omega)
      have hsz := KR.out.size
      have h2s := K2.out.size
      have hbz : b < wr.heap.size := by omega
      have hiI : (i : Int) < (n : Int) := by omega
      have hi0 : (0 : Int) ≤ (i : Int) := by omega
      have HX := hide hx
      clear hx
      by_cases hs : x.key.size ≤ 300
      · have e4 : ¬ ((300 : Int) < (x.key.size : Int)) := by omega
        have HS := hide hs
        clear hs
        go_wp2_with fail
        go_roundw
        case rel =>
          refine ⟨i + 1, HLT.out, by go_num, hide (fun y hy => ?_), hide (KR.out.alloc _)⟩
          rw [List.take_add_one, HX.out] at hy
          rcases List.mem_append.1 hy with h | h
          · exact HJ.out y h
          · obtain rfl : y = x := by simpa using h
            exact HS.out
        case measure => have := HLT.out; simp [intOf]; omega
      · have e4 : (300 : Int) < (x.key.size : Int) := by omega
        clear hs
        go_wp2_with fail
        go_ret
        exact ⟨false, rfl, fun h => (by cases h), K2.out.trans (KR.out.alloc _)⟩
    · obtain rfl : i = n := by omega
      have HKs : Hid (∀ x ∈ l, x.key.size ≤ 300) := hide (by have := HJ.out; rwa [List.take_of_length_le (by rw [HLN.out]; exact Nat.le_refl _)] at this)
      have s3' := KR.out.cell_some s3 (fun h => h)
      have KX := hide (K2.out.trans KR.out)
      have HRr := hide (HRo.out.kept KR.out (fun _ _ h => h))
      obtain ⟨wx, rfl⟩ : ∃ wx : World, wx = wr := ⟨_, rfl⟩
      clear HJ KR K2 HRo HL s1 s3
      go_wp2_with fail
      trace "LOOPB"
      go_loopw [32] (fun iv wr => ∃ t : Nat, t ≤ m ∧ iv = .int .i64 t ∧ Hid (∀ j, j < t → (F j).2.1 ≤ 300) ∧ Hid (Keeps (fun _ => False) wx wr)) (fun iv _ => m - (intOf iv).toNat)
      case atStart => exact ⟨0, by omega, rfl, hide (fun j h => by omega), hide (Keeps.refl _ _)⟩
      case round =>
        obtain ⟨t, ht, rfl, HJ, KR⟩ := hrel
        by_cases hlt : t < m
        · have HLT : Hid (t + 1 ≤ m) := hlt
          obtain ⟨b, off, rfl, hbB, hc⟩ := (HRr.out.kept KR.out (fun _ _ h => h)).2 (by omega)
          have c0 := hc t (.slice (F t).1 (F t).2.1 (F t).2.2.1) (by simp [hlt])
          have hiI : (t : Int) < (m : Int) := by omega
          have hi0 : (0 : Int) ≤ (t : Int) := by omega
          obtain ⟨rl, hrl⟩ : ∃ rl, rl = (F t).2.1 := ⟨_, rfl⟩
          rw [← hrl] at c0
          have HRL := hide hrl
          clear hc hrl
          by_cases hs : rl ≤ 300
          · have e4 : ¬ ((300 : Int) < (rl : Int)) := by omega
            have HS := hide hs
            clear hs
            go_wp2_with fail
            go_roundw
            case rel =>
              refine ⟨t + 1, HLT.out, by go_num, hide (fun j hj => ?_), KR⟩
              rcases Nat.lt_or_ge j t with h | h
              · exact HJ.out j h
              · obtain rfl : j = t := by omega
                rw [← HRL.out]; exact HS.out
            case measure => have := HLT.out; simp [intOf]; omega
          · have e4 : (300 : Int) < (rl : Int) := by omega
            clear hs
            go_wp2_with fail
            go_ret
            exact ⟨false, rfl, fun h => (by cases h), KX.out.trans KR.out⟩
        · obtain rfl : t = m := by omega
          go_wp2_with fail
          go_ret
          exact ⟨true, rfl, fun _ => ⟨hn, hm, HKs.out, HJ.out⟩, KX.out.trans KR.out⟩
end Go.Proofs.Ytaiopdipldaimaa
