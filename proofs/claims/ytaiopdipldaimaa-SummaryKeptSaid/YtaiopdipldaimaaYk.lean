/-
  summary.entry: the error of an entry. No conditions beyond those of the statement.
-/
import Derived.Test.YtaiopdipldaimaaYh
import Derived.Deep.Quiet
import Derived.Deep.QuietTactic
set_option linter.unusedVariables false
set_option linter.unusedSimpArgs false
namespace Go.Proofs.Ytaiopdipldaimaa
open Go.RowKit
/-- a key is not greater than the one before it -/
def prevLe (l : List Ln) (i : Nat) (x : Ln) : Bool := if i = 0 then false else match l[i - 1]? with
  | some y => Op.bytesLess x.key.toList y.key.toList || x.key.toList == y.key.toList
  | none => false
/-- the error of an entry -/
def entryE (tot : Int) (l : List Ln) (i : Nat) (x : Ln) : Int :=
  if x.key.size = 0 then 3 else if 255 < x.key.size then 4 else if prevLe l i x = true then 6 else if x.lo = 0 ∨ Sat.addOk x.lo x.hi = false ∨ tot < Sat.add x.lo x.hi then 1 else 0
theorem key_nil {k : ByteArray} (h : k.size = 0) : (k.toList == []) = true := by
  have : k.data.toList = [] := List.eq_nil_of_length_eq_zero (by simpa using h)
  rw [ByteArray.toList_eq, this]; rfl
theorem key_some {k : ByteArray} (h : ¬ k.size = 0) : (k.toList == []) = false := by
  have : ¬ k.data.toList = [] := fun e => h (by have := congrArg List.length e; simpa using this)
  rw [ByteArray.toList_eq]
  simpa using this
set_option maxRecDepth 100000 in
set_option maxHeartbeats 1000000 in
theorem entry_any (w : World) (B : Nat) (tot un : Int) (A R : Option Addr) (n cA m cR : Nat) (l : List Ln) (F : RowsF) (h : SmIn w B A n l R m F) (hB : B ≤ w.heap.size) (i : Nat) (x : Ln) (hx : l[i]? = some x) :
    Calls Try.prog 68 #[smV tot A n cA un R m cR, .int .i64 (i : Int)] w fun e w' => e = .returned (.int .i64 (entryE tot l i x)) ∧ Keeps (fun _ => False) w w' := by
  have hin : i < n := by have := (List.getElem?_eq_some_iff.1 hx).1; have := h.len; omega
  obtain ⟨wA, hwA⟩ : ∃ v, v = w.alloc (.cells (smC tot A n cA un R m cR) 45) := ⟨_, rfl⟩
  have kA : Keeps (fun _ => False) w wA := by rw [hwA]; exact (Keeps.refl _ _).alloc _
  have bA : Blk wA w.heap.size 45 (smC tot A n cA un R m cR) := by rw [hwA]; exact Blk.new _ _ _
  have hA := h.kept kA (fun _ _ h => h)
  have hE := fun (j : Nat) (y : Ln) (hy : l[j]? = some y) => lnRd_at hA.ents hy (by omega)
  obtain ⟨b, off, rfl, hbB, c0, c1, c2⟩ := hE i x hx
  have hU := h.num x (List.mem_of_getElem? hx)
  have hprev : Hid (∀ y, 0 < i → l[i - 1]? = some y → wA.cell? ⟨b, off + (i - 1) * 3, none⟩ = some (.string y.key)) := hide (fun y _ hy => by
    obtain ⟨b', off', he, _, d0, _, _⟩ := hE (i - 1) y hy
    injection he with he
    injection he with e1 e2 e3
    subst e1 e2
    exact d0)
  have hi0 : (0 : Int) ≤ (i : Int) := by omega
  have hi1 : (i : Int) < (n : Int) := by omega
  have a0 : wA.cell? ⟨w.heap.size, 0, none⟩ = some (.int .u64 tot) := bA.cell 0
  have a1 : wA.cell? ⟨w.heap.size, 1, none⟩ = some (.slice (some ⟨b, off, none⟩) n cA) := bA.cell 1
  have haz := bA.lt
  have hbz : b < wA.heap.size := by omega
  obtain ⟨rv, hrv⟩ : ∃ v, v = entryE tot l i x := ⟨_, rfl⟩
  rw [← hrv]
  have HRV := hide hrv
  have hks := hU.2.2
  have hn1 := h.n1
  have HWA := hide hwA
  have KA := hide kA
  clear hrv hwA kA bA hE h hA
  by_cases h1 : x.key.size = 0
  · have HV : Hid (rv = 3) := hide (by rw [HRV.out]; exact if_pos h1)
    have e1 := key_nil h1
    clear HRV h1
    go_enter Try.func68, Try.ntmps68
    go_upto_region 1 with fail
    rw [← HWA.out]
    clear HWA
    generalize hgs : w.heap.size = gs at *
    go_wp2_with fail
    go_ret
    exact ⟨ret_int HV.out.symm, KA.out.alloc _⟩
  have e1 := key_some h1
  by_cases h2 : 255 < x.key.size
  · have HV : Hid (rv = 4) := hide (by rw [HRV.out]; unfold entryE; rw [if_neg h1, if_pos h2])
    have e2 : decide ((255 : Int) < (x.key.size : Int)) = true := by simp; omega
    have e2' : (255 : Int) < (x.key.size : Int) := by omega
    clear HRV h1 h2
    go_enter Try.func68, Try.ntmps68
    go_upto_region 1 with fail
    rw [← HWA.out]
    clear HWA
    generalize hgs : w.heap.size = gs at *
    go_wp2_with fail
    go_ret
    exact ⟨ret_int HV.out.symm, KA.out.alloc _⟩
  have e2 : ¬ ((255 : Int) < (x.key.size : Int)) := by omega
  rcases h3 : prevLe l i x with _ | _
  rotate_left
  · have HV : Hid (rv = 6) := hide (by rw [HRV.out]; unfold entryE; rw [if_neg h1, if_neg h2, if_pos h3])
    have hip : 0 < i := by
      rcases Nat.eq_zero_or_pos i with e | e
      · unfold prevLe at h3; rw [if_pos e] at h3; cases h3
      · exact e
    obtain ⟨y, hy⟩ : ∃ y, l[i - 1]? = some y := ⟨l[i - 1]'(by have := (List.getElem?_eq_some_iff.1 hx).1; omega), List.getElem?_eq_getElem _⟩
    have d0 := hprev.out y hip hy
    have hle : (Op.bytesLess x.key.toList y.key.toList || x.key.toList == y.key.toList) = true := by unfold prevLe at h3; rw [if_neg (by omega), hy] at h3; exact h3
    obtain ⟨i', hi'⟩ : ∃ i' : Nat, i' = i - 1 := ⟨_, rfl⟩
    have e4 : IntKind.i64.wrap ((i : Int) - 1) = (i' : Int) := by rw [IntWalk.i64_in _ (by omega)]; omega
    rw [← hi'] at d0
    have hi2 : (0 : Int) ≤ (i' : Int) := by omega
    have hi3 : (i' : Int) < (n : Int) := by omega
    have hip2 : decide (0 < i) = true := by simp; omega
    clear HRV h1 h2 h3 hprev hx hy hi' hip
    go_enter Try.func68, Try.ntmps68
    go_upto_region 1 with fail
    rw [← HWA.out]
    clear HWA
    generalize hgs : w.heap.size = gs at *
    go_upto_region 6 with fail
    trace "R6"
    go_quiet (fail)
    trace "R6b"
    go_wp2_with fail
    go_ret
    exact ⟨ret_int HV.out.symm, by first | exact (KA.out.alloc _).drewN _ | exact (KA.out.alloc _).drew⟩
  -- the numbers
  have hle : Hid (0 < i → ∃ y, l[i - 1]? = some y ∧ (Op.bytesLess x.key.toList y.key.toList || x.key.toList == y.key.toList) = false) := hide (fun hip => by
    obtain ⟨y, hy⟩ : ∃ y, l[i - 1]? = some y := ⟨l[i - 1]'(by have := (List.getElem?_eq_some_iff.1 hx).1; omega), List.getElem?_eq_getElem _⟩
    refine ⟨y, hy, ?_⟩
    unfold prevLe at h3; rw [if_neg (by omega), hy] at h3; exact h3)
  have HV : Hid (rv = if x.lo = 0 ∨ Sat.addOk x.lo x.hi = false ∨ tot < Sat.add x.lo x.hi then 1 else 0) := hide (by rw [HRV.out]; unfold entryE; rw [if_neg h1, if_neg h2, if_neg (by simp [h3])])
  obtain ⟨u0, u1⟩ := hU.1
  obtain ⟨v0, v1⟩ := hU.2.1
  obtain ⟨sm, hsm⟩ : ∃ sm, sm = Sat.add x.lo x.hi := ⟨_, rfl⟩
  obtain ⟨ok, hok⟩ : ∃ ok, ok = Sat.addOk x.lo x.hi := ⟨_, rfl⟩
  have HA := hide (fun W => Sat.add_any x.lo x.hi u0 u1 v0 v1 W)
  rw [← hsm, ← hok] at HA HV
  clear HRV h1 h2 h3 hx hsm hok
  by_cases hip : 0 < i
  · obtain ⟨y, hy, hyl⟩ := hle.out hip
    have d0 := hprev.out y hip hy
    obtain ⟨i', hi'⟩ : ∃ i' : Nat, i' = i - 1 := ⟨_, rfl⟩
    have e4 : IntKind.i64.wrap ((i : Int) - 1) = (i' : Int) := by rw [IntWalk.i64_in _ (by omega)]; omega
    rw [← hi'] at d0
    have hi2 : (0 : Int) ≤ (i' : Int) := by omega
    have hi3 : (i' : Int) < (n : Int) := by omega
    have hip2 : decide (0 < i) = true := by simp; omega
    clear hprev hy hi' hip hle
    go_enter Try.func68, Try.ntmps68
    go_upto_region 1 with fail
    rw [← HWA.out]
    clear HWA
    generalize hgs : w.heap.size = gs at *
    go_upto_region 6 with fail
    go_quiet (fail)
    go_wp2_with fail
    trace "NUM1"
    refine (HA.out _).mono ?_
    rintro e w3 ⟨rfl, rfl⟩
    rcases g1 : (x.lo == 0) with _ | _
    rotate_left
    · go_wp2_with fail
      go_ret
      exact ⟨ret_int (by rw [HV.out, if_pos (.inl (by simpa using g1))]), by first | exact (KA.out.alloc _).drewN _ | exact (KA.out.alloc _).drew⟩
    rcases ok with _ | _
    · go_wp2_with fail
      go_ret
      exact ⟨ret_int (by rw [HV.out, if_pos (by simp)]), by first | exact (KA.out.alloc _).drewN _ | exact (KA.out.alloc _).drew⟩
    rcases g2 : decide (tot < sm) with _ | _
    rotate_left
    · go_wp2_with fail
      go_ret
      exact ⟨ret_int (by rw [HV.out, if_pos (.inr (.inr (by simpa using g2)))]), by first | exact (KA.out.alloc _).drewN _ | exact (KA.out.alloc _).drew⟩
    go_wp2_with fail
    go_ret
    exact ⟨ret_int (by rw [HV.out, if_neg (by simp at g1 g2; simp [g1]; omega)]), by first | exact (KA.out.alloc _).drewN _ | exact (KA.out.alloc _).drew⟩
  · obtain rfl : i = 0 := by omega
    simp only [Nat.zero_mul, Nat.add_zero] at c0 c1 c2
    clear hprev hip hle
    go_enter Try.func68, Try.ntmps68
    go_upto_region 1 with fail
    rw [← HWA.out]
    clear HWA
    generalize hgs : w.heap.size = gs at *
    go_upto_region 6 with fail
    go_quiet (fail)
    go_wp2_with fail
    trace "NUM2"
    refine (HA.out _).mono ?_
    rintro e w3 ⟨rfl, rfl⟩
    rcases g1 : (x.lo == 0) with _ | _
    rotate_left
    · go_wp2_with fail
      go_ret
      exact ⟨ret_int (by rw [HV.out, if_pos (.inl (by simpa using g1))]), by first | exact (KA.out.alloc _).drewN _ | exact (KA.out.alloc _).drew⟩
    rcases ok with _ | _
    · go_wp2_with fail
      go_ret
      exact ⟨ret_int (by rw [HV.out, if_pos (by simp)]), by first | exact (KA.out.alloc _).drewN _ | exact (KA.out.alloc _).drew⟩
    rcases g2 : decide (tot < sm) with _ | _
    rotate_left
    · go_wp2_with fail
      go_ret
      exact ⟨ret_int (by rw [HV.out, if_pos (.inr (.inr (by simpa using g2)))]), by first | exact (KA.out.alloc _).drewN _ | exact (KA.out.alloc _).drew⟩
    go_wp2_with fail
    go_ret
    exact ⟨ret_int (by rw [HV.out, if_neg (by simp at g1 g2; simp [g1]; omega)]), by first | exact (KA.out.alloc _).drewN _ | exact (KA.out.alloc _).drew⟩
end Go.Proofs.Ytaiopdipldaimaa
