/-
  summary.entry: the error of an entry. No conditions beyond those of the statement. summary.Bounds: the index of a key's entry. No conditions beyond those of the statement. summary.rows: the error of rows. No conditions beyond those of the statement. summary.rows by its contract. No conditions beyond those of the statement.
-/
import Derived.Test.YtaiopdipldaimaaYh
import Derived.Deep.Quiet
import Derived.Deep.QuietTactic
import Derived.Deep.CutBlock
set_option linter.unusedVariables false
set_option linter.unusedSimpArgs false
namespace Go.Proofs.Ytaiopdipldaimaa
open Go.RowKit
/-- a key is not greater than the one before it -/
def prevLe (l : List Ln) (i : Nat) (x : Ln) : Bool := if i = 0 then false else match l[i - 1]? with
  | some y => Op.bytesLess x.key.toList y.key.toList || x.key.toList == y.key.toList
  | none => false
/-- the error of an entry -/
def entryE (tot : Int) (l : List Ln) (i : Nat) (x : Ln) : Int :=
  if x.key.size = 0 then 3 else if 255 < x.key.size then 4 else if prevLe l i x = true then 6 else if x.lo = 0 ∨ Sat.addOk x.lo x.hi = false ∨ tot < Sat.add x.lo x.hi then 1 else 0
theorem key_nil {k : ByteArray} (h : k.size = 0) : (k.toList == []) = true := by
  have : k.data.toList = [] := List.eq_nil_of_length_eq_zero (by simpa using h)
  rw [ByteArray.toList_eq, this]; rfl
theorem key_some {k : ByteArray} (h : ¬ k.size = 0) : (k.toList == []) = false := by
  have : ¬ k.data.toList = [] := fun e => h (by have := congrArg List.length e; simpa using this)
  rw [ByteArray.toList_eq]
  simpa using this
set_option maxRecDepth 100000 in
set_option maxHeartbeats 1000000 in
theorem entry_any (w : World) (B : Nat) (tot un : Int) (A R : Option Addr) (n cA m cR : Nat) (l : List Ln) (F : RowsF) (h : SmIn w B A n l R m F) (hB : B ≤ w.heap.size) (i : Nat) (x : Ln) (hx : l[i]? = some x) :
    Calls Try.prog 68 #[smV tot A n cA un R m cR, .int .i64 (i : Int)] w fun e w' => e = .returned (.int .i64 (entryE tot l i x)) ∧ Keeps (fun _ => False) w w' := by
  have hin : i < n := by have := (List.getElem?_eq_some_iff.1 hx).1; have := h.len; omega
  obtain ⟨wA, hwA⟩ : ∃ v, v = w.alloc (.cells (smC tot A n cA un R m cR) 45) := ⟨_, rfl⟩
  have kA : Keeps (fun _ => False) w wA := by rw [hwA]; exact (Keeps.refl _ _).alloc _
  have bA : Blk wA w.heap.size 45 (smC tot A n cA un R m cR) := by rw [hwA]; exact Blk.new _ _ _
  have hA := h.kept kA (fun _ _ h => h)
  have hE := fun (j : Nat) (y : Ln) (hy : l[j]? = some y) => lnRd_at hA.ents hy (by omega)
  obtain ⟨b, off, rfl, hbB, c0, c1, c2⟩ := hE i x hx
  have hU := h.num x (List.mem_of_getElem? hx)
  have hprev : Hid (∀ y, 0 < i → l[i - 1]? = some y → wA.cell? ⟨b, off + (i - 1) * 3, none⟩ = some (.string y.key)) := hide (fun y _ hy => by
    obtain ⟨b', off', he, _, d0, _, _⟩ := hE (i - 1) y hy
    injection he with he
    injection he with e1 e2 e3
    subst e1 e2
    exact d0)
  have hi0 : (0 : Int) ≤ (i : Int) := by omega
  have hi1 : (i : Int) < (n : Int) := by omega
  have a0 : wA.cell? ⟨w.heap.size, 0, none⟩ = some (.int .u64 tot) := bA.cell 0
  have a1 : wA.cell? ⟨w.heap.size, 1, none⟩ = some (.slice (some ⟨b, off, none⟩) n cA) := bA.cell 1
  have haz := bA.lt
  have hbz : b < wA.heap.size := by omega
  obtain ⟨rv, hrv⟩ : ∃ v, v = entryE tot l i x := ⟨_, rfl⟩
  rw [← hrv]
  have HRV := hide hrv
  have hks := hU.2.2
  have hn1 := h.n1
  have HWA := hide hwA
  have KA := hide kA
  clear hrv hwA kA bA hE h hA
  by_cases h1 : x.key.size = 0
  · have HV : Hid (rv = 3) := hide (by rw [HRV.out]; exact if_pos h1)
    have e1 := key_nil h1
    clear HRV h1
    go_enter Try.func68, Try.ntmps68
    go_upto_region 1 with fail
    rw [← HWA.out]
    clear HWA
    generalize hgs : w.heap.size = gs at *
    go_wp2_with fail
    go_ret
    exact ⟨ret_int HV.out.symm, KA.out.alloc _⟩
  have e1 := key_some h1
  by_cases h2 : 255 < x.key.size
  · have HV : Hid (rv = 4) := hide (by rw [HRV.out]; unfold entryE; rw [if_neg h1, if_pos h2])
    have e2 : decide ((255 : Int) < (x.key.size : Int)) = true := by simp; omega
    have e2' : (255 : Int) < (x.key.size : Int) := by omega
    clear HRV h1 h2
    go_enter Try.func68, Try.ntmps68
    go_upto_region 1 with fail
    rw [← HWA.out]
    clear HWA
    generalize hgs : w.heap.size = gs at *
    go_wp2_with fail
    go_ret
    exact ⟨ret_int HV.out.symm, KA.out.alloc _⟩
  have e2 : ¬ ((255 : Int) < (x.key.size : Int)) := by omega
  rcases h3 : prevLe l i x with _ | _
  rotate_left
  · have HV : Hid (rv = 6) := hide (by rw [HRV.out]; unfold entryE; rw [if_neg h1, if_neg h2, if_pos h3])
    have hip : 0 < i := by
      rcases Nat.eq_zero_or_pos i with e | e
      · unfold prevLe at h3; rw [if_pos e] at h3; cases h3
      · exact e
    obtain ⟨y, hy⟩ : ∃ y, l[i - 1]? = some y := ⟨l[i - 1]'(by have := (List.getElem?_eq_some_iff.1 hx).1; omega), List.getElem?_eq_getElem _⟩
    have d0 := hprev.out y hip hy
    have hle : (Op.bytesLess x.key.toList y.key.toList || x.key.toList == y.key.toList) = true := by unfold prevLe at h3; rw [if_neg (by omega), hy] at h3; exact h3
    obtain ⟨i', hi'⟩ : ∃ i' : Nat, i' = i - 1 := ⟨_, rfl⟩
    have e4 : IntKind.i64.wrap ((i : Int) - 1) = (i' : Int) := by rw [IntWalk.i64_in _ (by omega)]; omega
    rw [← hi'] at d0
    have hi2 : (0 : Int) ≤ (i' : Int) := by omega
    have hi3 : (i' : Int) < (n : Int) := by omega
    have hip2 : decide (0 < i) = true := by simp; omega
    clear HRV h1 h2 h3 hprev hx hy hi' hip
    go_enter Try.func68, Try.ntmps68
    go_upto_region 1 with fail
    rw [← HWA.out]
    clear HWA
    generalize hgs : w.heap.size = gs at *
    go_upto_region 6 with fail
    trace "R6"
    go_quiet (fail)
    trace "R6b"
    go_wp2_with fail
    go_ret
    exact ⟨ret_int HV.out.symm, by first | exact (KA.out.alloc _).drewN _ | exact (KA.out.alloc _).drew⟩
  -- the numbers
  have hle : Hid (0 < i → ∃ y, l[i - 1]? = some y ∧ (Op.bytesLess x.key.toList y.key.toList || x.key.toList == y.key.toList) = false) := hide (fun hip => by
    obtain ⟨y, hy⟩ : ∃ y, l[i - 1]? = some y := ⟨l[i - 1]'(by have := (List.getElem?_eq_some_iff.1 hx).1; omega), List.getElem?_eq_getElem _⟩
    refine ⟨y, hy, ?_⟩
    unfold prevLe at h3; rw [if_neg (by omega), hy] at h3; exact h3)
  have HV : Hid (rv = if x.lo = 0 ∨ Sat.addOk x.lo x.hi = false ∨ tot < Sat.add x.lo x.hi then 1 else 0) := hide (by rw [HRV.out]; unfold entryE; rw [if_neg h1, if_neg h2, if_neg (by simp [h3])])
  obtain ⟨u0, u1⟩ := hU.1
  obtain ⟨v0, v1⟩ := hU.2.1
  obtain ⟨sm, hsm⟩ : ∃ sm, sm = Sat.add x.lo x.hi := ⟨_, rfl⟩
  obtain ⟨ok, hok⟩ : ∃ ok, ok = Sat.addOk x.lo x.hi := ⟨_, rfl⟩
  have HA := hide (fun W => Sat.add_any x.lo x.hi u0 u1 v0 v1 W)
  rw [← hsm, ← hok] at HA HV
  clear HRV h1 h2 h3 hx hsm hok
  by_cases hip : 0 < i
  · obtain ⟨y, hy, hyl⟩ := hle.out hip
    have d0 := hprev.out y hip hy
    obtain ⟨i', hi'⟩ : ∃ i' : Nat, i' = i - 1 := ⟨_, rfl⟩
    have e4 : IntKind.i64.wrap ((i : Int) - 1) = (i' : Int) := by rw [IntWalk.i64_in _ (by omega)]; omega
    rw [← hi'] at d0
    have hi2 : (0 : Int) ≤ (i' : Int) := by omega
    have hi3 : (i' : Int) < (n : Int) := by omega
    have hip2 : decide (0 < i) = true := by simp; omega
    clear hprev hy hi' hip hle
    go_enter Try.func68, Try.ntmps68
    go_upto_region 1 with fail
    rw [← HWA.out]
    clear HWA
    generalize hgs : w.heap.size = gs at *
    go_upto_region 6 with fail
    go_quiet (fail)
    go_wp2_with fail
    trace "NUM1"
    refine (HA.out _).mono ?_
    rintro e w3 ⟨rfl, rfl⟩
    rcases g1 : (x.lo == 0) with _ | _
    rotate_left
    · go_wp2_with fail
      go_ret
      exact ⟨ret_int (by rw [HV.out, if_pos (.inl (by simpa using g1))]), by first | exact (KA.out.alloc _).drewN _ | exact (KA.out.alloc _).drew⟩
    rcases ok with _ | _
    · go_wp2_with fail
      go_ret
      exact ⟨ret_int (by rw [HV.out, if_pos (by simp)]), by first | exact (KA.out.alloc _).drewN _ | exact (KA.out.alloc _).drew⟩
    rcases g2 : decide (tot < sm) with _ | _
    rotate_left
    · go_wp2_with fail
      go_ret
      exact ⟨ret_int (by rw [HV.out, if_pos (.inr (.inr (by simpa using g2)))]), by first | exact (KA.out.alloc _).drewN _ | exact (KA.out.alloc _).drew⟩
    go_wp2_with fail
    go_ret
    exact ⟨ret_int (by rw [HV.out, if_neg (by simp at g1 g2; simp [g1]; omega)]), by first | exact (KA.out.alloc _).drewN _ | exact (KA.out.alloc _).drew⟩
  · obtain rfl : i = 0 := by omega
    simp only [Nat.zero_mul, Nat.add_zero] at c0 c1 c2
    clear hprev hip hle
    go_enter Try.func68, Try.ntmps68
    go_upto_region 1 with fail
    rw [← HWA.out]
    clear HWA
    generalize hgs : w.heap.size = gs at *
    go_upto_region 6 with fail
    go_quiet (fail)
    go_wp2_with fail
    trace "NUM2"
    refine (HA.out _).mono ?_
    rintro e w3 ⟨rfl, rfl⟩
    rcases g1 : (x.lo == 0) with _ | _
    rotate_left
    · go_wp2_with fail
      go_ret
      exact ⟨ret_int (by rw [HV.out, if_pos (.inl (by simpa using g1))]), by first | exact (KA.out.alloc _).drewN _ | exact (KA.out.alloc _).drew⟩
    rcases ok with _ | _
    · go_wp2_with fail
      go_ret
      exact ⟨ret_int (by rw [HV.out, if_pos (by simp)]), by first | exact (KA.out.alloc _).drewN _ | exact (KA.out.alloc _).drew⟩
    rcases g2 : decide (tot < sm) with _ | _
    rotate_left
    · go_wp2_with fail
      go_ret
      exact ⟨ret_int (by rw [HV.out, if_pos (.inr (.inr (by simpa using g2)))]), by first | exact (KA.out.alloc _).drewN _ | exact (KA.out.alloc _).drew⟩
    go_wp2_with fail
    go_ret
    exact ⟨ret_int (by rw [HV.out, if_neg (by simp at g1 g2; simp [g1]; omega)]), by first | exact (KA.out.alloc _).drewN _ | exact (KA.out.alloc _).drew⟩
end Go.Proofs.Ytaiopdipldaimaa

set_option linter.unusedVariables false
set_option linter.unusedSimpArgs false
namespace Go.Proofs.Ytaiopdipldaimaa
open Go.RowKit Cfp
/-- the first entry of a key, or the number of entries -/
def keyAt (l : List Ln) (k : ByteArray) : Nat := l.findIdx (fun x => x.key.toList == k.toList)
theorem keyAt_le (l : List Ln) (k : ByteArray) : keyAt l k ≤ l.length := List.findIdx_le_length
theorem keyAt_lt {l : List Ln} {k : ByteArray} {i : Nat} {x : Ln} (h : l[i]? = some x) (hs : (x.key.toList == k.toList) = true) (hb : ∀ (j : Nat) (d : Ln), j < i → l[j]? = some d → (d.key.toList == k.toList) = false) : keyAt l k = i := by
  obtain ⟨hi, he⟩ := List.getElem?_eq_some_iff.1 h
  unfold keyAt
  rw [List.findIdx_eq hi]
  exact ⟨by rw [he]; exact hs, fun j hj => hb j _ hj (List.getElem?_eq_getElem (by omega))⟩
theorem keyAt_no {l : List Ln} {k : ByteArray} (hb : ∀ (j : Nat) (d : Ln), l[j]? = some d → (d.key.toList == k.toList) = false) : keyAt l k = l.length := by
  unfold keyAt
  rw [List.findIdx_eq_length]
  intro c hc
  obtain ⟨j, hj, he⟩ := List.getElem_of_mem hc
  exact hb j c (by rw [List.getElem?_eq_getElem hj, he])
theorem isK_any (x : Ln) (k : ByteArray) (q : Nat) (W : World) (hb : W.cell? ⟨q, 0, none⟩ = some (.string k)) :
    Calls Try.prog 76 #[.agg #[.string x.key, .int .u64 x.lo, .int .u64 x.hi], .pointer (some ⟨q, 0, none⟩)] W fun e w' => e = .returned (.bool (x.key.toList == k.toList)) ∧ Keeps (fun _ => False) W w' := by
  have k1 := (Keeps.refl (fun _ => False) W).alloc (.cells #[.string x.key, .int .u64 x.lo, .int .u64 x.hi] 99)
  have b1 := Blk.new W 99 #[.string x.key, .int .u64 x.lo, .int .u64 x.hi]
  have q0 : (W.alloc (.cells #[.string x.key, .int .u64 x.lo, .int .u64 x.hi] 99)).cell? ⟨W.heap.size, 0, none⟩ = some (.string x.key) := b1.cell 0
  have qb := k1.cell_some hb (fun h => h)
  have K1 := hide k1
  clear k1 b1
  go_enter Try.func76, Try.ntmps76
  go_wp2_with fail
  go_ret
  exact ⟨by simp, K1.out⟩
def idxV (k n : Nat) : Int := if k < n then (k : Int) else -1
theorem idxV_lt {k n : Nat} (h : k < n) : idxV k n = k := if_pos h
theorem idxV_no (n : Nat) : idxV n n = -1 := if_neg (by omega)
set_option maxRecDepth 100000 in
theorem idxK_any (B : Nat) (A : Option Addr) (l : List Ln) (n cap : Nat) (k : ByteArray) (q : Nat) (w : World) (hr : Rd w B A 3 n (lnCs l)) (hb : w.cell? ⟨q, 0, none⟩ = some (.string k)) (hn : n ≤ 1000000) :
    Calls Try.prog 75 #[.slice A n cap, .func (.func 76) #[] #[.pointer (some ⟨q, 0, none⟩)]] w fun e w' => e = .returned (.int .i64 (idxV (keyAt l k) n)) ∧ Keeps (fun _ => False) w w' := by
  have HO := hide hr
  have HB := hide hb
  have HL := hide (lnRd_len hr)
  obtain ⟨rv, hrv⟩ : ∃ rv, rv = idxV (keyAt l k) n := ⟨_, rfl⟩
  rw [← hrv]
  have HRV := hide hrv
  clear hr hb hrv
  go_enter Try.func75, Try.ntmps75
  go_wp2_with fail
  go_loopw [5, 8] (fun _ iv wr => ∃ i : Nat, i ≤ n ∧ iv = .int .i64 i ∧ Hid (∀ (j : Nat) (d : Ln), j < i → l[j]? = some d → (d.key.toList == k.toList) = false) ∧ Hid (Keeps (fun _ => False) w wr)) (fun _ iv _ => n - (intOf iv).toNat)
  case atStart => exact ⟨0, by omega, rfl, hide (fun j d h => by omega), hide (Keeps.refl _ _)⟩
  case round =>
    obtain ⟨i, hi, rfl, HJ, KR⟩ := hrel
    by_cases hlt : i < n
    · have HLT : Hid (i + 1 ≤ n) := hlt
      have hil : i < l.length := by rw [HL.out]; exact hlt
      obtain ⟨x, hx⟩ : ∃ x, l[i]? = some x := ⟨l[i]'hil, by simp⟩
      obtain ⟨b, off, rfl, hbB, c0, c1, c2⟩ := lnRd_at (HO.out.kept KR.out (fun _ _ h => h)) hx (by omega)
      have hiI : (i : Int) < (n : Int) := by omega
      have hi0 : (0 : Int) ≤ (i : Int) := by omega
      have HX := hide hx
      have HW := hide (isK_any x k q wr (KR.out.cell_some HB.out (fun h => h)))
      clear hil hx
      by_cases hs : (x.key.toList == k.toList) = true
      · rw [hs] at HW
        have HV : Hid (rv = i) := by
          show rv = i
          rw [HRV.out, keyAt_lt HX.out hs HJ.out, idxV_lt hlt]
        clear hs
        go_wp2_with fail
        refine HW.out.mono ?_
        rintro e w2 ⟨rfl, k2⟩
        have K2 := hide (KR.out.trans k2)
        clear k2
        go_wp2_with fail
        go_ret
        exact ⟨ret_int HV.out.symm, K2.out⟩
      · have hs : (x.key.toList == k.toList) = false := by simpa using hs
        rw [hs] at HW
        have HS := hide hs
        clear hs
        go_wp2_with fail
        refine HW.out.mono ?_
        rintro e w2 ⟨rfl, k2⟩
        have K2 := hide (KR.out.trans k2)
        clear k2
        go_wp2_with fail
        go_roundw
        case rel =>
          refine ⟨i + 1, HLT.out, by go_num, hide (fun j d hj hd => ?_), K2⟩
          rcases Nat.lt_or_ge j i with h | h
          · exact HJ.out j d h hd
          · obtain rfl : j = i := by omega
            rw [HX.out] at hd; injection hd with hd; subst hd; exact HS.out
        case measure => have := HLT.out; simp [intOf]; omega
    · obtain rfl : i = n := by omega
      have HV : Hid (rv = -1) := by
        show rv = -1
        rw [HRV.out, keyAt_no (fun j d hd => HJ.out j d (by rw [← HL.out]; exact (List.getElem?_eq_some_iff.1 hd).1) hd), HL.out, idxV_no]
      go_wp2_with fail
      go_ret
      exact ⟨ret_int HV.out.symm, KR.out⟩
end Go.Proofs.Ytaiopdipldaimaa

set_option linter.unusedVariables false
set_option linter.unusedSimpArgs false
namespace Go.Proofs.Ytaiopdipldaimaa
open Go.RowKit Cfp
/-- the error of rows -/
def rowsE (d wd tot : Int) (R : List (List Int)) : Int :=
  if R.length = 0 then 0 else if (R.length : Int) ≠ d then 3 else if R.any (fun r => (r.length : Int) != wd) = true then 3 else if R.any (fun r => r.any (fun z => decide (tot < z))) = true then 1 else 0
theorem big1_any (z tot : Int) (q : Nat) (W : World) (hb : W.cell? ⟨q, 0, none⟩ = some (.int .u64 tot)) :
    Calls Try.prog 90 #[.int .u64 z, .pointer (some ⟨q, 0, none⟩)] W fun e w' => e = .returned (.bool (decide (tot < z))) ∧ Keeps (fun _ => False) W w' := by
  go_enter Try.func90, Try.ntmps90
  go_wp2_with fail
  go_ret
  exact ⟨rfl, Keeps.refl _ _⟩
def overAt (zs : List Int) (tot : Int) : Nat := zs.findIdx (fun z => decide (tot < z))
theorem overAt_lt {zs : List Int} {tot : Int} {i : Nat} {z : Int} (h : zs[i]? = some z) (hs : tot < z) (hb : ∀ (j : Nat) (d : Int), j < i → zs[j]? = some d → ¬ tot < d) : overAt zs tot = i := by
  obtain ⟨hi, he⟩ := List.getElem?_eq_some_iff.1 h
  unfold overAt
  rw [List.findIdx_eq hi]
  refine ⟨by rw [he]; simpa using hs, fun j hj => ?_⟩
  have := hb j _ hj (List.getElem?_eq_getElem (by omega))
  simpa using this
theorem overAt_no {zs : List Int} {tot : Int} (hb : ∀ (j : Nat) (d : Int), zs[j]? = some d → ¬ tot < d) : overAt zs tot = zs.length := by
  unfold overAt
  rw [List.findIdx_eq_length]
  intro c hc
  obtain ⟨j, hj, he⟩ := List.getElem_of_mem hc
  have := hb j c (by rw [List.getElem?_eq_getElem hj, he])
  simpa using this
theorem overAt_any (zs : List Int) (tot : Int) : decide (overAt zs tot < zs.length) = zs.any (fun z => decide (tot < z)) := by
  rw [Bool.eq_iff_iff]
  simp only [decide_eq_true_eq]
  unfold overAt
  rw [List.findIdx_lt_length, List.any_eq_true]
set_option maxRecDepth 100000 in
theorem idxU_any (B : Nat) (A : Option Addr) (zs : List Int) (n cap : Nat) (tot : Int) (q : Nat) (w : World) (hr : Rd w B A 1 n (zs.map (.int .u64))) (hb : w.cell? ⟨q, 0, none⟩ = some (.int .u64 tot)) (hn : n ≤ maxLen) :
    Calls Try.prog 97 #[.slice A n cap, .func (.func 90) #[] #[.pointer (some ⟨q, 0, none⟩)]] w fun e w' => e = .returned (.int .i64 (idxV (overAt zs tot) n)) ∧ Keeps (fun _ => False) w w' := by
  have hnm : (n : Int) ≤ 9223372036854775807 := by simp only [maxLen] at hn; omega
  have HO := hide hr
  have HB := hide hb
  have HL := hide (show zs.length = n by simpa using hr.1)
  obtain ⟨rv, hrv⟩ : ∃ rv, rv = idxV (overAt zs tot) n := ⟨_, rfl⟩
  rw [← hrv]
  have HRV := hide hrv
  clear hr hb hrv
  go_enter Try.func97, Try.ntmps97
  go_wp2_with fail
  go_loopw [5, 8] (fun _ iv wr => ∃ i : Nat, i ≤ n ∧ iv = .int .i64 i ∧ Hid (∀ (j : Nat) (d : Int), j < i → zs[j]? = some d → ¬ tot < d) ∧ Hid (Keeps (fun _ => False) w wr)) (fun _ iv _ => n - (intOf iv).toNat)
  case atStart => exact ⟨0, by omega, rfl, hide (fun j d h => by omega), hide (Keeps.refl _ _)⟩
  case round =>
    obtain ⟨i, hi, rfl, HJ, KR⟩ := hrel
    by_cases hlt : i < n
    · have HLT : Hid (i + 1 ≤ n) := hlt
      have hil : i < zs.length := by rw [HL.out]; exact hlt
      obtain ⟨x, hx⟩ : ∃ x, zs[i]? = some x := ⟨zs[i]'hil, by simp⟩
      obtain ⟨b, off, rfl, hbB, hc⟩ := (HO.out.kept KR.out (fun _ _ h => h)).2 (by omega)
      have c0 := hc i (.int .u64 x) (by simp [hx])
      have hiI : (i : Int) < (n : Int) := by omega
      have hi0 : (0 : Int) ≤ (i : Int) := by omega
      have HX := hide hx
      have HW := hide (big1_any x tot q wr (KR.out.cell_some HB.out (fun h => h)))
      clear hil hx hc
      by_cases hs : tot < x
      · have e1 : decide (tot < x) = true := by simpa using hs
        rw [e1] at HW
        have HV : Hid (rv = i) := by
          show rv = i
          rw [HRV.out, overAt_lt HX.out hs HJ.out, idxV_lt hlt]
        clear hs e1
        go_wp2_with fail
        refine HW.out.mono ?_
        rintro e w2 ⟨rfl, k2⟩
        have K2 := hide (KR.out.trans k2)
        clear k2
        go_wp2_with fail
        go_ret
        exact ⟨ret_int HV.out.symm, K2.out⟩
      · have e1 : decide (tot < x) = false := by simpa using hs
        rw [e1] at HW
        have HS := hide hs
        clear hs e1
        go_wp2_with fail
        refine HW.out.mono ?_
        rintro e w2 ⟨rfl, k2⟩
        have K2 := hide (KR.out.trans k2)
        clear k2
        go_wp2_with fail
        go_roundw
        case rel =>
          refine ⟨i + 1, HLT.out, by go_num, hide (fun j d hj hd => ?_), K2⟩
          rcases Nat.lt_or_ge j i with h | h
          · have := HJ.out j d h hd; omega
          · obtain rfl : j = i := by omega
            rw [HX.out] at hd; injection hd with hd; subst hd; have := HS.out; omega
        case measure => have := HLT.out; simp [intOf]; omega
    · obtain rfl : i = n := by omega
      have HV : Hid (rv = -1) := by
        show rv = -1
        rw [HRV.out, overAt_no (fun j d hd => HJ.out j d (by rw [← HL.out]; exact (List.getElem?_eq_some_iff.1 hd).1) hd), HL.out, idxV_no]
      go_wp2_with fail
      go_ret
      exact ⟨ret_int HV.out.symm, KR.out⟩
theorem contU_any (B : Nat) (A : Option Addr) (zs : List Int) (n cap : Nat) (tot : Int) (q : Nat) (w : World) (hr : Rd w B A 1 n (zs.map (.int .u64))) (hb : w.cell? ⟨q, 0, none⟩ = some (.int .u64 tot)) (hn : n ≤ maxLen) :
    Calls Try.prog 89 #[.slice A n cap, .func (.func 90) #[] #[.pointer (some ⟨q, 0, none⟩)]] w fun e w' => e = .returned (.bool (zs.any (fun z => decide (tot < z)))) ∧ Keeps (fun _ => False) w w' := by
  have HL : zs.length = n := by simpa using hr.1
  have HV : Hid (decide ((0 : Int) ≤ idxV (overAt zs tot) n) = zs.any (fun z => decide (tot < z))) := hide (by
    rw [← overAt_any, HL]
    unfold idxV
    by_cases h : overAt zs tot < n
    · rw [if_pos h]; simp [h]
    · rw [if_neg h]; simp [h])
  have HI := hide (idxU_any B A zs n cap tot q w hr hb hn)
  obtain ⟨bv, hbv⟩ : ∃ bv, bv = zs.any (fun z => decide (tot < z)) := ⟨_, rfl⟩
  rw [← hbv] at HV ⊢
  generalize idxV (overAt zs tot) n = iv at HI HV
  clear hr hb hbv
  go_enter Try.func89, Try.ntmps89
  go_wp2_with fail
  refine HI.out.mono ?_
  rintro e w2 ⟨rfl, k2⟩
  have K2 := hide k2
  clear k2
  go_wp2_with fail
  go_ret
  exact ⟨ret_bool HV.out, K2.out⟩
end Go.Proofs.Ytaiopdipldaimaa

set_option linter.unusedVariables false
set_option linter.unusedSimpArgs false
namespace Go.Proofs.Ytaiopdipldaimaa
open Go.RowKit Cfp
theorem rowsL_get {F : RowsF} {m j : Nat} (h : j < m) : (Cmp.rowsL F m)[j]? = some (F j).2.2.2 := by simp [Cmp.rowsL, h]
theorem rowsL_any (F : RowsF) (m : Nat) (p : List Int → Bool) : (Cmp.rowsL F m).any p = true ↔ ∃ j, j < m ∧ p (F j).2.2.2 = true := by
  unfold Cmp.rowsL
  rw [List.any_eq_true]
  constructor
  · rintro ⟨r, hr, hp⟩
    obtain ⟨j, hj, rfl⟩ := List.mem_map.1 hr
    exact ⟨j, List.mem_range.1 hj, hp⟩
  · rintro ⟨j, hj, hp⟩
    exact ⟨_, List.mem_map.2 ⟨j, List.mem_range.2 hj, rfl⟩, hp⟩
set_option maxRecDepth 100000 in
set_option maxHeartbeats 1000000 in
theorem rows_any21 (w : World) (B : Nat) (c : Cfg) (C T : Option Addr) (n0 k0 q j : Nat) (tot un : Int) (A R : Option Addr) (n cA m cR : Nat) (l : List Ln) (F : RowsF) (h : SmIn w B A n l R m F) (hB : B ≤ w.heap.size) :
    Calls Try.prog 70 #[Value.agg #[.int .i64 c.length, .int .i64 c.lateness, .int .i64 c.windows, .int .i64 c.shards, .int .i64 c.spread, .int .i64 c.queue, .int .i64 c.mode, .int .i64 c.slots, .int .i64 c.exact_, .int .u64 c.promote, .int .i64 c.depth, .int .i64 c.width, .int .i64 c.top, .int .i64 c.key, .slice C n0 k0, .slice T q j, .int .u64 c.seed], smV tot A n cA un R m cR] w fun e w' => e = .returned (.int .i64 (rowsE c.depth c.width tot (Cmp.rowsL F m))) ∧ Keeps (fun _ => False) w w' := by
  obtain ⟨w2, hw2⟩ : ∃ w2, w2 = (w.alloc (.cells #[.int .i64 c.length, .int .i64 c.lateness, .int .i64 c.windows, .int .i64 c.shards, .int .i64 c.spread, .int .i64 c.queue, .int .i64 c.mode, .int .i64 c.slots, .int .i64 c.exact_, .int .u64 c.promote, .int .i64 c.depth, .int .i64 c.width, .int .i64 c.top, .int .i64 c.key, .slice C n0 k0, .slice T q j, .int .u64 c.seed] 51)).alloc (.cells (smC tot A n cA un R m cR) 45) := ⟨_, rfl⟩
  have k2 : Keeps (fun _ => False) w w2 := by rw [hw2]; exact ((Keeps.refl _ _).alloc _).alloc _
  have b2 : Blk w2 w.heap.size 51 #[.int .i64 c.length, .int .i64 c.lateness, .int .i64 c.windows, .int .i64 c.shards, .int .i64 c.spread, .int .i64 c.queue, .int .i64 c.mode, .int .i64 c.slots, .int .i64 c.exact_, .int .u64 c.promote, .int .i64 c.depth, .int .i64 c.width, .int .i64 c.top, .int .i64 c.key, .slice C n0 k0, .slice T q j, .int .u64 c.seed] := by rw [hw2]; exact (Blk.new _ _ _).alloc _
  have b3 : Blk w2 (w.heap.size + 1) 45 (smC tot A n cA un R m cR) := by rw [hw2]; exact Blk.new_at _ _ _ _ (by simp)
  have h2 := h.kept k2 (fun _ _ h => h)
  have d10 : w2.cell? ⟨w.heap.size, 10, none⟩ = some (.int .i64 c.depth) := b2.cell 10
  have d11 := hide (show w2.cell? ⟨w.heap.size, 11, none⟩ = some (.int .i64 c.width) from b2.cell 11)
  have s0 := hide (show w2.cell? ⟨w.heap.size + 1, 0, none⟩ = some (.int .u64 tot) from b3.cell 0)
  have s3 : w2.cell? ⟨w.heap.size + 1, 3, none⟩ = some (.slice R m cR) := b3.cell 3
  have S3 := hide s3
  obtain ⟨rv, hrv⟩ : ∃ v, v = rowsE c.depth c.width tot (Cmp.rowsL F m) := ⟨_, rfl⟩
  rw [← hrv]
  have HRV := hide hrv
  have HH := hide h2
  have K2 := hide k2
  have HW2 := hide hw2
  have hm1 := h.m1
  have hml : (Cmp.rowsL F m).length = m := Cmp.rowsL_len F m
  have HML := hide hml
  clear hrv hw2 k2 b2 b3 h2 h hml
  by_cases e0 : m = 0
  · have HV : Hid (rv = 0) := hide (by rw [HRV.out]; unfold rowsE; rw [HML.out, if_pos e0])
    have e1 : ((m : Int) == 0) = true := by simp [e0]
    clear HRV e0
    go_enter Try.func70, Try.ntmps70
    go_upto_region 1 with fail
    rw [← HW2.out]
    go_wp2_with fail
    go_ret
    exact ⟨ret_int HV.out.symm, K2.out⟩
  have e1 : ((m : Int) == 0) = false := by simp [e0]
  by_cases e2 : (m : Int) = c.depth
  rotate_left
  · have HV : Hid (rv = 3) := hide (by rw [HRV.out]; unfold rowsE; rw [HML.out, if_neg e0, if_pos e2])
    have e3 : ((m : Int) != c.depth) = true := by simp [e2]
    clear HRV e0 e2
    go_enter Try.func70, Try.ntmps70
    go_upto_region 1 with fail
    rw [← HW2.out]
    go_wp2_with fail
    go_ret
    exact ⟨ret_int HV.out.symm, K2.out⟩
  have e3 : ((m : Int) != c.depth) = false := by simp [e2]
  have HV : Hid (rv = if (Cmp.rowsL F m).any (fun r => (r.length : Int) != c.width) = true then 3 else if (Cmp.rowsL F m).any (fun r => r.any (fun z => decide (tot < z))) = true then 1 else 0) := hide (by rw [HRV.out]; unfold rowsE; rw [HML.out, if_neg e0, if_neg (by simp [e2])])
  have HLn : Hid (∀ i, i < m → (F i).2.2.2.length = (F i).2.1) := hide (fun i hi => by have := (HH.out.rrd i hi).1.1; simpa using this)
  obtain ⟨wd, hwd⟩ : ∃ wd, wd = c.width := ⟨_, rfl⟩
  rw [← hwd] at HV d11
  clear HRV e0 e2 hwd
  go_enter Try.func70, Try.ntmps70
  go_upto_region 1 with fail
  rw [← HW2.out]
  clear HW2
  generalize hgs : w.heap.size = gs at *
  go_wp2_with fail
  trace "LOOPA"
  go_loopw [22] (fun iv wr => ∃ i : Nat, i ≤ m ∧ iv = .int .i64 i ∧ Hid (∀ j, j < i → ((F j).2.1 : Int) = wd) ∧ Hid (Keeps (fun _ => False) w2 wr)) (fun iv _ => m - (intOf iv).toNat)
  case atStart => exact ⟨0, by omega, rfl, hide (fun j h => by omega), hide (Keeps.refl _ _)⟩
  case round =>
    obtain ⟨i, hi, rfl, HJ, KR⟩ := hrel
    by_cases hlt : i < m
    · have HLT : Hid (i + 1 ≤ m) := hlt
      obtain ⟨b, off, rfl, hbB, hc⟩ := (HH.out.rows.kept KR.out (fun _ _ h => h)).2 (by omega)
      have c0 := hc i (.slice (F i).1 (F i).2.1 (F i).2.2.1) (by simp [hlt])
      have hiI : (i : Int) < (m : Int) := by omega
      have hi0 : (0 : Int) ≤ (i : Int) := by omega
      have w11 := KR.out.cell_some d11.out (fun h => h)
      obtain ⟨rl, hrl⟩ : ∃ rl, rl = (F i).2.1 := ⟨_, rfl⟩
      rw [← hrl] at c0
      have HRL := hide hrl
      have HI := hide hlt
      clear hc hrl
      by_cases hs : (rl : Int) = wd
      · have e4 : ((rl : Int) != wd) = false := by simp [hs]
        have HS : Hid ((rl : Int) = wd) := hide hs
        clear hs
        go_wp2_with fail
        go_roundw
        case rel =>
          refine ⟨i + 1, HLT.out, by go_num, hide (fun j hj => ?_), KR⟩
          rcases Nat.lt_or_ge j i with h | h
          · exact HJ.out j h
          · obtain rfl : j = i := by omega
            rw [← HRL.out]; exact HS.out
        case measure => have := HLT.out; simp [intOf]; omega
      · have e4 : ((rl : Int) != wd) = true := by simp [hs]
        have HR3 : Hid (rv = 3) := hide (by rw [HV.out, if_pos ((rowsL_any F m _).2 ⟨i, HI.out, by rw [HLn.out i HI.out, ← HRL.out]; exact e4⟩)])
        clear hs
        go_wp2_with fail
        go_ret
        exact ⟨ret_int HR3.out.symm, K2.out.trans KR.out⟩
    · obtain rfl : i = m := by omega
      have HV2 : Hid (rv = if (Cmp.rowsL F i).any (fun r => r.any (fun z => decide (tot < z))) = true then 1 else 0) := hide (by
        rw [HV.out, if_neg]
        intro he
        obtain ⟨j, hj, hp⟩ := (rowsL_any F i _).1 he
        rw [HLn.out j hj] at hp
        simp [HJ.out j hj] at hp)
      have KX := hide (K2.out.trans KR.out)
      have HHr := hide (HH.out.kept KR.out (fun _ _ h => h))
      have s3' := KR.out.cell_some S3.out (fun h => h)
      have s0' := hide (KR.out.cell_some s0.out (fun h => h))
      have S3' := hide s3'
      obtain ⟨wx, rfl⟩ : ∃ wx : World, wx = wr := ⟨_, rfl⟩
      have hmf : ∀ (fn : Fn) (first cap : Array Value) (w : World), (Instr.makeFunc fn first cap).run Try.prog w = .ok (.func fn first cap) w := fun _ _ _ _ => rfl
      clear HV HJ KR K2 HH d11 s0 S3
      go_wp2_with fail
      trace "LOOPB"
      go_loopw [35] (fun iv wr => ∃ t : Nat, t ≤ i ∧ iv = .int .i64 t ∧ Hid (∀ j, j < t → (F j).2.2.2.any (fun z => decide (tot < z)) = false) ∧ Hid (Keeps (fun _ => False) wx wr)) (fun iv _ => i - (intOf iv).toNat)
      case atStart => exact ⟨0, by omega, rfl, hide (fun j h => by omega), hide (Keeps.refl _ _)⟩
      case round =>
        obtain ⟨t, ht, rfl, HJ, KR⟩ := hrel
        by_cases hlt : t < i
        · have HLT : Hid (t + 1 ≤ i) := hlt
          obtain ⟨b, off, rfl, hbB, hc⟩ := (HHr.out.rows.kept KR.out (fun _ _ h => h)).2 (by omega)
          have c0 := hc t (.slice (F t).1 (F t).2.1 (F t).2.2.1) (by simp [hlt])
          have hiI : (t : Int) < (i : Int) := by omega
          have hi0 : (0 : Int) ≤ (t : Int) := by omega
          have hrt := HHr.out.rrd t hlt
          have HCt := hide (fun W (kW : Keeps (fun _ => False) wr W) => contU_any B (F t).1 (F t).2.2.2 (F t).2.1 (F t).2.2.1 tot (gs + 1) W ((hrt.1.kept KR.out (fun _ _ h => h)).kept kW (fun _ _ h => h)) ((KR.out.trans kW).cell_some s0'.out (fun h => h)) (by have := hrt.2.2; omega))
          have HI := hide hlt
          obtain ⟨bv, hbv⟩ : ∃ bv, bv = (F t).2.2.2.any (fun z => decide (tot < z)) := ⟨_, rfl⟩
          rw [← hbv] at HCt
          have HBV := hide hbv
          clear hc hrt hbv
          go_wp2_with fail
          refine (HCt.out _ (Keeps.refl _ _)).mono ?_
          rintro e w5 ⟨rfl, k5⟩
          have K5 := hide (KR.out.trans k5)
          clear k5 HCt
          rcases bv with _ | _
          · go_wp2_with fail
            go_roundw
            case rel =>
              refine ⟨t + 1, HLT.out, by go_num, hide (fun j hj => ?_), K5⟩
              rcases Nat.lt_or_ge j t with h | h
              · exact HJ.out j h
              · obtain rfl : j = t := by omega
                exact HBV.out.symm
            case measure => have := HLT.out; simp [intOf]; omega
          · have HR1 : Hid (rv = 1) := hide (by rw [HV2.out, if_pos ((rowsL_any F i _).2 ⟨t, HI.out, HBV.out.symm⟩)])
            go_wp2_with fail
            go_ret
            exact ⟨ret_int HR1.out.symm, KX.out.trans K5.out⟩
        · obtain rfl : t = i := by omega
          have HR0 : Hid (rv = 0) := hide (by
            rw [HV2.out, if_neg]
            intro he
            obtain ⟨j, hj, hp⟩ := (rowsL_any F t _).1 he
            rw [HJ.out j hj] at hp
            cases hp)
          go_wp2_with fail
          go_ret
          exact ⟨ret_int HR0.out.symm, KX.out.trans KR.out⟩
end Go.Proofs.Ytaiopdipldaimaa
