/-
  summary.Bounds: the index of a key's entry. No conditions beyond those of the statement.
-/
import Derived.Test.YtaiopdipldaimaaYh
set_option linter.unusedVariables false
set_option linter.unusedSimpArgs false
namespace Go.Proofs.Ytaiopdipldaimaa
open Go.RowKit Cfp
/-- the first entry of a key, or the number of entries -/
def keyAt (l : List Ln) (k : ByteArray) : Nat := l.findIdx (fun x => x.key.toList == k.toList)
theorem keyAt_le (l : List Ln) (k : ByteArray) : keyAt l k ≤ l.length := List.findIdx_le_length
theorem keyAt_lt {l : List Ln} {k : ByteArray} {i : Nat} {x : Ln} (h : l[i]? = some x) (hs : (x.key.toList == k.toList) = true) (hb : ∀ (j : Nat) (d : Ln), j < i → l[j]? = some d → (d.key.toList == k.toList) = false) : keyAt l k = i := by
  obtain ⟨hi, he⟩ := List.getElem?_eq_some_iff.1 h
  unfold keyAt
  rw [List.findIdx_eq hi]
  exact ⟨by rw [he]; exact hs, fun j hj => hb j _ hj (List.getElem?_eq_getElem (by omega))⟩
theorem keyAt_no {l : List Ln} {k : ByteArray} (hb : ∀ (j : Nat) (d : Ln), l[j]? = some d → (d.key.toList == k.toList) = false) : keyAt l k = l.length := by
  unfold keyAt
  rw [List.findIdx_eq_length]
  intro c hc
  obtain ⟨j, hj, he⟩ := List.getElem_of_mem hc
  exact hb j c (by rw [List.getElem?_eq_getElem hj, he])
theorem isK_any (x : Ln) (k : ByteArray) (q : Nat) (W : World) (hb : W.cell? ⟨q, 0, none⟩ = some (.string k)) :
    Calls Try.prog 76 #[.agg #[.string x.key, .int .u64 x.lo, .int .u64 x.hi], .pointer (some ⟨q, 0, none⟩)] W fun e w' => e = .returned (.bool (x.key.toList == k.toList)) ∧ Keeps (fun _ => False) W w' := by
  have k1 := (Keeps.refl (fun _ => False) W).alloc (.cells #[.string x.key, .int .u64 x.lo, .int .u64 x.hi] 99)
  have b1 := Blk.new W 99 #[.string x.key, .int .u64 x.lo, .int .u64 x.hi]
  have q0 : (W.alloc (.cells #[.string x.key, .int .u64 x.lo, .int .u64 x.hi] 99)).cell? ⟨W.heap.size, 0, none⟩ = some (.string x.key) := b1.cell 0
  have qb := k1.cell_some hb (fun h => h)
  have K1 := hide k1
  clear k1 b1
  go_enter Try.func76, Try.ntmps76
  go_wp2_with fail
  go_ret
  exact ⟨by simp, K1.out⟩
def idxV (k n : Nat) : Int := if k < n then (k : Int) else -1
theorem idxV_lt {k n : Nat} (h : k < n) : idxV k n = k := if_pos h
theorem idxV_no (n : Nat) : idxV n n = -1 := if_neg (by omega)
set_option maxRecDepth 100000 in
theorem idxK_any (B : Nat) (A : Option Addr) (l : List Ln) (n cap : Nat) (k : ByteArray) (q : Nat) (w : World) (hr : Rd w B A 3 n (lnCs l)) (hb : w.cell? ⟨q, 0, none⟩ = some (.string k)) (hn : n ≤ 1000000) :
    Calls Try.prog 75 #[.slice A n cap, .func (.func 76) #[] #[.pointer (some ⟨q, 0, none⟩)]] w fun e w' => e = .returned (.int .i64 (idxV (keyAt l k) n)) ∧ Keeps (fun _ => False) w w' := by
  have HO := hide hr
  have HB := hide hb
  have HL := hide (lnRd_len hr)
  obtain ⟨rv, hrv⟩ : ∃ rv, rv = idxV (keyAt l k) n := ⟨_, rfl⟩
  rw [← hrv]
  have HRV := hide hrv
  clear hr hb hrv
  go_enter Try.func75, Try.ntmps75
  go_wp2_with fail
  go_loopw [5, 8] (fun _ iv wr => ∃ i : Nat, i ≤ n ∧ iv = .int .i64 i ∧ Hid (∀ (j : Nat) (d : Ln), j < i → l[j]? = some d → (d.key.toList == k.toList) = false) ∧ Hid (Keeps (fun _ => False) w wr)) (fun _ iv _ => n - (intOf iv).toNat)
  case atStart => exact ⟨0, by omega, rfl, hide (fun j d h => by omega), hide (Keeps.refl _ _)⟩
  case round =>
    obtain ⟨i, hi, rfl, HJ, KR⟩ := hrel
    by_cases hlt : i < n
    · have HLT : Hid (i + 1 ≤ n) := hlt
      have hil : i < l.length := by rw [HL.out]; exact hlt
      obtain ⟨x, hx⟩ : ∃ x, l[i]? = some x := ⟨l[i]'hil, by simp⟩
      obtain ⟨b, off, rfl, hbB, c0, c1, c2⟩ := lnRd_at (HO.out.kept KR.out (fun _ _ h => h)) hx (by omega)
      have hiI : (i : Int) < (n : Int) := by omega
      have hi0 : (0 : Int) ≤ (i : Int) := by omega
      have HX := hide hx
      have HW := hide (isK_any x k q wr (KR.out.cell_some HB.out (fun h => h)))
      clear hil hx
      by_cases hs : (x.key.toList == k.toList) = true
      · rw [hs] at HW
        have HV : Hid (rv = i) := by
          show rv = i
          rw [HRV.out, keyAt_lt HX.out hs HJ.out, idxV_lt hlt]
        clear hs
        go_wp2_with fail
        refine HW.out.mono ?_
        rintro e w2 ⟨rfl, k2⟩
        have K2 := hide (KR.out.trans k2)
        clear k2
        go_wp2_with fail
        go_ret
        exact ⟨ret_int HV.out.symm, K2.out⟩
      · have hs : (x.key.toList == k.toList) = false := by simpa using hs
        rw [hs] at HW
        have HS := hide hs
        clear hs
        go_wp2_with fail
        refine HW.out.mono ?_
        rintro e w2 ⟨rfl, k2⟩
        have K2 := hide (KR.out.trans k2)
        clear k2
        go_wp2_with fail
        go_roundw
        case rel =>
          refine ⟨i + 1, HLT.out, by go_num, hide (fun j d hj hd => ?_), K2⟩
          rcases Nat.lt_or_ge j i with h | h
          · exact HJ.out j d h hd
          · obtain rfl : j = i := by omega
            rw [HX.out] at hd; injection hd with hd; subst hd; exact HS.out
        case measure => have := HLT.out; simp [intOf]; omega
    · obtain rfl : i = n := by omega
      have HV : Hid (rv = -1) := by
        show rv = -1
        rw [HRV.out, keyAt_no (fun j d hd => HJ.out j d (by rw [← HL.out]; exact (List.getElem?_eq_some_iff.1 hd).1) hd), HL.out, idxV_no]
      go_wp2_with fail
      go_ret
      exact ⟨ret_int HV.out.symm, KR.out⟩
end Go.Proofs.Ytaiopdipldaimaa
