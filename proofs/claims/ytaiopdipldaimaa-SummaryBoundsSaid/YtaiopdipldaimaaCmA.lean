/-
  countmin: Add, by its contract.
-/
import Derived.Test.YtaiopdipldaimaaCm
set_option linter.unusedVariables false
set_option linter.unusedSimpArgs false
namespace Go.Proofs.Ytaiopdipldaimaa
open Go.RowKit

theorem empty_of {s : ByteArray} (h : s.data.toList = []) : s = ByteArray.empty := by
  obtain ⟨⟨l⟩⟩ := s
  simp at h
  subst h
  rfl
/-- what an addition leaves -/
def Added (w : World) (lo hi g d n : Nat) (R : Cmp.Rows) (zs : List Int) (seed total : Int) (bs : Nat → Nat) (bt ct : Nat) (k : List UInt8) (wt : Int) (e : Ending) (w' : World) : Prop :=
  e = .returned (.int .i64 (Cmp.addE k wt total)) ∧ Keeps (fun b => lo ≤ b ∧ b < hi) w w' ∧
    Sk w' lo hi g d n (if Cmp.addE k wt total = 0 then Cmp.raise R zs seed k (Cmp.least R zs seed k d + wt) d else R) zs seed (if Cmp.addE k wt total = 0 then total + wt else total) bs bt ct

set_option maxHeartbeats 1000000 in
theorem add_any {w : World} {lo hi g d n : Nat} {R : Cmp.Rows} {zs : List Int} {seed total : Int} {bs : Nat → Nat} {bt ct : Nat} (h : Sk w lo hi g d n R zs seed total bs bt ct) (hgt : g ≠ bt) (s : ByteArray) (hs : s.size ≤ 140737488351232)
    (wt : Int) (w0 : 0 ≤ wt) (w1 : wt < 18446744073709551616) :
    Calls Try.prog 18 #[.pointer (some ⟨g, 0, none⟩), .string s, .int .u64 wt] w (Added w lo hi g d n R zs seed total bs bt ct s.data.toList wt) := by
  by_cases hk : s.data.toList = []
  · have hE : Hid (Added w lo hi g d n R zs seed total bs bt ct s.data.toList wt (.returned (.int .i64 3)) w) := by
      have : Cmp.addE s.data.toList wt total = 3 := by unfold Cmp.addE; rw [if_pos hk]
      unfold Added
      rw [this]
      exact ⟨rfl, Keeps.refl _ _, by simpa using h⟩
    obtain rfl := empty_of hk
    clear h hk
    go_enter Try.func18, Try.ntmps18
    go_wp2_with fail
    go_ret
    exact hE.out
  have hne1 : s.toList.isEmpty = false := by
    rw [ByteArray.toList_eq]; simpa using hk
  by_cases hw : wt = 0
  · have hE : Hid (Added w lo hi g d n R zs seed total bs bt ct s.data.toList wt (.returned (.int .i64 1)) w) := by
      have : Cmp.addE s.data.toList wt total = 1 := by unfold Cmp.addE; rw [if_neg hk, if_pos hw]
      unfold Added
      rw [this]
      exact ⟨rfl, Keeps.refl _ _, by simpa using h⟩
    have hk' := hide hk
    subst hw
    clear h hk
    go_enter Try.func18, Try.ntmps18
    go_wp2_with fail
    go_ret
    exact hE.out
  have hw1' : ((wt : Int) == 0) = false := by simpa using hw
  have hd := h.dd
  have hn := h.nn
  have htt := h.tt
  obtain ⟨c7, c0, f7⟩ := h.tot
  have HS := hide h
  by_cases hov : total + wt ≤ 9223372036854775808
  · have hfit : Sat.fits total wt = true := by unfold Sat.fits; exact decide_eq_true hov
    have HF := hide (fun W => Sat.fits_any total wt (by omega) (by omega) (by omega) (by omega) W)
    rw [hfit] at HF
    have hE : Hid (Cmp.addE s.data.toList wt total = 0) := by show _ = _; unfold Cmp.addE; rw [if_neg hk, if_neg hw, if_pos hov]
    have hS1 := h.setTotal hgt (total + wt) (by omega) hov
    have hlb := Cmp.least_bd (t := zs) (seed := seed) (k := s.data.toList) h.fine (by omega) (by omega)
    obtain ⟨W1, hW1⟩ : ∃ W1, W1 = w.setCell ⟨g, 7, none⟩ (.int .u64 (total + wt)) := ⟨_, rfl⟩
    rw [← hW1] at hS1
    have k1 : Keeps (fun b => lo ≤ b ∧ b < hi) w W1 := by rw [hW1]; exact Keeps.setCell (S := fun b => lo ≤ b ∧ b < hi) (p := ⟨g, 7, none⟩) (Keeps.refl _ _) (.inl h.lo_g) _
    have HEST := hide (estimate_any hS1 s hs)
    have hfine := fun i (hi : i ≤ d) => Cmp.fine_raise (t := zs) (seed := seed) (k := s.data.toList) h.fine (by omega) (by omega) w0 i hi
    have hval := fun i (hi : i < d) => Cmp.val_of (R := R) (t := zs) (seed := seed) (k := s.data.toList) d n h.fine.2.1 (by omega) i hi
    obtain ⟨est, hest⟩ : ∃ est, est = Cmp.least R zs seed s.data.toList d := ⟨_, rfl⟩
    rw [← hest] at HEST hlb hfine
    have HEQ := hide hest
    have HW := hide hW1
    have HS1 := hide hS1
    have HK1 := hide k1
    have HFI := hide hfine
    have HV := hide hval
    have HKK := hide hk
    have wb : 0 ≤ total + wt := by omega
    clear hS1 k1 hfine hval h hest hfit hk hw hW1
    go_enter Try.func18, Try.ntmps18
    go_wp2_with fail
    refine (HF.out _).mono ?_
    rintro e w2 ⟨rfl, rfl⟩
    go_wp2_with fail
    rw [← HW.out]
    refine HEST.out.mono ?_
    rintro e w2 ⟨rfl, nq, rfl⟩
    have HS2 := hide (HS1.out.drewN nq)
    have HK2 := hide (HK1.out.drewN nq)
    obtain ⟨d7, d0, e7⟩ := HS2.out.tot
    obtain ⟨W2, hW2⟩ : ∃ W2, W2 = W1.drewN nq := ⟨_, rfl⟩
    rw [← hW2] at HS2 HK2 d7 d0 e7 ⊢
    clear hW2 c7 c0 f7 HS1 HK1 HEST HW HF HS
    go_wp2_with fail
    go_loopw [44] (fun i wr => ∃ k : Nat, k ≤ d ∧ i = .int .i64 k ∧ Sk wr lo hi g d n (Cmp.raise R zs seed s.data.toList (est + wt) k) zs seed (total + wt) bs bt ct ∧ Keeps (fun b => lo ≤ b ∧ b < hi) w wr) (fun i _ => d - (intOf i).toNat)
    case atStart => exact ⟨0, by omega, rfl, HS2.out, HK2.out⟩
    case round =>
      obtain ⟨k, hk, rfl, sk, kp⟩ := hrel
      by_cases hlt : k < d
      · have HC := hide (counter_any sk k hlt s hs)
        have hp := Cmp.pos_lt zs seed s.data.toList n k (by omega)
        have hrl := sk.fine.2.1 k hlt
        have hv := HV.out k hlt
        have hrg := Cmp.raise_row_ge (R := R) (t := zs) (seed := seed) (k := s.data.toList) (v := est + wt) k k (Nat.le_refl _)
        have hcell : Cmp.cell (Cmp.raise R zs seed s.data.toList (est + wt) k) k (Cmp.pos zs seed s.data.toList n k) = Cmp.val R zs seed s.data.toList k := by
          rw [hv]; unfold Cmp.cell; rw [hrg]
        have hRl : (R.getD k []).length = n := by rw [← hrg]; exact hrl
        have hput : Cmp.raise R zs seed s.data.toList (est + wt) (k + 1) = Cmp.put (Cmp.raise R zs seed s.data.toList (est + wt) k) k (Cmp.pos zs seed s.data.toList n k) (max (Cmp.val R zs seed s.data.toList k) (est + wt)) := by
          rw [Cmp.raise, hRl]
        obtain ⟨c1, f1⟩ := sk.cell k _ hlt hp
        rw [hcell] at c1
        have hf := HFI.out (k + 1) hlt
        rw [hput] at hf
        have HP := hide (fun q v (hv : v = max (Cmp.val R zs seed s.data.toList k) (est + wt)) => (sk.drewN q).put k (Cmp.pos zs seed s.data.toList n k) hlt v (by rw [hv]; exact hf))
        have HPUT := hide hput
        have hsb := sk.lo_r k hlt
        have HKP := hide kp
        generalize Cmp.pos zs seed s.data.toList n k = p at *
        generalize Cmp.val R zs seed s.data.toList k = x at *
        clear sk kp hp hrl hv hrg hcell hRl hput hf d7 d0 e7
        go_wp2_with fail
        refine HC.out.mono ?_
        rintro e w3 ⟨rfl, nq, rfl⟩
        go_wp2_with fail
        all_goals
          go_roundw
          case rel => exact ⟨k + 1, by omega, by go_num, by rw [HPUT.out, ← show (if x < est + wt then est + wt else x) = max x (est + wt) from by split <;> omega]; exact HP.out nq _ (by split <;> omega), Keeps.setCell (p := ⟨bs k, p, none⟩) (HKP.out.drewN nq) (.inl hsb) _⟩
          case measure => simp [intOf]; omega
      · go_wp2_with fail
        go_ret
        obtain rfl : k = d := by omega
        refine ⟨by rw [hE.out]; rfl, kp, ?_⟩
        rw [hE.out, if_pos rfl, if_pos rfl, ← HEQ.out]
        exact sk
  · have hfit : Sat.fits total wt = false := by unfold Sat.fits; exact decide_eq_false hov
    have HF := hide (fun W => Sat.fits_any total wt (by omega) (by omega) (by omega) (by omega) W)
    rw [hfit] at HF
    have hE : Hid (Added w lo hi g d n R zs seed total bs bt ct s.data.toList wt (.returned (.int .i64 12)) w) := by
      have : Cmp.addE s.data.toList wt total = 12 := by unfold Cmp.addE; rw [if_neg hk, if_neg hw, if_neg hov]
      unfold Added
      rw [this]
      exact ⟨rfl, Keeps.refl _ _, by simpa using h⟩
    have HKK := hide hk
    clear h hk hw hfit
    go_enter Try.func18, Try.ntmps18
    go_wp2_with fail
    refine (HF.out _).mono ?_
    rintro e w2 ⟨rfl, rfl⟩
    go_wp2_with fail
    go_ret
    exact hE.out
end Go.Proofs.Ytaiopdipldaimaa
