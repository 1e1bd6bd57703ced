/-
  The reference's sketch: Estimate and Add, by their contracts.
-/
import Derived.Test.YtaiopdipldaimaaCmR
set_option linter.unusedVariables false
set_option linter.unusedSimpArgs false
namespace Go.Proofs.Ytaiopdipldaimaa
open Go.RowKit

section
variable {w w' : World} {lo hi g d n : Nat} {R : Cmp.Rows} {zs : List Int} {seed total : Int} {A : Option Addr} {co : Nat} {bs : Nat → Nat} {bt ct : Nat}
theorem RSk.cell (h : RSk w lo hi g d n R zs seed total A co bs bt ct) (i j : Nat) (hi' : i < d) (hj : j < n) :
    w.cell? ⟨bs i, j, none⟩ = some (.int .u64 (Cmp.cell R i j)) ∧ w.frozen? ⟨bs i, j, none⟩ = false := by
  have hb := h.rows i hi'
  refine ⟨?_, hb.frozen j⟩
  rw [hb.cell j]
  have hl := h.fine.2.1 i hi'
  unfold Cmp.cell
  simp [List.getD] at hl ⊢
  rw [List.getElem?_eq_getElem (by omega)]
  simp
theorem RSk.cells (h : RSk w lo hi g d n R zs seed total A co bs bt ct) :
    (w.cell? ⟨g, 0, none⟩ = some (.slice A d co) ∧ w.cell? ⟨g, 1, none⟩ = some (.slice (some ⟨bt, 0, none⟩) 16 ct) ∧ w.cell? ⟨g, 2, none⟩ = some (.int .u64 seed) ∧ w.cell? ⟨g, 3, none⟩ = some (.int .u64 total)) ∧ w.frozen? ⟨g, 3, none⟩ = false :=
  ⟨⟨h.blk.cell 0, h.blk.cell 1, h.blk.cell 2, h.blk.cell 3⟩, h.blk.frozen 3⟩
theorem RSk.row (h : RSk w lo hi g d n R zs seed total A co bs bt ct) (i : Nat) (hi' : i < d) : ∃ bo, A = some ⟨bo, 0, none⟩ ∧ w.cell? ⟨bo, i, none⟩ = some (.slice (some ⟨bs i, 0, none⟩) n n) := by
  obtain ⟨bo, rfl, _⟩ := h.out.some_ (by omega)
  refine ⟨bo, rfl, ?_⟩
  rw [h.out.cell i (by omega)]
  simp [rowCells, hi']
theorem RSk.gne (h : RSk w lo hi g d n R zs seed total A co bs bt ct) (i : Nat) (hi' : i < d) : g ≠ bs i := h.blk.ne (h.rows i hi') (by decide)
theorem RSk.setTotal (h : RSk w lo hi g d n R zs seed total A co bs bt ct) (t2 : Int) (h0 : total ≤ t2) (h1 : t2 ≤ 9223372036854775808) : RSk (w.setCell ⟨g, 3, none⟩ (.int .u64 t2)) lo hi g d n R zs seed t2 A co bs bt ct := by
  have hgn := h.gne
  have k : Keeps (· = g) w (w.setCell ⟨g, 3, none⟩ (.int .u64 t2)) := Keeps.setCell (S := (· = g)) (p := ⟨g, 3, none⟩) (Keeps.refl _ _) (.inl rfl) _
  obtain ⟨e1, h2, h3, h4, h5, h6, h7, h8, h8', h9, h10, h11, h12, h13, h14, h15, h16, h17⟩ := h
  exact ⟨e1.set 3 _, h2.kept k (fun b hb e => h2.ne_blk e1 (by decide) hb e), h3, fun i hi => (h4 i hi).kept k (fun e => hgn i hi e.symm), tab_kept h5 k (fun e => h8' e.symm), h6, h7, h8, h8', h9, h10, ⟨h11.1, h11.2.1, fun i j => ⟨(h11.2.2 i j).1, by have := (h11.2.2 i j).2; omega⟩⟩, h12, h13, h14, h15, h16, by omega⟩
theorem RSk.put (h : RSk w lo hi g d n R zs seed total A co bs bt ct) (i j : Nat) (hi' : i < d) (v : Int) (hf : Cmp.Fine (Cmp.put R i j v) d n total) :
    RSk (w.setCell ⟨bs i, j, none⟩ (.int .u64 v)) lo hi g d n (Cmp.put R i j v) zs seed total A co bs bt ct := by
  have hgn := h.gne
  have k : Keeps (· = bs i) w (w.setCell ⟨bs i, j, none⟩ (.int .u64 v)) := Keeps.setCell (S := (· = bs i)) (p := ⟨bs i, j, none⟩) (Keeps.refl _ _) (.inl rfl) _
  obtain ⟨e1, h2, h3, h4, h5, h6, h7, h8, h8', h9, h10, h11, h12, h13, h14, h15, h16, h17⟩ := h
  refine ⟨e1.kept k (hgn i hi'), h2.kept k (fun b hb e => h2.ne_blk (h4 i hi') (by decide) hb e), h3, fun m hm => ?_, tab_kept h5 k (fun e => h6 i hi' e.symm), h6, h7, h8, h8', h9, h10, hf, h12, h13, h14, h15, h16, h17⟩
  by_cases hmi : m = i
  · subst hmi
    have := (h4 m hm).set j (.int .u64 v)
    rw [Cmp.put_row, if_pos ⟨rfl, by have := h11.1; omega⟩]
    simpa [List.map_set] using this
  · rw [Cmp.put_row, if_neg (fun hh => hmi hh.1)]
    exact (h4 m hm).far (fun e => hmi (h7 m i hm hi' e)) _
end

set_option maxRecDepth 100000 in
theorem restimate_any {w : World} {lo hi g d n : Nat} {R : Cmp.Rows} {zs : List Int} {seed total : Int} {A : Option Addr} {co : Nat} {bs : Nat → Nat} {bt ct : Nat} (h : RSk w lo hi g d n R zs seed total A co bs bt ct) (s : ByteArray) (hs : s.size ≤ 140737488351232) :
    Calls Try.prog 35 #[.pointer (some ⟨g, 0, none⟩), .string s] w fun e w' => e = .returned (.int .u64 (Cmp.least R zs seed s.data.toList d)) ∧ ∃ nq, w' = w.drewN nq := by
  obtain ⟨⟨c0, c1, c2, c3⟩, f3⟩ := h.cells
  have hof := fun q => rof_any (c0 := co) (ct := ct) ((h.drewN q).out.rd (by omega)) (h.drewN q).rowsRd (by have := h.dd; omega) (h.drewN q).tab h.zb seed h.sd.1 h.sd.2 s hs
  have hv : Cmp.ofV (Cmp.rowsL (rowsF bs n R) d) zs seed s.data.toList = Cmp.least R zs seed s.data.toList d := by
    rw [rowsF_L bs n d R h.fine.1]
    unfold Cmp.ofV
    rw [if_neg (by have := h.fine.1; have := h.dd; have := h.zl; omega), h.fine.1]
  rw [hv] at hof
  have HOF := hide hof
  clear hof hv h f3 c3
  go_enter Try.func35, Try.ntmps35
  go_wp2_with fail
  go_quiet ((go_at_call 41; first | exact quiet_more (HOF.out _) | exact quiet_add (HOF.out _)))
  go_wp2_with fail
  go_ret
  exact ⟨rfl, _, rfl⟩

/-- what an addition leaves -/
def RAdded (w : World) (lo hi g d n : Nat) (R : Cmp.Rows) (zs : List Int) (seed total : Int) (A : Option Addr) (co : Nat) (bs : Nat → Nat) (bt ct : Nat) (k : List UInt8) (wt : Int) (e : Ending) (w' : World) : Prop :=
  e = .returned (.int .i64 (Cmp.addE k wt total)) ∧ Keeps (fun b => lo ≤ b ∧ b < hi) w w' ∧
    RSk w' lo hi g d n (if Cmp.addE k wt total = 0 then Cmp.raise R zs seed k (Cmp.least R zs seed k d + wt) d else R) zs seed (if Cmp.addE k wt total = 0 then total + wt else total) A co bs bt ct

set_option maxRecDepth 100000 in
set_option maxHeartbeats 1000000 in
theorem radd_sk {w : World} {lo hi g d n : Nat} {R : Cmp.Rows} {zs : List Int} {seed total : Int} {A : Option Addr} {co : Nat} {bs : Nat → Nat} {bt ct : Nat} (h : RSk w lo hi g d n R zs seed total A co bs bt ct) (s : ByteArray) (hs : s.size ≤ 140737488351232)
    (wt : Int) (w0 : 0 ≤ wt) (w1 : wt < 18446744073709551616) :
    Calls Try.prog 34 #[.pointer (some ⟨g, 0, none⟩), .string s, .int .u64 wt] w (RAdded w lo hi g d n R zs seed total A co bs bt ct s.data.toList wt) := by
  by_cases hk : s.data.toList = []
  · have hE : Hid (RAdded w lo hi g d n R zs seed total A co bs bt ct s.data.toList wt (.returned (.int .i64 3)) w) := by
      have : Cmp.addE s.data.toList wt total = 3 := by unfold Cmp.addE; rw [if_pos hk]
      unfold RAdded
      rw [this]
      exact ⟨rfl, Keeps.refl _ _, by simpa using h⟩
    obtain rfl := empty_of hk
    clear h hk
    go_enter Try.func34, Try.ntmps34
    go_wp2_with fail
    go_ret
    exact hE.out
  have hne1 : s.toList.isEmpty = false := by
    rw [ByteArray.toList_eq]; simpa using hk
  by_cases hw : wt = 0
  · have hE : Hid (RAdded w lo hi g d n R zs seed total A co bs bt ct s.data.toList wt (.returned (.int .i64 1)) w) := by
      have : Cmp.addE s.data.toList wt total = 1 := by unfold Cmp.addE; rw [if_neg hk, if_pos hw]
      unfold RAdded
      rw [this]
      exact ⟨rfl, Keeps.refl _ _, by simpa using h⟩
    have hk' := hide hk
    subst hw
    clear h hk
    go_enter Try.func34, Try.ntmps34
    go_wp2_with fail
    go_ret
    exact hE.out
  have hw1' : ((wt : Int) == 0) = false := by simpa using hw
  have hd := h.dd
  have hn := h.nn
  have htt := h.tt
  obtain ⟨⟨c0, c1, c2, c3⟩, f3⟩ := h.cells
  have HS := hide h
  by_cases hov : total + wt ≤ 9223372036854775808
  · have hfit : Sat.fits total wt = true := by unfold Sat.fits; exact decide_eq_true hov
    have HF := hide (fun W => Sat.rfits_any total wt (by omega) (by omega) (by omega) (by omega) W)
    rw [hfit] at HF
    have hE : Hid (Cmp.addE s.data.toList wt total = 0) := by show _ = _; unfold Cmp.addE; rw [if_neg hk, if_neg hw, if_pos hov]
    have hS1 := h.setTotal (total + wt) (by omega) hov
    have hlb := Cmp.least_bd (t := zs) (seed := seed) (k := s.data.toList) h.fine (by omega) (by omega)
    obtain ⟨W1, hW1⟩ : ∃ W1, W1 = w.setCell ⟨g, 3, none⟩ (.int .u64 (total + wt)) := ⟨_, rfl⟩
    rw [← hW1] at hS1
    have k1 : Keeps (fun b => lo ≤ b ∧ b < hi) w W1 := by rw [hW1]; exact Keeps.setCell (S := fun b => lo ≤ b ∧ b < hi) (p := ⟨g, 3, none⟩) (Keeps.refl _ _) (.inl h.lo_g) _
    have HEST := hide (restimate_any hS1 s hs)
    have hfine := fun i (hi : i ≤ d) => Cmp.fine_raise (t := zs) (seed := seed) (k := s.data.toList) h.fine (by omega) (by omega) w0 i hi
    have hval := fun i (hi : i < d) => Cmp.val_of (R := R) (t := zs) (seed := seed) (k := s.data.toList) d n h.fine.2.1 (by omega) i hi
    obtain ⟨est, hest⟩ : ∃ est, est = Cmp.least R zs seed s.data.toList d := ⟨_, rfl⟩
    rw [← hest] at HEST hlb hfine
    have HEQ := hide hest
    have HW := hide hW1
    have HS1 := hide hS1
    have HK1 := hide k1
    have HFI := hide hfine
    have HV := hide hval
    have HKK := hide hk
    have wb : 0 ≤ total + wt := by omega
    obtain ⟨bo, rfl, hbo, hbo'⟩ := h.out.some_ (by omega)
    clear hS1 k1 hfine hval h hest hfit hk hw hW1
    go_enter Try.func34, Try.ntmps34
    go_wp2_with fail
    refine (HF.out _).mono ?_
    rintro e w2 ⟨rfl, rfl⟩
    go_wp2_with fail
    rw [← HW.out]
    refine HEST.out.mono ?_
    rintro e w2 ⟨rfl, nq, rfl⟩
    have HS2 := hide (HS1.out.drewN nq)
    have HK2 := hide (HK1.out.drewN nq)
    obtain ⟨⟨d0, d1, d2, d3⟩, e3⟩ := HS2.out.cells
    obtain ⟨W2, hW2⟩ : ∃ W2, W2 = W1.drewN nq := ⟨_, rfl⟩
    rw [← hW2] at HS2 HK2 d0 d1 d2 d3 e3 ⊢
    clear hW2 c0 c1 c2 c3 f3 HS1 HK1 HEST HW HF HS
    go_wp2_with fail
    go_loopw [40] (fun i wr => ∃ k : Nat, k ≤ d ∧ i = .int .i64 k ∧ RSk wr lo hi g d n (Cmp.raise R zs seed s.data.toList (est + wt) k) zs seed (total + wt) (some ⟨bo, 0, none⟩) co bs bt ct ∧ Keeps (fun b => lo ≤ b ∧ b < hi) w wr) (fun i _ => d - (intOf i).toNat)
    case atStart => exact ⟨0, by omega, rfl, HS2.out, HK2.out⟩
    case round =>
      obtain ⟨k, hk, rfl, sk, kp⟩ := hrel
      by_cases hlt : k < d
      · have hp := Cmp.pos_lt zs seed s.data.toList n k (by omega)
        have hrl := sk.fine.2.1 k hlt
        have hv := HV.out k hlt
        have hrg := Cmp.raise_row_ge (R := R) (t := zs) (seed := seed) (k := s.data.toList) (v := est + wt) k k (Nat.le_refl _)
        have hcell : Cmp.cell (Cmp.raise R zs seed s.data.toList (est + wt) k) k (Cmp.pos zs seed s.data.toList n k) = Cmp.val R zs seed s.data.toList k := by
          rw [hv]; unfold Cmp.cell; rw [hrg]
        have hRl : (R.getD k []).length = n := by rw [← hrg]; exact hrl
        have hput : Cmp.raise R zs seed s.data.toList (est + wt) (k + 1) = Cmp.put (Cmp.raise R zs seed s.data.toList (est + wt) k) k (Cmp.pos zs seed s.data.toList n k) (max (Cmp.val R zs seed s.data.toList k) (est + wt)) := by
          rw [Cmp.raise, hRl]
        obtain ⟨c1', f1⟩ := sk.cell k _ hlt hp
        rw [hcell] at c1'
        have hf := HFI.out (k + 1) hlt
        rw [hput] at hf
        have HP := hide (fun q v (hv : v = max (Cmp.val R zs seed s.data.toList k) (est + wt)) => (sk.drewN q).put k (Cmp.pos zs seed s.data.toList n k) hlt v (by rw [hv]; exact hf))
        have HPUT := hide hput
        have hsb := sk.lo_r k hlt
        have HKP := hide kp
        obtain ⟨⟨x0, x1, x2, x3⟩, _⟩ := sk.cells
        obtain ⟨bo', ebo, hrow⟩ := sk.row k hlt
        injection ebo with ebo
        injection ebo with ebo
        subst ebo
        obtain ⟨hh, g0, g1, _, _, g2, g3⟩ := hash_facts (ct := ct) sk.tab sk.zb seed sk.sd.1 sk.sd.2 s hs k n (by omega) (by omega) (by omega)
        have HG2 := hide g2
        have HG3 := hide g3
        have hkI : (k : Int) < (d : Int) := by omega
        have hpI : (Cmp.pos zs seed s.data.toList n k : Int) < (n : Int) := by omega
        generalize Cmp.pos zs seed s.data.toList n k = p at *
        generalize Cmp.val R zs seed s.data.toList k = x at *
        clear sk kp hp hrl hv hrg hcell hRl hput hf d0 d1 d2 d3 e3 g2 g3
        go_wp2_with fail
        go_quiet ((first
          | (go_at_call 66; first | exact quiet_more (HG2.out _) | exact quiet_add (HG2.out _))
          | (go_at_call 65; first | exact quiet_left (HG3.out _) | exact quiet_add_left (HG3.out _))))
        go_wp2_with fail
        all_goals
          go_roundw
          case rel => exact ⟨k + 1, by omega, by go_num, by rw [HPUT.out, ← show (if x < est + wt then est + wt else x) = max x (est + wt) from by split <;> omega]; exact HP.out _ _ (by split <;> omega), Keeps.setCell (p := ⟨bs k, p, none⟩) (HKP.out.drewN _) (.inl hsb) _⟩
          case measure => simp [intOf]; omega
      · go_wp2_with fail
        go_ret
        obtain rfl : k = d := by omega
        refine ⟨by rw [hE.out]; rfl, kp, ?_⟩
        rw [hE.out, if_pos rfl, if_pos rfl, ← HEQ.out]
        exact sk
  · have hfit : Sat.fits total wt = false := by unfold Sat.fits; exact decide_eq_false hov
    have HF := hide (fun W => Sat.rfits_any total wt (by omega) (by omega) (by omega) (by omega) W)
    rw [hfit] at HF
    have hE : Hid (RAdded w lo hi g d n R zs seed total A co bs bt ct s.data.toList wt (.returned (.int .i64 12)) w) := by
      have : Cmp.addE s.data.toList wt total = 12 := by unfold Cmp.addE; rw [if_neg hk, if_neg hw, if_neg hov]
      unfold RAdded
      rw [this]
      exact ⟨rfl, Keeps.refl _ _, by simpa using h⟩
    have HKK := hide hk
    clear h hk hw hfit
    go_enter Try.func34, Try.ntmps34
    go_wp2_with fail
    refine (HF.out _).mono ?_
    rintro e w2 ⟨rfl, rfl⟩
    go_wp2_with fail
    go_ret
    exact hE.out
end Go.Proofs.Ytaiopdipldaimaa
