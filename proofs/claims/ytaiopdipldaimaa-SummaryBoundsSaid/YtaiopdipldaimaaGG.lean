/-
  Package countmin, each function by its contract. countmin: Add, by its contract. countmin: New and slices.Clone, by their contracts.
-/
import Derived.Test.YtaiopdipldaimaaCmp
import Derived.Test.YtaiopdipldaimaaSat
import Derived.Test.YtaiopdipldaimaaMem2
import Derived.RegionTactic
import Derived.ChangeAlike
set_option linter.unusedVariables false
set_option linter.unusedSimpArgs false
namespace Go.Proofs.Ytaiopdipldaimaa
open Go.RowKit

/-- Block g holds a sketch; its memory lies in the blocks from lo to hi - 1: row i in block bs i, the table in block bt. -/
structure Sk (w : World) (lo hi g d n : Nat) (R : Cmp.Rows) (zs : List Int) (seed total : Int) (bs : Nat → Nat) (bt ct : Nat) : Prop where
  blk : ∃ cs : Array Value, Blk w g 93 cs ∧ cs[0]? = some (.int .i64 d) ∧ (∀ i, i < d → cs[1 + i]? = some (.slice (some ⟨bs i, 0, none⟩) n n)) ∧
    cs[5]? = some (.slice (some ⟨bt, 0, none⟩) 16 ct) ∧ cs[6]? = some (.int .u64 seed) ∧ cs[7]? = some (.int .u64 total)
  rows : ∀ i, i < d → Blk w (bs i) 24 ((R.getD i []).map (.int .u64)).toArray
  tab : Rd w w.heap.size (some ⟨bt, 0, none⟩) 1 16 (zs.map (.int .u64))
  tabne : ∀ i, i < d → bs i ≠ bt
  inj : ∀ i j, i < d → j < d → bs i = bs j → i = j
  lo_g : lo ≤ g ∧ g < hi
  lo_r : ∀ i, i < d → lo ≤ bs i ∧ bs i < hi
  lo_t : lo ≤ bt ∧ bt < hi
  fine : Cmp.Fine R d n total
  zl : zs.length = 16
  zb : ∀ z ∈ zs, 0 ≤ z ∧ z < 18446744073709551616
  sd : 0 ≤ seed ∧ seed < 18446744073709551616
  dd : 1 ≤ d ∧ d ≤ 4
  nn : 1 ≤ n ∧ n ≤ 256
  tt : 0 ≤ total ∧ total ≤ 9223372036854775808
section
variable {w w' : World} {lo hi g d n : Nat} {R : Cmp.Rows} {zs : List Int} {seed total : Int} {bs : Nat → Nat} {bt ct : Nat}
theorem Sk.kept {S : Nat → Prop} (h : Sk w lo hi g d n R zs seed total bs bt ct) (k : Keeps S w w') (hs : ∀ b, lo ≤ b → b < hi → ¬ S b) : Sk w' lo hi g d n R zs seed total bs bt ct := by
  obtain ⟨⟨cs, hb, hc⟩, h2, h3, h4, h5, h6, h7, h8, h9, h10, h11, h12, h13, h14, h15⟩ := h
  refine ⟨⟨cs, hb.kept k (hs _ h6.1 h6.2), hc⟩, fun i hi => (h2 i hi).kept k (hs _ (h7 i hi).1 (h7 i hi).2), ?_, h4, h5, h6, h7, h8, h9, h10, h11, h12, h13, h14, h15⟩
  refine ⟨h3.1, fun hn => ?_⟩
  obtain ⟨b, off, e, hb2, hcell⟩ := h3.2 hn
  injection e with e
  injection e with e1 e2
  subst e1 e2
  exact ⟨bt, 0, rfl, by have := k.size; omega, fun j u hu => k.cell_some (hcell j u hu) (hs _ h8.1 h8.2)⟩
theorem Sk.drewN (h : Sk w lo hi g d n R zs seed total bs bt ct) (k : Nat) : Sk (w.drewN k) lo hi g d n R zs seed total bs bt ct := h.kept (S := fun _ => False) ((Keeps.refl _ _).drewN k) (fun _ _ _ hh => hh)
end

theorem counter_any {w : World} {lo hi g d n : Nat} {R : Cmp.Rows} {zs : List Int} {seed total : Int} {bs : Nat → Nat} {bt ct : Nat} (h : Sk w lo hi g d n R zs seed total bs bt ct) (i : Nat) (hid : i < d) (s : ByteArray) (hs : s.size ≤ 140737488351232) :
    Calls Try.prog 51 #[.pointer (some ⟨g, 0, none⟩), .int .i64 i, .string s] w fun e w' => e = .returned (.pointer (some ⟨bs i, Cmp.pos zs seed s.data.toList n i, none⟩)) ∧ ∃ nq, w' = w.drewN nq := by
  obtain ⟨cs, hb, hc0, hcr, hc5, hc6, hc7⟩ := h.blk
  have f1 := hb.cell (1 + i)
  have f5 := hb.cell 5
  have f6 := hb.cell 6
  rw [hcr i hid] at f1
  rw [hc5] at f5
  rw [hc6] at f6
  have hn := h.nn
  have hd := h.dd
  have hp := Cmp.pos_lt zs seed s.data.toList n i (by omega)
  obtain ⟨hh, hhh⟩ : ∃ hh, hh = Hash.key zs (Hash.rowSeed seed i) s.data.toList := ⟨_, rfl⟩
  have hkb : 0 ≤ hh ∧ hh < 18446744073709551616 := by
    rw [hhh]; unfold Hash.key; split
    · exact Hash.fin_bd _
    · omega
  have HR := hide (fun q => Hash.row_any zs h.zb _ 16 ct _ (w.drewN q) (h.tab.drewN q) seed h.sd.1 h.sd.2 (i : Int) (by omega) (by omega) s hs)
  rw [← hhh] at HR
  have HS := hide (fun q => Hash.slot_any hh (n : Int) hkb.1 hkb.2 (by omega) (by omega) (w.drewN q))
  have hsl : Hash.slot hh (n : Int) = (Cmp.pos zs seed s.data.toList n i : Nat) := by
    unfold Cmp.pos
    rw [← hhh]
    have : 0 ≤ Hash.slot hh (n : Int) := by
      unfold Hash.slot; split
      · omega
      · exact Int.emod_nonneg _ (by omega)
    omega
  rw [hsl] at HS
  generalize Cmp.pos zs seed s.data.toList n i = p at *
  have g0 : (0 : Int) ≤ (p : Int) := by omega
  have g1 : (p : Int) < (n : Int) := by omega
  have g2 : (i : Int) < 4 := by omega
  clear hb hc0 hcr hc5 hc6 hc7 hhh hsl hkb h
  go_enter Try.func51, Try.ntmps51
  go_wp2_with fail
  go_quiet ((first
    | (go_at_call 74; first | exact quiet_more (HR.out _) | exact quiet_add (HR.out _))
    | (go_at_call 73; first | exact quiet_left (HS.out _) | exact quiet_add_left (HS.out _))))
  go_wp2_with fail
  go_ret
  exact ⟨by simp, _, rfl⟩

section
variable {w w' : World} {lo hi g d n : Nat} {R : Cmp.Rows} {zs : List Int} {seed total : Int} {bs : Nat → Nat} {bt ct : Nat}
/-- the counter's cell -/
theorem Sk.cell (h : Sk w lo hi g d n R zs seed total bs bt ct) (i j : Nat) (hi' : i < d) (hj : j < n) :
    w.cell? ⟨bs i, j, none⟩ = some (.int .u64 (Cmp.cell R i j)) ∧ w.frozen? ⟨bs i, j, none⟩ = false := by
  have hb := h.rows i hi'
  refine ⟨?_, hb.frozen j⟩
  rw [hb.cell j]
  have hl := h.fine.2.1 i hi'
  unfold Cmp.cell
  simp [List.getD] at hl ⊢
  rw [List.getElem?_eq_getElem (by omega)]
  simp
theorem Sk.tot (h : Sk w lo hi g d n R zs seed total bs bt ct) : w.cell? ⟨g, 7, none⟩ = some (.int .u64 total) ∧ w.cell? ⟨g, 0, none⟩ = some (.int .i64 d) ∧ w.frozen? ⟨g, 7, none⟩ = false := by
  obtain ⟨cs, hb, hc0, hcr, hc5, hc6, hc7⟩ := h.blk
  exact ⟨by rw [hb.cell 7, hc7], by rw [hb.cell 0, hc0], hb.frozen 7⟩
theorem Sk.gne (h : Sk w lo hi g d n R zs seed total bs bt ct) (i : Nat) (hi' : i < d) : g ≠ bs i := by
  obtain ⟨cs, hb, _⟩ := h.blk
  exact hb.ne (h.rows i hi') (by decide)
theorem Sk.setTotal (h : Sk w lo hi g d n R zs seed total bs bt ct) (hg : g ≠ bt) (t2 : Int) (h0 : total ≤ t2) (h1 : t2 ≤ 9223372036854775808) : Sk (w.setCell ⟨g, 7, none⟩ (.int .u64 t2)) lo hi g d n R zs seed t2 bs bt ct := by
  have hgn := h.gne
  obtain ⟨⟨cs, hb, hc0, hcr, hc5, hc6, hc7⟩, h2, h3, h4, h5, h6, h7, h8, h9, h10, h11, h12, h13, h14, h15⟩ := h
  have hlt : 7 < cs.size := by
    rcases Nat.lt_or_ge 7 cs.size with h | h
    · exact h
    · rw [Array.getElem?_eq_none h] at hc7; cases hc7
  refine ⟨⟨_, hb.set 7 _, ?_, fun i hi' => ?_, ?_, ?_, ?_⟩, fun i hi' => (h2 i hi').far (fun e => hgn i hi' e.symm) _, ?_, h4, h5, h6, h7, h8, ⟨h9.1, h9.2.1, fun i j => ⟨(h9.2.2 i j).1, by have := (h9.2.2 i j).2; omega⟩⟩, h10, h11, h12, h13, h14, by omega⟩
  · rw [Array.getElem?_setIfInBounds]; simpa using hc0
  · rw [Array.getElem?_setIfInBounds, if_neg (by omega)]; exact hcr i hi'
  · rw [Array.getElem?_setIfInBounds]; simpa using hc5
  · rw [Array.getElem?_setIfInBounds]; simpa using hc6
  · rw [Array.getElem?_setIfInBounds]; simp [hlt]
  · have k : Keeps (· = g) w (w.setCell ⟨g, 7, none⟩ (.int .u64 t2)) := Keeps.setCell (S := (· = g)) (p := ⟨g, 7, none⟩) (Keeps.refl _ _) (.inl rfl) _
    refine ⟨h3.1, fun hn => ?_⟩
    obtain ⟨b, off, e, hb2, hcell⟩ := h3.2 hn
    injection e with e
    injection e with e1 e2
    subst e1 e2
    exact ⟨bt, 0, rfl, by have := k.size; omega, fun j u hu => k.cell_some (hcell j u hu) (fun e => hg e.symm)⟩
theorem Sk.put (h : Sk w lo hi g d n R zs seed total bs bt ct) (i j : Nat) (hi' : i < d) (v : Int) (hf : Cmp.Fine (Cmp.put R i j v) d n total) :
    Sk (w.setCell ⟨bs i, j, none⟩ (.int .u64 v)) lo hi g d n (Cmp.put R i j v) zs seed total bs bt ct := by
  have hgn := h.gne
  obtain ⟨⟨cs, hb, hc⟩, h2, h3, h4, h5, h6, h7, h8, h9, h10, h11, h12, h13, h14, h15⟩ := h
  refine ⟨⟨cs, hb.far (hgn i hi') _, hc⟩, fun m hm => ?_, ?_, h4, h5, h6, h7, h8, hf, h10, h11, h12, h13, h14, h15⟩
  · by_cases hmi : m = i
    · subst hmi
      have := (h2 m hm).set j (.int .u64 v)
      rw [Cmp.put_row, if_pos ⟨rfl, by have := h9.1; omega⟩]
      simpa [List.map_set] using this
    · rw [Cmp.put_row, if_neg (fun hh => hmi hh.1)]
      exact (h2 m hm).far (fun e => hmi (h5 m i hm hi' e)) _
  · have k : Keeps (· = bs i) w (w.setCell ⟨bs i, j, none⟩ (.int .u64 v)) := Keeps.setCell (S := (· = bs i)) (p := ⟨bs i, j, none⟩) (Keeps.refl _ _) (.inl rfl) _
    refine ⟨h3.1, fun hn => ?_⟩
    obtain ⟨b, off, e, hb2, hcell⟩ := h3.2 hn
    injection e with e
    injection e with e1 e2
    subst e1 e2
    exact ⟨bt, 0, rfl, by have := k.size; omega, fun j u hu => k.cell_some (hcell j u hu) (fun e => h4 i hi' e.symm)⟩
end

theorem total_any {w : World} {lo hi g d n : Nat} {R : Cmp.Rows} {zs : List Int} {seed total : Int} {bs : Nat → Nat} {bt ct : Nat} (h : Sk w lo hi g d n R zs seed total bs bt ct) :
    Calls Try.prog 20 #[.pointer (some ⟨g, 0, none⟩)] w fun e w' => e = .returned (.int .u64 total) ∧ w = w' := by
  obtain ⟨c7, c0, f7⟩ := h.tot
  clear h
  go_enter Try.func20, Try.ntmps20
  go_wp2_with fail
  go_ret
  exact ⟨rfl, rfl⟩

theorem estimate_any {w : World} {lo hi g d n : Nat} {R : Cmp.Rows} {zs : List Int} {seed total : Int} {bs : Nat → Nat} {bt ct : Nat} (h : Sk w lo hi g d n R zs seed total bs bt ct) (s : ByteArray) (hs : s.size ≤ 140737488351232) :
    Calls Try.prog 19 #[.pointer (some ⟨g, 0, none⟩), .string s] w fun e w' => e = .returned (.int .u64 (Cmp.least R zs seed s.data.toList d)) ∧ ∃ nq, w' = w.drewN nq := by
  have hd := h.dd
  have hn := h.nn
  have hc : ∀ i, i < d → ∃ p v, Cmp.pos zs seed s.data.toList n i = p ∧ w.cell? ⟨bs i, p, none⟩ = some (.int .u64 v) ∧ 0 ≤ v ∧ v ≤ Cmp.big ∧ Cmp.least R zs seed s.data.toList (i + 1) = min (Cmp.least R zs seed s.data.toList i) v := fun i hi => by
    have hp := Cmp.pos_lt zs seed s.data.toList n i (by omega)
    refine ⟨_, _, rfl, (h.cell i _ hi hp).1, (h.fine.2.2 _ _).1, Int.le_trans (h.fine.2.2 _ _).2 (by have := h.tt; unfold Cmp.big; omega), ?_⟩
    rw [Cmp.least, Cmp.val_of d n h.fine.2.1 (by omega) i hi]
  have HC := hide hc
  have hct := fun (i : Nat) (hi : i < d) (q : Nat) => counter_any (h.drewN q) i hi s hs
  have HCT := hide hct
  obtain ⟨c7, c0, f7⟩ := h.tot
  have hbig : Cmp.big = 18446744073709551615 := rfl
  have HBIG := hide hbig
  have hlb : ∀ k, Cmp.least R zs seed s.data.toList k ≤ Cmp.big := fun k => Cmp.least_big k
  have HLB := hide hlb
  clear hc h hct hbig hlb c7 f7
  go_enter Try.func19, Try.ntmps19
  go_wp2_with fail
  obtain ⟨p, v, hp, hv, v0, v1, hl⟩ := HC.out 0 (by omega)
  have H0 := HCT.out 0 (by omega) 0
  rw [hp] at H0
  have HL := hide hl
  have HH := hide H0
  clear hp hl H0
  refine HH.out.mono ?_
  rintro e w1 ⟨rfl, nq, rfl⟩
  go_wp2_with fail
  have hL1 : v = Cmp.least R zs seed s.data.toList 1 := by
    rw [HL.out]
    show v = min Cmp.big v
    omega
  go_loopw [5, 6] (fun x i wr => ∃ k : Nat, 1 ≤ k ∧ k ≤ d ∧ i = .int .i64 k ∧ x = .int .u64 (Cmp.least R zs seed s.data.toList k) ∧ ∃ nq, wr = w.drewN nq) (fun _ i _ => d - (intOf i).toNat)
  case atStart => exact ⟨1, by omega, by omega, rfl, by rw [hL1], nq, by simp⟩
  case round =>
    obtain ⟨k, hk1, hk, rfl, rfl, nq, rfl⟩ := hrel
    by_cases hlt : k < d
    · obtain ⟨p, v', hp, hv', v0', v1', hl⟩ := HC.out k hlt
      have H0 := HCT.out k hlt nq
      rw [hp] at H0
      have HL' := hide hl
      have HH' := hide H0
      clear hp hl H0 hL1
      generalize Cmp.least R zs seed s.data.toList k = x at *
      go_wp2_with fail
      refine HH'.out.mono ?_
      rintro e w1 ⟨rfl, nq2, rfl⟩
      go_wp2_with fail
      all_goals
        go_roundw
        case rel => exact ⟨k + 1, by omega, by omega, by go_num, by rw [HL'.out]; congr 1; omega, _, rfl⟩
        case measure => simp [intOf]; omega
    · go_wp2_with fail
      go_ret
      obtain rfl : k = d := by omega
      exact ⟨rfl, nq, rfl⟩
end Go.Proofs.Ytaiopdipldaimaa

set_option linter.unusedVariables false
set_option linter.unusedSimpArgs false
namespace Go.Proofs.Ytaiopdipldaimaa
open Go.RowKit

theorem empty_of {s : ByteArray} (h : s.data.toList = []) : s = ByteArray.empty := by
  obtain ⟨⟨l⟩⟩ := s
  simp at h
  subst h
  rfl
/-- what an addition leaves -/
def Added (w : World) (lo hi g d n : Nat) (R : Cmp.Rows) (zs : List Int) (seed total : Int) (bs : Nat → Nat) (bt ct : Nat) (k : List UInt8) (wt : Int) (e : Ending) (w' : World) : Prop :=
  e = .returned (.int .i64 (Cmp.addE k wt total)) ∧ Keeps (fun b => lo ≤ b ∧ b < hi) w w' ∧
    Sk w' lo hi g d n (if Cmp.addE k wt total = 0 then Cmp.raise R zs seed k (Cmp.least R zs seed k d + wt) d else R) zs seed (if Cmp.addE k wt total = 0 then total + wt else total) bs bt ct

set_option maxHeartbeats 1000000 in
theorem add_any {w : World} {lo hi g d n : Nat} {R : Cmp.Rows} {zs : List Int} {seed total : Int} {bs : Nat → Nat} {bt ct : Nat} (h : Sk w lo hi g d n R zs seed total bs bt ct) (hgt : g ≠ bt) (s : ByteArray) (hs : s.size ≤ 140737488351232)
    (wt : Int) (w0 : 0 ≤ wt) (w1 : wt < 18446744073709551616) :
    Calls Try.prog 18 #[.pointer (some ⟨g, 0, none⟩), .string s, .int .u64 wt] w (Added w lo hi g d n R zs seed total bs bt ct s.data.toList wt) := by
  by_cases hk : s.data.toList = []
  · have hE : Hid (Added w lo hi g d n R zs seed total bs bt ct s.data.toList wt (.returned (.int .i64 3)) w) := by
      have : Cmp.addE s.data.toList wt total = 3 := by unfold Cmp.addE; rw [if_pos hk]
      unfold Added
      rw [this]
      exact ⟨rfl, Keeps.refl _ _, by simpa using h⟩
    obtain rfl := empty_of hk
    clear h hk
    go_enter Try.func18, Try.ntmps18
    go_wp2_with fail
    go_ret
    exact hE.out
  have hne1 : s.toList.isEmpty = false := by
    rw [ByteArray.toList_eq]; simpa using hk
  by_cases hw : wt = 0
  · have hE : Hid (Added w lo hi g d n R zs seed total bs bt ct s.data.toList wt (.returned (.int .i64 1)) w) := by
      have : Cmp.addE s.data.toList wt total = 1 := by unfold Cmp.addE; rw [if_neg hk, if_pos hw]
      unfold Added
      rw [this]
      exact ⟨rfl, Keeps.refl _ _, by simpa using h⟩
    have hk' := hide hk
    subst hw
    clear h hk
    go_enter Try.func18, Try.ntmps18
    go_wp2_with fail
    go_ret
    exact hE.out
  have hw1' : ((wt : Int) == 0) = false := by simpa using hw
  have hd := h.dd
  have hn := h.nn
  have htt := h.tt
  obtain ⟨c7, c0, f7⟩ := h.tot
  have HS := hide h
  by_cases hov : total + wt ≤ 9223372036854775808
  · have hfit : Sat.fits total wt = true := by unfold Sat.fits; exact decide_eq_true hov
    have HF := hide (fun W => Sat.fits_any total wt (by omega) (by omega) (by omega) (by omega) W)
    rw [hfit] at HF
    have hE : Hid (Cmp.addE s.data.toList wt total = 0) := by show _ = _; unfold Cmp.addE; rw [if_neg hk, if_neg hw, if_pos hov]
    have hS1 := h.setTotal hgt (total + wt) (by omega) hov
    have hlb := Cmp.least_bd (t := zs) (seed := seed) (k := s.data.toList) h.fine (by omega) (by omega)
    obtain ⟨W1, hW1⟩ : ∃ W1, W1 = w.setCell ⟨g, 7, none⟩ (.int .u64 (total + wt)) := ⟨_, rfl⟩
    rw [← hW1] at hS1
    have k1 : Keeps (fun b => lo ≤ b ∧ b < hi) w W1 := by rw [hW1]; exact Keeps.setCell (S := fun b => lo ≤ b ∧ b < hi) (p := ⟨g, 7, none⟩) (Keeps.refl _ _) (.inl h.lo_g) _
    have HEST := hide (estimate_any hS1 s hs)
    have hfine := fun i (hi : i ≤ d) => Cmp.fine_raise (t := zs) (seed := seed) (k := s.data.toList) h.fine (by omega) (by omega) w0 i hi
    have hval := fun i (hi : i < d) => Cmp.val_of (R := R) (t := zs) (seed := seed) (k := s.data.toList) d n h.fine.2.1 (by omega) i hi
    obtain ⟨est, hest⟩ : ∃ est, est = Cmp.least R zs seed s.data.toList d := ⟨_, rfl⟩
    rw [← hest] at HEST hlb hfine
    have HEQ := hide hest
    have HW := hide hW1
    have HS1 := hide hS1
    have HK1 := hide k1
    have HFI := hide hfine
    have HV := hide hval
    have HKK := hide hk
    have wb : 0 ≤ total + wt := by omega
    clear hS1 k1 hfine hval h hest hfit hk hw hW1
    go_enter Try.func18, Try.ntmps18
    go_wp2_with fail
    refine (HF.out _).mono ?_
    rintro e w2 ⟨rfl, rfl⟩
    go_wp2_with fail
    rw [← HW.out]
    refine HEST.out.mono ?_
    rintro e w2 ⟨rfl, nq, rfl⟩
    have HS2 := hide (HS1.out.drewN nq)
    have HK2 := hide (HK1.out.drewN nq)
    obtain ⟨d7, d0, e7⟩ := HS2.out.tot
    obtain ⟨W2, hW2⟩ : ∃ W2, W2 = W1.drewN nq := ⟨_, rfl⟩
    rw [← hW2] at HS2 HK2 d7 d0 e7 ⊢
    clear hW2 c7 c0 f7 HS1 HK1 HEST HW HF HS
    go_wp2_with fail
    go_loopw [44] (fun i wr => ∃ k : Nat, k ≤ d ∧ i = .int .i64 k ∧ Sk wr lo hi g d n (Cmp.raise R zs seed s.data.toList (est + wt) k) zs seed (total + wt) bs bt ct ∧ Keeps (fun b => lo ≤ b ∧ b < hi) w wr) (fun i _ => d - (intOf i).toNat)
    case atStart => exact ⟨0, by omega, rfl, HS2.out, HK2.out⟩
    case round =>
      obtain ⟨k, hk, rfl, sk, kp⟩ := hrel
      by_cases hlt : k < d
      · have HC := hide (counter_any sk k hlt s hs)
        have hp := Cmp.pos_lt zs seed s.data.toList n k (by omega)
        have hrl := sk.fine.2.1 k hlt
        have hv := HV.out k hlt
        have hrg := Cmp.raise_row_ge (R := R) (t := zs) (seed := seed) (k := s.data.toList) (v := est + wt) k k (Nat.le_refl _)
        have hcell : Cmp.cell (Cmp.raise R zs seed s.data.toList (est + wt) k) k (Cmp.pos zs seed s.data.toList n k) = Cmp.val R zs seed s.data.toList k := by
          rw [hv]; unfold Cmp.cell; rw [hrg]
        have hRl : (R.getD k []).length = n := by rw [← hrg]; exact hrl
        have hput : Cmp.raise R zs seed s.data.toList (est + wt) (k + 1) = Cmp.put (Cmp.raise R zs seed s.data.toList (est + wt) k) k (Cmp.pos zs seed s.data.toList n k) (max (Cmp.val R zs seed s.data.toList k) (est + wt)) := by
          rw [Cmp.raise, hRl]
        obtain ⟨c1, f1⟩ := sk.cell k _ hlt hp
        rw [hcell] at c1
        have hf := HFI.out (k + 1) hlt
        rw [hput] at hf
        have HP := hide (fun q v (hv : v = max (Cmp.val R zs seed s.data.toList k) (est + wt)) => (sk.drewN q).put k (Cmp.pos zs seed s.data.toList n k) hlt v (by rw [hv]; exact hf))
        have HPUT := hide hput
        have hsb := sk.lo_r k hlt
        have HKP := hide kp
        generalize Cmp.pos zs seed s.data.toList n k = p at *
        generalize Cmp.val R zs seed s.data.toList k = x at *
        clear sk kp hp hrl hv hrg hcell hRl hput hf d7 d0 e7
        go_wp2_with fail
        refine HC.out.mono ?_
        rintro e w3 ⟨rfl, nq, rfl⟩
        go_wp2_with fail
        all_goals
          go_roundw
          case rel => exact ⟨k + 1, by omega, by go_num, by rw [HPUT.out, ← show (if x < est + wt then est + wt else x) = max x (est + wt) from by split <;> omega]; exact HP.out nq _ (by split <;> omega), Keeps.setCell (p := ⟨bs k, p, none⟩) (HKP.out.drewN nq) (.inl hsb) _⟩
          case measure => simp [intOf]; omega
      · go_wp2_with fail
        go_ret
        obtain rfl : k = d := by omega
        refine ⟨by rw [hE.out]; rfl, kp, ?_⟩
        rw [hE.out, if_pos rfl, if_pos rfl, ← HEQ.out]
        exact sk
  · have hfit : Sat.fits total wt = false := by unfold Sat.fits; exact decide_eq_false hov
    have HF := hide (fun W => Sat.fits_any total wt (by omega) (by omega) (by omega) (by omega) W)
    rw [hfit] at HF
    have hE : Hid (Added w lo hi g d n R zs seed total bs bt ct s.data.toList wt (.returned (.int .i64 12)) w) := by
      have : Cmp.addE s.data.toList wt total = 12 := by unfold Cmp.addE; rw [if_neg hk, if_neg hw, if_neg hov]
      unfold Added
      rw [this]
      exact ⟨rfl, Keeps.refl _ _, by simpa using h⟩
    have HKK := hide hk
    clear h hk hw hfit
    go_enter Try.func18, Try.ntmps18
    go_wp2_with fail
    refine (HF.out _).mono ?_
    rintro e w2 ⟨rfl, rfl⟩
    go_wp2_with fail
    go_ret
    exact hE.out
end Go.Proofs.Ytaiopdipldaimaa

set_option linter.unusedVariables false
set_option linter.unusedSimpArgs false
namespace Go.Proofs.Ytaiopdipldaimaa
open Go.RowKit

theorem elem64 : ElemOf Try.prog 31 24 1 8 := ElemOf.mk' (z := .int .u64 0) Try.underlying31 (by kernel_rfl) rfl (by omega)
theorem run_make64 (n : Nat) (hn : n ≤ 65536) (w : World) : (Instr.makeSlice 31 (.int .i64 (n : Int)) (.int .i64 (n : Int))).run Try.prog w = .ok (.slice (some ⟨w.heap.size, 0, none⟩) n n) (w.alloc (.cells (List.replicate n (.int .u64 0)).toArray 24)) := by
  have hi : (Try.prog.info? 24).map (fun i => (i.zero, i.size, i.bytes)) = some (some (.int .u64 0), 1, 8) := by kernel_rfl
  obtain ⟨i, h1, h2, h3, h4⟩ := info_parts hi
  have hr := run_make (P := Try.prog) w 31 24 i (.int .u64 0) Try.underlying31 h1 h2 .i64 .i64 (n : Int) (n : Int) (by omega) (by omega) (by rw [h4]; omega) (by omega)
  rw [hr, Int.toNat_natCast, h3, Nat.mul_one]
  have : madeCells (Value.int .u64 0).cells n = (List.replicate n (Value.int .u64 0)).toArray := by
    apply Array.ext'
    rw [show (Value.int .u64 0).cells = #[Value.int .u64 0] from rfl]
    refine List.ext_getElem (by simp [madeCells]) (fun j h1 h2 => ?_)
    simp [madeCells, Nat.mod_one]
  rw [this]

/-- what Clone leaves -/
def Cloned (w : World) (n : Nat) (xs : List Value) (e : Ending) (w' : World) : Prop :=
  ∃ A' c', e = .returned (.slice A' n c') ∧ Own w' w.heap.size 24 1 A' n c' xs ∧ Keeps (fun _ => False) w w'
set_option maxRecDepth 100000 in
theorem clone_any {w : World} {B : Nat} {A : Option Addr} {n c : Nat} {zs : List Int} (hr : Rd w B A 1 n (zs.map (.int .u64))) (hn : n ≤ 1099511627776) :
    Calls Try.prog 47 #[.slice A n c] w (Cloned w n (zs.map (.int .u64))) := by
  cases A with
  | none =>
    obtain rfl : n = 0 := by
      rcases Nat.eq_zero_or_pos n with h | h
      · exact h
      · obtain ⟨b, off, e, _⟩ := hr.2 h; cases e
    obtain rfl : zs = [] := List.eq_nil_of_length_eq_zero (by simpa using hr.1)
    clear hr
    have heq := fun w => Lib.run_eql_slice_nil (P := Try.prog) w 31 24 none 0 c 0 0 Try.underlying31
    go_enter Try.func47, Try.ntmps47
    go_wp2_with fail
    go_ret
    exact ⟨none, 0, rfl, Own.nil _ _ _ _, Keeps.refl _ _⟩
  | some ad =>
    have HR := hide hr
    clear hr
    have heq := fun w => Lib.run_eql_slice_nil (P := Try.prog) w 31 24 (some ad) n c 0 0 Try.underlying31
    go_enter Try.func47, Try.ntmps47
    go_wp2_with (at_builtin; refine wpList_app _ elem64 rfl _ _ rfl w.heap.size _ rfl (Own.new0 _ _ 24 1 _ (by simp) (by omega)) _ (m := n) _ rfl (HR.out.kept ((Keeps.refl (fun _ => False) w).alloc _) (fun _ _ h => h)) (by intro u hu; simp at hu; obtain ⟨z, _, rfl⟩ := hu; rfl) (by simp [maxLen]; omega) (by omega) (by simp) ?_; intro A5 c5 w5 o5 k5 hA5; rw [Nat.zero_add, List.nil_append] at o5; have O5 := hide o5; have K5 := hide k5; clear o5 k5 hA5)
    go_ret
    exact ⟨A5, c5, rfl, O5.out, ((Keeps.refl _ w).alloc _).step K5.out (fun k hk h => by have := (inB_some _ _ _).1 h; omega)⟩

/-- the error of a new sketch -/
def newE (depth width : Int) (tl : Nat) : Int := if depth < 1 ∨ 4 < depth ∨ width < 1 ∨ 256 < width then 1 else if tl = 16 then 0 else 11
theorem new_bad {w : World} {A : Option Addr} {n c : Nat} (depth width seed : Int) (d0 : -9223372036854775808 ≤ depth) (d1 : depth < 9223372036854775808) (h : newE depth width n ≠ 0) :
    Calls Try.prog 15 #[.int .i64 depth, .int .i64 width, .slice A n c, .int .u64 seed] w fun e w' => e = .returned (.tuple #[.pointer none, .int .i64 (newE depth width n)]) ∧ w = w' := by
  by_cases hr : depth < 1 ∨ 4 < depth ∨ width < 1 ∨ 256 < width
  · have hE : Hid (newE depth width n = 1) := by show _ = _; unfold newE; rw [if_pos hr]
    rw [hE.out]
    clear h
    by_cases h1 : depth < 1
    · go_enter Try.func15, Try.ntmps15
      go_wp2_with fail
      go_ret2
      exact ⟨rfl, rfl⟩
    by_cases h2 : 4 < depth
    · go_enter Try.func15, Try.ntmps15
      go_wp2_with fail
      go_ret2
      exact ⟨rfl, rfl⟩
    by_cases h3 : width < 1
    · go_enter Try.func15, Try.ntmps15
      go_wp2_with fail
      go_ret2
      exact ⟨rfl, rfl⟩
    have h4 : 256 < width := by omega
    go_enter Try.func15, Try.ntmps15
    go_wp2_with fail
    go_ret2
    exact ⟨rfl, rfl⟩
  · have hn : n ≠ 16 := fun hn => h (by unfold newE; rw [if_neg hr, if_pos hn])
    have hE : Hid (newE depth width n = 11) := by show _ = _; unfold newE; rw [if_neg hr, if_neg hn]
    rw [hE.out]
    have h1 : 1 ≤ depth := by omega
    have h2 : depth ≤ 4 := by omega
    have h3 : 1 ≤ width := by omega
    have h4 : width ≤ 256 := by omega
    have HC := hide (fun w => Hash.check_not A n c hn w)
    clear h hr hn
    go_enter Try.func15, Try.ntmps15
    go_wp2_with fail
    refine (HC.out _).mono ?_
    rintro e w2 ⟨rfl, rfl⟩
    go_wp2_with fail
    go_ret2
    exact ⟨rfl, rfl⟩
/-- what New leaves: a sketch in new blocks -/
def Newed (w : World) (d n : Nat) (zs : List Int) (seed : Int) (e : Ending) (w' : World) : Prop :=
  ∃ (g : Nat) (bs : Nat → Nat) (bt ct : Nat), e = .returned (.tuple #[.pointer (some ⟨g, 0, none⟩), .int .i64 0]) ∧ Sk w' w.heap.size w'.heap.size g d n (Cmp.news d n) zs seed 0 bs bt ct ∧ g ≠ bt ∧ Keeps (fun _ => False) w w'
/-- while the rows are made -/
def NRel (w : World) (d n : Nat) (zs : List Int) (seed : Int) (g bt ct k : Nat) (wr : World) : Prop :=
  ∃ (cs : Array Value) (bs : Nat → Nat), Blk wr g 93 cs ∧ cs.size = 8 ∧ cs[0]? = some (.int .i64 d) ∧ (∀ i, i < k → cs[1 + i]? = some (.slice (some ⟨bs i, 0, none⟩) n n)) ∧
    cs[5]? = some (.slice (some ⟨bt, 0, none⟩) 16 ct) ∧ cs[6]? = some (.int .u64 seed) ∧ cs[7]? = some (.int .u64 0) ∧ (∀ i, i < k → Blk wr (bs i) 24 (List.replicate n (.int .u64 0)).toArray ∧ g < bs i ∧ bs i < wr.heap.size) ∧
    (∀ i j, i < k → j < k → bs i = bs j → i = j) ∧ Rd wr g (some ⟨bt, 0, none⟩) 1 16 (zs.map (.int .u64)) ∧ w.heap.size ≤ bt ∧ bt < g ∧ g < wr.heap.size ∧ Keeps (fun _ => False) w wr
theorem NRel.step {w wr : World} {d n : Nat} {zs : List Int} {seed : Int} {g bt ct k : Nat} (hk : k < 4) (hwg : w.heap.size ≤ g) (h : NRel w d n zs seed g bt ct k wr) :
    NRel w d n zs seed g bt ct (k + 1) (((wr.setCell ⟨g, 1 + k, none⟩ (.slice (some ⟨wr.heap.size, 0, none⟩) n n)).alloc (.cells (Array.replicate n (.int .u64 0)) 24)).drew) := by
  obtain ⟨cs, bs, h1, h2, h3, h4, h5, h6, h7, h8, h9, h10, h11, h12, h13, h14⟩ := h
  have kS : Keeps (· = g) wr (wr.setCell ⟨g, 1 + k, none⟩ (.slice (some ⟨wr.heap.size, 0, none⟩) n n)) := Keeps.setCell (S := (· = g)) (p := ⟨g, 1 + k, none⟩) (Keeps.refl _ _) (.inl rfl) _
  have kA : Keeps (fun _ => False) (wr.setCell ⟨g, 1 + k, none⟩ (.slice (some ⟨wr.heap.size, 0, none⟩) n n)) (((wr.setCell ⟨g, 1 + k, none⟩ (.slice (some ⟨wr.heap.size, 0, none⟩) n n)).alloc (.cells (Array.replicate n (.int .u64 0)) 24)).drew) := ((Keeps.refl _ _).alloc _).drew
  have hs0 : (wr.setCell ⟨g, 1 + k, none⟩ (.slice (some ⟨wr.heap.size, 0, none⟩) n n)).heap.size = wr.heap.size := by simp [World.setCell]
  have hs1 : (((wr.setCell ⟨g, 1 + k, none⟩ (.slice (some ⟨wr.heap.size, 0, none⟩) n n)).alloc (.cells (Array.replicate n (.int .u64 0)) 24)).drew).heap.size = wr.heap.size + 1 := by show ((wr.setCell ⟨g, 1 + k, none⟩ (.slice (some ⟨wr.heap.size, 0, none⟩) n n)).alloc _).heap.size = _; rw [World.size_alloc, hs0]
  refine ⟨_, fun j => if j = k then wr.heap.size else bs j, ((h1.set (1 + k) _).alloc _).drew, by simpa using h2, ?_, ?_, ?_, ?_, ?_, ?_, ?_, ?_, h11, h12, by rw [hs1]; omega, ?_⟩
  · rw [Array.getElem?_setIfInBounds, if_neg (by omega)]; exact h3
  · intro i hi
    rw [Array.getElem?_setIfInBounds]
    by_cases hik : i = k
    · subst hik; simp; omega
    · rw [if_neg (by omega)]; simp only [if_neg hik]; exact h4 i (by omega)
  · rw [Array.getElem?_setIfInBounds, if_neg (by omega)]; exact h5
  · rw [Array.getElem?_setIfInBounds, if_neg (by omega)]; exact h6
  · rw [Array.getElem?_setIfInBounds, if_neg (by omega)]; exact h7
  · intro i hi
    rw [hs1]
    by_cases hik : i = k
    · subst hik
      simp only [if_true]
      refine ⟨?_, by omega, by omega⟩
      have := (Blk.new_at (wr.setCell ⟨g, 1 + i, none⟩ (.slice (some ⟨wr.heap.size, 0, none⟩) n n)) 24 (Array.replicate n (.int .u64 0)) wr.heap.size hs0.symm).drew
      simpa using this
    · simp only [if_neg hik]
      obtain ⟨g1, g2, g3⟩ := h8 i (by omega)
      exact ⟨(g1.kept kS (by omega)).kept kA (fun h => h), g2, by omega⟩
  · intro i j hi hj he
    by_cases hik : i = k <;> by_cases hjk : j = k
    · omega
    · simp only [hik, if_true, if_neg hjk] at he
      have := (h8 j (by omega)).2.2
      omega
    · simp only [hjk, if_true, if_neg hik] at he
      have := (h8 i (by omega)).2.2
      omega
    · simp only [if_neg hik, if_neg hjk] at he
      exact h9 i j (by omega) (by omega) he
  · exact (h10.kept kS (fun b hb e => by omega)).kept kA (fun _ _ h => h)
  · exact (h14.step kS (fun b hb e => by omega)).trans kA
theorem NRel.done {w wr : World} {d n : Nat} {zs : List Int} {seed : Int} {g bt ct : Nat} (hd : 1 ≤ d ∧ d ≤ 4) (hn : 1 ≤ n ∧ n ≤ 256) (s0 : 0 ≤ seed) (s1 : seed < 18446744073709551616) (hz : zs.length = 16) (hzb : ∀ z ∈ zs, 0 ≤ z ∧ z < 18446744073709551616)
    (hwg : w.heap.size ≤ g) (h : NRel w d n zs seed g bt ct d wr) : Newed w d n zs seed (.returned (.tuple #[.pointer (some ⟨g, 0, none⟩), .int .i64 0])) wr := by
  obtain ⟨cs, bs, h1, h2, h3, h4, h5, h6, h7, h8, h9, h10, h11, h12, h13, h14⟩ := h
  refine ⟨g, bs, bt, ct, rfl, ⟨⟨cs, h1, h3, h4, h5, h6, h7⟩, fun i hi => ?_, h10.more (by omega), fun i hi => by have := (h8 i hi).2.1; omega, h9, ⟨hwg, h13⟩, fun i hi => ⟨by have := (h8 i hi).2.1; omega, (h8 i hi).2.2⟩, ⟨h11, by omega⟩, Cmp.fine_news d n, hz, hzb, ⟨s0, s1⟩, hd, hn, ⟨by omega, by omega⟩⟩, by omega, h14⟩
  have := (h8 i hi).1
  have e : (Cmp.news d n).getD i [] = List.replicate n 0 := by simp [Cmp.news, List.getD, hi]
  rw [e, List.map_replicate]
  exact this

set_option maxHeartbeats 1000000 in
theorem new_ok {w : World} {B : Nat} {A : Option Addr} {c : Nat} (d n : Nat) (hd : 1 ≤ d ∧ d ≤ 4) (hn : 1 ≤ n ∧ n ≤ 256) (seed : Int) (s0 : 0 ≤ seed) (s1 : seed < 18446744073709551616) (zs : List Int) (hzb : ∀ z ∈ zs, 0 ≤ z ∧ z < 18446744073709551616)
    (hr : Rd w B A 1 16 (zs.map (.int .u64))) :
    Calls Try.prog 15 #[.int .i64 d, .int .i64 n, .slice A 16 c, .int .u64 seed] w (Newed w d n zs seed) := by
  have HC := hide (fun w => Hash.check_16 A c w)
  have HCL := hide (clone_any (c := c) hr (by omega))
  have hzl : zs.length = 16 := by simpa using hr.1
  have HZL := hide hzl
  have HZB := hide hzb
  have hmk := fun w => run_make64 n (by omega) w
  clear hr hzl hzb
  go_enter Try.func15, Try.ntmps15
  go_wp2_with fail
  refine (HC.out _).mono ?_
  rintro e w2 ⟨rfl, rfl⟩
  go_wp2_with fail
  refine HCL.out.mono ?_
  rintro e w1 ⟨A1, c1, rfl, o1, k1⟩
  obtain ⟨bt, rfl, hbt, hbt'⟩ := o1.some_ (by omega)
  have RT := hide (o1.rd (by omega))
  have K1 := hide k1
  clear o1 k1
  go_wp2_with fail
  have hsz := K1.out.size
  have hN : NRel w d n zs seed w1.heap.size bt c1 0 (w1.alloc (.cells #[.int .i64 d, .slice none 0 0, .slice none 0 0, .slice none 0 0, .slice none 0 0, .slice (some ⟨bt, 0, none⟩) 16 c1, .int .u64 seed, .int .u64 0] 93)) :=
    ⟨_, fun _ => 0, Blk.new _ _ _, rfl, rfl, fun i hi => by omega, rfl, rfl, rfl, fun i hi => by omega, fun i j hi hj _ => by omega, RT.out.kept ((Keeps.refl (fun _ => False) w1).alloc _) (fun _ _ h => h), hbt, hbt', by simp, K1.out.alloc _⟩
  go_loopw [39] (fun i wr => ∃ k : Nat, k ≤ d ∧ i = .int .i64 k ∧ NRel w d n zs seed w1.heap.size bt c1 k wr) (fun i _ => d - (intOf i).toNat)
  case atStart => exact ⟨0, by omega, rfl, hN⟩
  case round =>
    obtain ⟨k, hk, rfl, hr⟩ := hrel
    clear hN
    by_cases hlt : k < d
    · have hstep := NRel.step (by omega) hsz hr
      obtain ⟨cs, bs, h1, h2, _⟩ := hr
      have f1 := h1.frozen (1 + k)
      have c1' := h1.cell (1 + k)
      rw [Array.getElem?_eq_getElem (by omega)] at c1'
      generalize cs[1 + k]'(by omega) = v at *
      have hg := h1.lt
      have HSTEP := hide hstep
      have hkI : (k : Int) < 4 := by omega
      have hk0 : (0 : Int) ≤ (k : Int) := by omega
      clear h1 h2 hstep
      go_wp2_with fail
      go_region
      go_wp2_with fail
      go_roundw
      case rel => exact ⟨k + 1, by omega, by go_num, HSTEP.out⟩
      case measure => simp [intOf]; omega
    · obtain rfl : k = d := by omega
      go_wp2_with fail
      go_ret2
      exact hr.done hd hn s0 s1 HZL.out HZB.out hsz
end Go.Proofs.Ytaiopdipldaimaa
