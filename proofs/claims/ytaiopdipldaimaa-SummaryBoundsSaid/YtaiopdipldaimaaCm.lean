/-
  Package countmin, each function by its contract.
-/
import Derived.Test.YtaiopdipldaimaaCmp
import Derived.Test.YtaiopdipldaimaaSat
import Derived.Test.YtaiopdipldaimaaMem2
set_option linter.unusedVariables false
set_option linter.unusedSimpArgs false
namespace Go.Proofs.Ytaiopdipldaimaa
open Go.RowKit

/-- Block g holds a sketch; its memory lies in the blocks from lo to hi - 1: row i in block bs i, the table in block bt. -/
structure Sk (w : World) (lo hi g d n : Nat) (R : Cmp.Rows) (zs : List Int) (seed total : Int) (bs : Nat → Nat) (bt ct : Nat) : Prop where
  blk : ∃ cs : Array Value, Blk w g 93 cs ∧ cs[0]? = some (.int .i64 d) ∧ (∀ i, i < d → cs[1 + i]? = some (.slice (some ⟨bs i, 0, none⟩) n n)) ∧
    cs[5]? = some (.slice (some ⟨bt, 0, none⟩) 16 ct) ∧ cs[6]? = some (.int .u64 seed) ∧ cs[7]? = some (.int .u64 total)
  rows : ∀ i, i < d → Blk w (bs i) 24 ((R.getD i []).map (.int .u64)).toArray
  tab : Rd w w.heap.size (some ⟨bt, 0, none⟩) 1 16 (zs.map (.int .u64))
  tabne : ∀ i, i < d → bs i ≠ bt
  inj : ∀ i j, i < d → j < d → bs i = bs j → i = j
  lo_g : lo ≤ g ∧ g < hi
  lo_r : ∀ i, i < d → lo ≤ bs i ∧ bs i < hi
  lo_t : lo ≤ bt ∧ bt < hi
  fine : Cmp.Fine R d n total
  zl : zs.length = 16
  zb : ∀ z ∈ zs, 0 ≤ z ∧ z < 18446744073709551616
  sd : 0 ≤ seed ∧ seed < 18446744073709551616
  dd : 1 ≤ d ∧ d ≤ 4
  nn : 1 ≤ n ∧ n ≤ 256
  tt : 0 ≤ total ∧ total ≤ 9223372036854775808
section
variable {w w' : World} {lo hi g d n : Nat} {R : Cmp.Rows} {zs : List Int} {seed total : Int} {bs : Nat → Nat} {bt ct : Nat}
theorem Sk.kept {S : Nat → Prop} (h : Sk w lo hi g d n R zs seed total bs bt ct) (k : Keeps S w w') (hs : ∀ b, lo ≤ b → b < hi → ¬ S b) : Sk w' lo hi g d n R zs seed total bs bt ct := by
  obtain ⟨⟨cs, hb, hc⟩, h2, h3, h4, h5, h6, h7, h8, h9, h10, h11, h12, h13, h14, h15⟩ := h
  refine ⟨⟨cs, hb.kept k (hs _ h6.1 h6.2), hc⟩, fun i hi => (h2 i hi).kept k (hs _ (h7 i hi).1 (h7 i hi).2), ?_, h4, h5, h6, h7, h8, h9, h10, h11, h12, h13, h14, h15⟩
  refine ⟨h3.1, fun hn => ?_⟩
  obtain ⟨b, off, e, hb2, hcell⟩ := h3.2 hn
  injection e with e
  injection e with e1 e2
  subst e1 e2
  exact ⟨bt, 0, rfl, by have := k.size; omega, fun j u hu => k.cell_some (hcell j u hu) (hs _ h8.1 h8.2)⟩
theorem Sk.drewN (h : Sk w lo hi g d n R zs seed total bs bt ct) (k : Nat) : Sk (w.drewN k) lo hi g d n R zs seed total bs bt ct := h.kept (S := fun _ => False) ((Keeps.refl _ _).drewN k) (fun _ _ _ hh => hh)
end

theorem counter_any {w : World} {lo hi g d n : Nat} {R : Cmp.Rows} {zs : List Int} {seed total : Int} {bs : Nat → Nat} {bt ct : Nat} (h : Sk w lo hi g d n R zs seed total bs bt ct) (i : Nat) (hid : i < d) (s : ByteArray) (hs : s.size ≤ 140737488351232) :
    Calls Try.prog 51 #[.pointer (some ⟨g, 0, none⟩), .int .i64 i, .string s] w fun e w' => e = .returned (.pointer (some ⟨bs i, Cmp.pos zs seed s.data.toList n i, none⟩)) ∧ ∃ nq, w' = w.drewN nq := by
  obtain ⟨cs, hb, hc0, hcr, hc5, hc6, hc7⟩ := h.blk
  have f1 := hb.cell (1 + i)
  have f5 := hb.cell 5
  have f6 := hb.cell 6
  rw [hcr i hid] at f1
  rw [hc5] at f5
  rw [hc6] at f6
  have hn := h.nn
  have hd := h.dd
  have hp := Cmp.pos_lt zs seed s.data.toList n i (by omega)
  obtain ⟨hh, hhh⟩ : ∃ hh, hh = Hash.key zs (Hash.rowSeed seed i) s.data.toList := ⟨_, rfl⟩
  have hkb : 0 ≤ hh ∧ hh < 18446744073709551616 := by
    rw [hhh]; unfold Hash.key; split
    · exact Hash.fin_bd _
    · omega
  have HR := hide (fun q => Hash.row_any zs h.zb _ 16 ct _ (w.drewN q) (h.tab.drewN q) seed h.sd.1 h.sd.2 (i : Int) (by omega) (by omega) s hs)
  rw [← hhh] at HR
  have HS := hide (fun q => Hash.slot_any hh (n : Int) hkb.1 hkb.2 (by omega) (by omega) (w.drewN q))
  have hsl : Hash.slot hh (n : Int) = (Cmp.pos zs seed s.data.toList n i : Nat) := by
    unfold Cmp.pos
    rw [← hhh]
    have : 0 ≤ Hash.slot hh (n : Int) := by
      unfold Hash.slot; split
      · omega
      · exact Int.emod_nonneg _ (by omega)
    omega
  rw [hsl] at HS
  generalize Cmp.pos zs seed s.data.toList n i = p at *
  have g0 : (0 : Int) ≤ (p : Int) := by omega
  have g1 : (p : Int) < (n : Int) := by omega
  have g2 : (i : Int) < 4 := by omega
  clear hb hc0 hcr hc5 hc6 hc7 hhh hsl hkb h
  go_enter Try.func51, Try.ntmps51
  go_wp2_with fail
  go_quiet ((first
    | (go_at_call 74; first | exact quiet_more (HR.out _) | exact quiet_add (HR.out _))
    | (go_at_call 73; first | exact quiet_left (HS.out _) | exact quiet_add_left (HS.out _))))
  go_wp2_with fail
  go_ret
  exact ⟨by simp, _, rfl⟩

section
variable {w w' : World} {lo hi g d n : Nat} {R : Cmp.Rows} {zs : List Int} {seed total : Int} {bs : Nat → Nat} {bt ct : Nat}
/-- the counter's cell -/
theorem Sk.cell (h : Sk w lo hi g d n R zs seed total bs bt ct) (i j : Nat) (hi' : i < d) (hj : j < n) :
    w.cell? ⟨bs i, j, none⟩ = some (.int .u64 (Cmp.cell R i j)) ∧ w.frozen? ⟨bs i, j, none⟩ = false := by
  have hb := h.rows i hi'
  refine ⟨?_, hb.frozen j⟩
  rw [hb.cell j]
  have hl := h.fine.2.1 i hi'
  unfold Cmp.cell
  simp [List.getD] at hl ⊢
  rw [List.getElem?_eq_getElem (by omega)]
  simp
theorem Sk.tot (h : Sk w lo hi g d n R zs seed total bs bt ct) : w.cell? ⟨g, 7, none⟩ = some (.int .u64 total) ∧ w.cell? ⟨g, 0, none⟩ = some (.int .i64 d) ∧ w.frozen? ⟨g, 7, none⟩ = false := by
  obtain ⟨cs, hb, hc0, hcr, hc5, hc6, hc7⟩ := h.blk
  exact ⟨by rw [hb.cell 7, hc7], by rw [hb.cell 0, hc0], hb.frozen 7⟩
theorem Sk.gne (h : Sk w lo hi g d n R zs seed total bs bt ct) (i : Nat) (hi' : i < d) : g ≠ bs i := by
  obtain ⟨cs, hb, _⟩ := h.blk
  exact hb.ne (h.rows i hi') (by decide)
theorem Sk.setTotal (h : Sk w lo hi g d n R zs seed total bs bt ct) (hg : g ≠ bt) (t2 : Int) (h0 : total ≤ t2) (h1 : t2 ≤ 9223372036854775808) : Sk (w.setCell ⟨g, 7, none⟩ (.int .u64 t2)) lo hi g d n R zs seed t2 bs bt ct := by
  have hgn := h.gne
  obtain ⟨⟨cs, hb, hc0, hcr, hc5, hc6, hc7⟩, h2, h3, h4, h5, h6, h7, h8, h9, h10, h11, h12, h13, h14, h15⟩ := h
  have hlt : 7 < cs.size := by
    rcases Nat.lt_or_ge 7 cs.size with h | h
    · exact h
    · rw [Array.getElem?_eq_none h] at hc7; cases hc7
  refine ⟨⟨_, hb.set 7 _, ?_, fun i hi' => ?_, ?_, ?_, ?_⟩, fun i hi' => (h2 i hi').far (fun e => hgn i hi' e.symm) _, ?_, h4, h5, h6, h7, h8, ⟨h9.1, h9.2.1, fun i j => ⟨(h9.2.2 i j).1, by have := (h9.2.2 i j).2; omega⟩⟩, h10, h11, h12, h13, h14, by omega⟩
  · rw [Array.getElem?_setIfInBounds]; simpa using hc0
  · rw [Array.getElem?_setIfInBounds, if_neg (by omega)]; exact hcr i hi'
  · rw [Array.getElem?_setIfInBounds]; simpa using hc5
  · rw [Array.getElem?_setIfInBounds]; simpa using hc6
  · rw [Array.getElem?_setIfInBounds]; simp [hlt]
  · have k : Keeps (· = g) w (w.setCell ⟨g, 7, none⟩ (.int .u64 t2)) := Keeps.setCell (S := (· = g)) (p := ⟨g, 7, none⟩) (Keeps.refl _ _) (.inl rfl) _
    refine ⟨h3.1, fun hn => ?_⟩
    obtain ⟨b, off, e, hb2, hcell⟩ := h3.2 hn
    injection e with e
    injection e with e1 e2
    subst e1 e2
    exact ⟨bt, 0, rfl, by have := k.size; omega, fun j u hu => k.cell_some (hcell j u hu) (fun e => hg e.symm)⟩
theorem Sk.put (h : Sk w lo hi g d n R zs seed total bs bt ct) (i j : Nat) (hi' : i < d) (v : Int) (hf : Cmp.Fine (Cmp.put R i j v) d n total) :
    Sk (w.setCell ⟨bs i, j, none⟩ (.int .u64 v)) lo hi g d n (Cmp.put R i j v) zs seed total bs bt ct := by
  have hgn := h.gne
  obtain ⟨⟨cs, hb, hc⟩, h2, h3, h4, h5, h6, h7, h8, h9, h10, h11, h12, h13, h14, h15⟩ := h
  refine ⟨⟨cs, hb.far (hgn i hi') _, hc⟩, fun m hm => ?_, ?_, h4, h5, h6, h7, h8, hf, h10, h11, h12, h13, h14, h15⟩
  · by_cases hmi : m = i
    · subst hmi
      have := (h2 m hm).set j (.int .u64 v)
      rw [Cmp.put_row, if_pos ⟨rfl, by have := h9.1; omega⟩]
      simpa [List.map_set] using this
    · rw [Cmp.put_row, if_neg (fun hh => hmi hh.1)]
      exact (h2 m hm).far (fun e => hmi (h5 m i hm hi' e)) _
  · have k : Keeps (· = bs i) w (w.setCell ⟨bs i, j, none⟩ (.int .u64 v)) := Keeps.setCell (S := (· = bs i)) (p := ⟨bs i, j, none⟩) (Keeps.refl _ _) (.inl rfl) _
    refine ⟨h3.1, fun hn => ?_⟩
    obtain ⟨b, off, e, hb2, hcell⟩ := h3.2 hn
    injection e with e
    injection e with e1 e2
    subst e1 e2
    exact ⟨bt, 0, rfl, by have := k.size; omega, fun j u hu => k.cell_some (hcell j u hu) (fun e => h4 i hi' e.symm)⟩
end

theorem total_any {w : World} {lo hi g d n : Nat} {R : Cmp.Rows} {zs : List Int} {seed total : Int} {bs : Nat → Nat} {bt ct : Nat} (h : Sk w lo hi g d n R zs seed total bs bt ct) :
    Calls Try.prog 20 #[.pointer (some ⟨g, 0, none⟩)] w fun e w' => e = .returned (.int .u64 total) ∧ w = w' := by
  obtain ⟨c7, c0, f7⟩ := h.tot
  clear h
  go_enter Try.func20, Try.ntmps20
  go_wp2_with fail
  go_ret
  exact ⟨rfl, rfl⟩

theorem estimate_any {w : World} {lo hi g d n : Nat} {R : Cmp.Rows} {zs : List Int} {seed total : Int} {bs : Nat → Nat} {bt ct : Nat} (h : Sk w lo hi g d n R zs seed total bs bt ct) (s : ByteArray) (hs : s.size ≤ 140737488351232) :
    Calls Try.prog 19 #[.pointer (some ⟨g, 0, none⟩), .string s] w fun e w' => e = .returned (.int .u64 (Cmp.least R zs seed s.data.toList d)) ∧ ∃ nq, w' = w.drewN nq := by
  have hd := h.dd
  have hn := h.nn
  have hc : ∀ i, i < d → ∃ p v, Cmp.pos zs seed s.data.toList n i = p ∧ w.cell? ⟨bs i, p, none⟩ = some (.int .u64 v) ∧ 0 ≤ v ∧ v ≤ Cmp.big ∧ Cmp.least R zs seed s.data.toList (i + 1) = min (Cmp.least R zs seed s.data.toList i) v := fun i hi => by
    have hp := Cmp.pos_lt zs seed s.data.toList n i (by omega)
    refine ⟨_, _, rfl, (h.cell i _ hi hp).1, (h.fine.2.2 _ _).1, Int.le_trans (h.fine.2.2 _ _).2 (by have := h.tt; unfold Cmp.big; omega), ?_⟩
    rw [Cmp.least, Cmp.val_of d n h.fine.2.1 (by omega) i hi]
  have HC := hide hc
  have hct := fun (i : Nat) (hi : i < d) (q : Nat) => counter_any (h.drewN q) i hi s hs
  have HCT := hide hct
  obtain ⟨c7, c0, f7⟩ := h.tot
  have hbig : Cmp.big = 18446744073709551615 := rfl
  have HBIG := hide hbig
  have hlb : ∀ k, Cmp.least R zs seed s.data.toList k ≤ Cmp.big := fun k => Cmp.least_big k
  have HLB := hide hlb
  clear hc h hct hbig hlb c7 f7
  go_enter Try.func19, Try.ntmps19
  go_wp2_with fail
  obtain ⟨p, v, hp, hv, v0, v1, hl⟩ := HC.out 0 (by omega)
  have H0 := HCT.out 0 (by omega) 0
  rw [hp] at H0
  have HL := hide hl
  have HH := hide H0
  clear hp hl H0
  refine HH.out.mono ?_
  rintro e w1 ⟨rfl, nq, rfl⟩
  go_wp2_with fail
  have hL1 : v = Cmp.least R zs seed s.data.toList 1 := by
    rw [HL.out]
    show v = min Cmp.big v
    omega
  go_loopw [5, 6] (fun x i wr => ∃ k : Nat, 1 ≤ k ∧ k ≤ d ∧ i = .int .i64 k ∧ x = .int .u64 (Cmp.least R zs seed s.data.toList k) ∧ ∃ nq, wr = w.drewN nq) (fun _ i _ => d - (intOf i).toNat)
  case atStart => exact ⟨1, by omega, by omega, rfl, by rw [hL1], nq, by simp⟩
  case round =>
    obtain ⟨k, hk1, hk, rfl, rfl, nq, rfl⟩ := hrel
    by_cases hlt : k < d
    · obtain ⟨p, v', hp, hv', v0', v1', hl⟩ := HC.out k hlt
      have H0 := HCT.out k hlt nq
      rw [hp] at H0
      have HL' := hide hl
      have HH' := hide H0
      clear hp hl H0 hL1
      generalize Cmp.least R zs seed s.data.toList k = x at *
      go_wp2_with fail
      refine HH'.out.mono ?_
      rintro e w1 ⟨rfl, nq2, rfl⟩
      go_wp2_with fail
      all_goals
        go_roundw
        case rel => exact ⟨k + 1, by omega, by omega, by go_num, by rw [HL'.out]; congr 1; omega, _, rfl⟩
        case measure => simp [intOf]; omega
    · go_wp2_with fail
      go_ret
      obtain rfl : k = d := by omega
      exact ⟨rfl, nq, rfl⟩
end Go.Proofs.Ytaiopdipldaimaa
