
/-
  The reference's arena: Write. No conditions beyond those of the statement.
-/
import Derived.Test.YtidobhflijdccaaJf
set_option linter.unusedVariables false
set_option linter.unusedSimpArgs false
namespace Go.Proofs.Ytidobhflijdccaa
open Go.RowKit Cfp
theorem prs_cells {w : World} {B g n c : Nat} {l : List (Int × Int)} (h : Own w B 37 2 (some ⟨g, 0, none⟩) n c (prs l)) {i : Nat} {x : Int × Int} (hx : l[i]? = some x) : w.cell? ⟨g, i * 2, none⟩ = some (.int .i64 x.1) ∧ w.cell? ⟨g, i * 2 + 1, none⟩ = some (.int .i64 x.2) := by
  have hi := (List.getElem?_eq_some_iff.1 hx).1
  have hl : l.length = n := by have := h.len; rw [prs_len] at this; omega
  obtain ⟨g0, g1⟩ := prs_at hx
  exact ⟨(h.cell _ (by omega)).trans g0, (h.cell _ (by omega)).trans g1⟩
set_option maxRecDepth 100000 in
set_option maxHeartbeats 1000000 in
theorem rwrite_long (w : World) (G : Nat → Prop) (b : Nat) (ρ : RA) (LA : Option Addr) (lc : Nat) (SA : Option Addr) (sc : Nat) (FA : Option Addr) (fc q : Nat) (i : Nat) (hk ha : Int) (j : Nat) (x : RSl) (sz : Int × Int) (D : Option Addr) (n dm Bd : Nat) (bs : List UInt8) (h : RAm w G b ρ LA lc SA sc FA fc q) (hm : ρ.slots.length ≤ 1000000) (hG : ∀ k, G k → k < w.heap.size) (hj : rfindN ρ i hk ha = j) (hx : ρ.slots[j]? = some x) (hsz : ρ.sh[i]? = some sz) (hr : Rd w Bd D 1 n (bs.map by8)) (hn : n ≤ 65536)
    (hlong : sz.1 < (n : Int)) :
    Calls Try.prog 32 #[.pointer (some ⟨b, 0, none⟩), .agg #[.int .i64 (i : Int), .int .i64 hk, .int .i64 ha], .slice D n dm] w fun e w' => e = .returned (.int .i64 4) ∧ Keeps (fun _ => False) w w' := by
  have e1 : decide (sz.1 < (n : Int)) = true := by simpa using hlong
  obtain ⟨w1, hw1⟩ : ∃ w1, w1 = w.alloc (.cells #[.int .i64 (i : Int), .int .i64 hk, .int .i64 ha] 40) := ⟨_, rfl⟩
  obtain ⟨gh, hgh⟩ : ∃ gh, gh = w.heap.size := ⟨_, rfl⟩
  have k1 : Keeps (fun _ => False) w w1 := by rw [hw1]; exact (Keeps.refl _ _).alloc _
  have hb1 : Blk w1 gh 40 #[.int .i64 (i : Int), .int .i64 hk, .int .i64 ha] := by rw [hw1, hgh]; exact Blk.new _ _ _
  obtain ⟨⟨q0, q1, q2⟩, _, hql⟩ := hb1.three
  have H1 := hide (h.quiet k1)
  have HB1 := hide hb1
  have HG := hide hgh
  have HW := hide hw1
  have K1 := hide k1
  have HJ := hide hj
  have HX := hide hx
  have HGG := hide hG
  have HR := hide (hr.kept k1 (fun _ _ h => h))
  obtain ⟨m, hmm⟩ : ∃ m, m = ρ.slots.length := ⟨_, rfl⟩
  have hjm : j < m := by rw [hmm]; exact (List.getElem?_eq_some_iff.1 hx).1
  have hs0 := H1.out.sl
  rw [← hmm] at hs0
  obtain ⟨gs, rfl, _⟩ := Own.some_ hs0 (by omega)
  obtain ⟨nl, hnl⟩ : ∃ nl, nl = ρ.sh.length := ⟨_, rfl⟩
  have hil : i < nl := by rw [hnl]; exact (List.getElem?_eq_some_iff.1 hsz).1
  have hl0 := H1.out.ls
  rw [← hnl] at hl0
  obtain ⟨gl, rfl, _⟩ := Own.some_ hl0 (by omega)
  have hiI : (i : Int) < (nl : Int) := by omega
  have hi0 : (0 : Int) ≤ (i : Int) := by omega
  have hjI : (j : Int) < (m : Int) := by omega
  have hj0 : (0 : Int) ≤ (j : Int) := by omega
  have HNL := hide hnl
  have HM := hide hmm
  have HSZ := hide hsz
  have hgw : w.heap.size ≤ w1.heap.size := k1.size
  clear h hw1 hgh k1 hb1 hj hx hs0 hmm hG hl0 hnl hsz hr
  go_enter Try.func32, Try.ntmps32
  go_upto_region 1 with fail
  rw [← HG.out, ← HW.out]
  go_wp2_with fail
  refine (rfind_yes w1 G b ρ _ lc _ sc FA fc q (i : Int) hk ha j x H1.out hm HJ.out HX.out).mono ?_
  rintro e w2 ⟨rfl, k2⟩
  have h2 := H1.out.quiet k2
  have d1 := h2.blk.cell 1
  rw [← HM.out] at d1
  have d0 := h2.blk.cell 0
  rw [← HNL.out] at d0
  have hbl := h2.blk.lt
  have hgsl := (h2.sl.inB ((inB_some _ _ _).2 rfl)).2
  have hgll := (h2.ls.inB ((inB_some _ _ _).2 rfl)).2
  have f4 := h2.sl.frozen (j * 5 + 4)
  obtain ⟨l0, l1⟩ := prs_cells h2.ls HSZ.out
  obtain ⟨c0, c1, c2, c3, c4⟩ := rsl_at h2.sl HX.out
  obtain ⟨⟨qq0, qq1, qq2⟩, _, hql2⟩ := (HB1.out.kept k2 (fun h => h)).three
  have H2 := hide h2
  have K2 := hide (K1.out.trans k2)
  have R2 := hide (HR.out.kept k2 (fun _ _ h => h))
  have hz2 := k2.size
  clear h2 k2 q0 q1 q2 hql
  go_upto_region 4 with fail
  go_quiet (fail)
  go_wp2_with fail
  go_ret
  exact ⟨rfl, K2.out.drewN _⟩
set_option maxRecDepth 100000 in
set_option maxHeartbeats 1000000 in
theorem rwrite_yes (w : World) (G : Nat → Prop) (b : Nat) (ρ : RA) (LA : Option Addr) (lc : Nat) (SA : Option Addr) (sc : Nat) (FA : Option Addr) (fc q : Nat) (i : Nat) (hk ha : Int) (j : Nat) (x : RSl) (sz : Int × Int) (D : Option Addr) (n dm Bd : Nat) (bs : List UInt8) (h : RAm w G b ρ LA lc SA sc FA fc q) (hm : ρ.slots.length ≤ 1000000) (hG : ∀ k, G k → k < w.heap.size) (hj : rfindN ρ i hk ha = j) (hx : ρ.slots[j]? = some x) (hsz : ρ.sh[i]? = some sz) (hr : Rd w Bd D 1 n (bs.map by8)) (hn : n ≤ 65536)
    (hlong : (n : Int) ≤ sz.1) :
    Calls Try.prog 32 #[.pointer (some ⟨b, 0, none⟩), .agg #[.int .i64 (i : Int), .int .i64 hk, .int .i64 ha], .slice D n dm] w fun e w' => e = .returned (.int .i64 0) ∧ (∃ D' dc', IsRA w' G b { ρ with slots := ρ.slots.set j { x with D := D', dc := dc', b := bs } }) ∧ Keeps (RS G w) w w' := by
  have e1 : decide (sz.1 < (n : Int)) = false := by simp; omega
  have HBn : Hid (bs.length = n) := hide (by have := hr.1; simpa using this)
  obtain ⟨w1, hw1⟩ : ∃ w1, w1 = w.alloc (.cells #[.int .i64 (i : Int), .int .i64 hk, .int .i64 ha] 40) := ⟨_, rfl⟩
  obtain ⟨gh, hgh⟩ : ∃ gh, gh = w.heap.size := ⟨_, rfl⟩
  have k1 : Keeps (fun _ => False) w w1 := by rw [hw1]; exact (Keeps.refl _ _).alloc _
  have hb1 : Blk w1 gh 40 #[.int .i64 (i : Int), .int .i64 hk, .int .i64 ha] := by rw [hw1, hgh]; exact Blk.new _ _ _
  obtain ⟨⟨q0, q1, q2⟩, _, hql⟩ := hb1.three
  have H1 := hide (h.quiet k1)
  have HB1 := hide hb1
  have HG := hide hgh
  have HW := hide hw1
  have K1 := hide k1
  have HJ := hide hj
  have HX := hide hx
  have HGG := hide hG
  have HR := hide (hr.kept k1 (fun _ _ h => h))
  obtain ⟨m, hmm⟩ : ∃ m, m = ρ.slots.length := ⟨_, rfl⟩
  have hjm : j < m := by rw [hmm]; exact (List.getElem?_eq_some_iff.1 hx).1
  have hs0 := H1.out.sl
  rw [← hmm] at hs0
  obtain ⟨gs, rfl, _⟩ := Own.some_ hs0 (by omega)
  obtain ⟨nl, hnl⟩ : ∃ nl, nl = ρ.sh.length := ⟨_, rfl⟩
  have hil : i < nl := by rw [hnl]; exact (List.getElem?_eq_some_iff.1 hsz).1
  have hl0 := H1.out.ls
  rw [← hnl] at hl0
  obtain ⟨gl, rfl, _⟩ := Own.some_ hl0 (by omega)
  have hiI : (i : Int) < (nl : Int) := by omega
  have hi0 : (0 : Int) ≤ (i : Int) := by omega
  have hjI : (j : Int) < (m : Int) := by omega
  have hj0 : (0 : Int) ≤ (j : Int) := by omega
  have HNL := hide hnl
  have HM := hide hmm
  have HSZ := hide hsz
  have hgw : w.heap.size ≤ w1.heap.size := k1.size
  clear h hw1 hgh k1 hb1 hj hx hs0 hmm hG hl0 hnl hsz hr
  go_enter Try.func32, Try.ntmps32
  go_upto_region 1 with fail
  rw [← HG.out, ← HW.out]
  go_wp2_with fail
  refine (rfind_yes w1 G b ρ _ lc _ sc FA fc q (i : Int) hk ha j x H1.out hm HJ.out HX.out).mono ?_
  rintro e w2 ⟨rfl, k2⟩
  have h2 := H1.out.quiet k2
  have d1 := h2.blk.cell 1
  rw [← HM.out] at d1
  have d0 := h2.blk.cell 0
  rw [← HNL.out] at d0
  have hbl := h2.blk.lt
  have hgsl := (h2.sl.inB ((inB_some _ _ _).2 rfl)).2
  have hgll := (h2.ls.inB ((inB_some _ _ _).2 rfl)).2
  have f4 := h2.sl.frozen (j * 5 + 4)
  obtain ⟨l0, l1⟩ := prs_cells h2.ls HSZ.out
  obtain ⟨c0, c1, c2, c3, c4⟩ := rsl_at h2.sl HX.out
  obtain ⟨⟨qq0, qq1, qq2⟩, _, hql2⟩ := (HB1.out.kept k2 (fun h => h)).three
  have H2 := hide h2
  have K2 := hide (K1.out.trans k2)
  have R2 := hide (HR.out.kept k2 (fun _ _ h => h))
  have hz2 := k2.size
  clear h2 k2 q0 q1 q2 hql
  go_upto_region 4 with fail
  go_quiet (fail)
  obtain ⟨w3, hw3⟩ : ∃ w3 : World, w3 = w2.drewN nq := ⟨_, rfl⟩
  rw [← hw3]
  have k3 : Keeps (fun _ => False) w2 w3 := by rw [hw3]; exact (Keeps.refl _ _).drewN _
  have h3 := H2.out.quiet k3
  have hz3 := k3.size
  have R3 := hide (R2.out.kept k3 (fun _ _ h => h))
  have K3 := hide (K2.out.trans k3)
  clear d0 d1 hbl hgsl hgll f4 l0 l1 c0 c1 c2 c3 c4 qq0 qq1 qq2 hql2
  have d1 := h3.blk.cell 1
  rw [← HM.out] at d1
  have hbl := h3.blk.lt
  have hgsl := (h3.sl.inB ((inB_some _ _ _).2 rfl)).2
  have H3 := hide h3
  clear hw3 k3 h3
  go_upto_region 6 with fail
  go_region_law ((refine step_app _ elem8 (by rfl) (.tmp 30) (.tmp 31) (by rfl) w3.heap.size _ (by rfl) (Own.new0 _ _ 5 1 _ (by simp) (by simp)) _ (m := n) _ (by rfl) (R3.out.kept (((Keeps.refl (fun _ => False) w3).drew).alloc _) (fun _ _ h => h)) (by8_one _) (by simp only [maxLen]; omega) (by omega) (by simp) ?_; intro A7 c7 w7 o7 k7 hA7; rw [Nat.zero_add, List.nil_append] at o7; have O7 := hide o7; have K7 := hide ((((Keeps.refl (fun _ => False) w3).drew).alloc (.cells #[] 5)).step k7 (fun p hp h => by have := (inB_some _ _ _).1 h; (try simp at this); omega)); have h7 := H3.out.quiet K7.out; have d71 := h7.blk.cell 1; rw [← HM.out] at d71; have hbl7 := h7.blk.lt; have hgsl7 := (h7.sl.inB ((inB_some _ _ _).2 rfl)).2; have f74 := h7.sl.frozen (j * 5 + 4); obtain ⟨_, _, _, _, c74⟩ := rsl_at h7.sl HX.out; have H7 := hide h7; clear o7 k7 hA7 h7))
  all_goals
    have hnew := H7.out.setSlot (y := { x with D := A7, dc := c7, b := bs }) (v := .slice A7 n c7) (k := 4) HX.out (by omega) (by rw [← HBn.out]; rfl) (by rw [HBn.out]; exact O7.out.base_le (Nat.zero_le _)) (fun p hp e => by have := (O7.out.inB hp).1; have := HGG.out p e; omega)
    have HNew := hide hnew
    have HKN := hide (((K3.out.trans K7.out).weak (S' := RS G w) (fun _ _ h => h.elim)).step (keepsOne w7 gs (j * 5 + 4) (.slice A7 n c7)) (fun p hp e => by
      have h0 := RS.slots H1.out ((inB_some gs 0 gs).2 rfl)
      obtain ⟨g1, cs, t, g2, g3⟩ := h0
      subst e
      exact ⟨g1, cs, t, by have := K1.out.block p hp (fun h => h); exact this.symm.trans g2, g3⟩))
    clear hnew d71 hbl7
    try simp only [Act.put, List.getElem_toArray, List.getElem_cons_succ, List.getElem_cons_zero, List.setIfInBounds_toArray, List.set_cons_zero, List.set_cons_succ]
    go_wp2_with fail
    go_ret
    exact ⟨rfl, ⟨A7, c7, ⟨_, lc, _, sc, FA, fc, q, HNew.out⟩⟩, HKN.out⟩
end Go.Proofs.Ytidobhflijdccaa
