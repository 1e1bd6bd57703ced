
/-
  slices.SortStableFunc's parts: the merge in place. No conditions beyond those of the statement.
-/
import Derived.Test.YtmbgnekilgobaaaLm
set_option linter.unusedVariables false
set_option linter.unusedSimpArgs false
namespace Go.Proofs.Ytmbgnekilgobaaa
open Go.RowKit
theorem sd_le {L : List Ln} (hs : Srt.Sd lnLt L) {i j : Nat} {x y : Ln} (hi : L[i]? = some x) (hj : L[j]? = some y) (h : i < j) : lnLt y x = false := by
  have := List.pairwise_iff_getElem.1 hs i j (List.getElem?_eq_some_iff.1 hi).1 (List.getElem?_eq_some_iff.1 hj).1 h
  obtain ⟨e1, e2⟩ := List.getElem?_eq_some_iff.1 hi
  obtain ⟨e3, e4⟩ := List.getElem?_eq_some_iff.1 hj
  rw [e2, e4] at this
  exact this
/-- where the two lists may be cut -/
theorem sym_cut {Al Bl : List Ln} (ha : Srt.Sd lnLt Al) (hb : Srt.Sd lnLt Bl) {i j : Nat} (h1 : i = 0 ∨ j = Bl.length ∨ ∃ u v, Bl[j]? = some u ∧ Al[i - 1]? = some v ∧ 1 ≤ i ∧ lnLt u v = false)
    (h2 : i = Al.length ∨ j = 0 ∨ ∃ u v, Bl[j - 1]? = some u ∧ Al[i]? = some v ∧ 1 ≤ j ∧ lnLt u v = true) : mrgL Al Bl = mrgL (Al.take i) (Bl.take j) ++ mrgL (Al.drop i) (Bl.drop j) := by
  have e := Srt.mrg_cut' (lt := lnLt) (Al.take i) (Al.drop i) (Bl.take j) (Bl.drop j) (fun x hx y hy => ?_) (fun x hx y hy => ?_)
  · rw [List.take_append_drop, List.take_append_drop] at e
    exact e
  · obtain ⟨q, hq⟩ := List.getElem?_of_mem hx
    obtain ⟨r, hr⟩ := List.getElem?_of_mem hy
    rw [List.getElem?_take] at hq
    rw [List.getElem?_drop] at hr
    split at hq
    · next hqi =>
      rcases h1 with h1 | h1 | ⟨u, v, hu, hv, hi1, hl⟩
      · omega
      · have := (List.getElem?_eq_some_iff.1 hr).1; omega
      · have h3 : lnLt u x = false := by
          rcases Nat.lt_or_ge q (i - 1) with h | h
          · exact lnLt_wk.nt u v x hl (sd_le ha hq hv h)
          · have : q = i - 1 := by omega
            subst this
            rw [hv] at hq; injection hq with hq; subst hq
            exact hl
        rcases Nat.eq_zero_or_pos r with h | h
        · subst h
          rw [Nat.add_zero, hu] at hr; injection hr with hr; subst hr
          exact h3
        · exact lnLt_wk.nt y u x (sd_le hb hu hr (by omega)) h3
    · cases hq
  · obtain ⟨q, hq⟩ := List.getElem?_of_mem hx
    obtain ⟨r, hr⟩ := List.getElem?_of_mem hy
    rw [List.getElem?_drop] at hq
    rw [List.getElem?_take] at hr
    split at hr
    · next hrj =>
      rcases h2 with h2 | h2 | ⟨u, v, hu, hv, hj1, hl⟩
      · have := (List.getElem?_eq_some_iff.1 hq).1; omega
      · omega
      · have h3 : lnLt y v = true := by
          rcases Nat.lt_or_ge r (j - 1) with h | h
          · rcases e : lnLt y v with _ | _
            · have := lnLt_wk.nt u y v (sd_le hb hr hu h) e
              rw [hl] at this
              cases this
            · rfl
          · have : r = j - 1 := by omega
            subst this
            rw [hu] at hr; injection hr with hr; subst hr
            exact hl
        rcases Nat.eq_zero_or_pos q with h | h
        · subst h
          rw [Nat.add_zero, hv] at hq; injection hq with hq; subst hq
          exact h3
        · rcases e : lnLt y x with _ | _
          · have := lnLt_wk.nt y x v e (sd_le ha hv hq (by omega))
            rw [h3] at this
            cases this
          · rfl
    · cases hr
/-- the merge in place of fewer lines -/
def SymIH (k : Nat) : Prop := ∀ (w : World) (B : Nat) (A : Option Addr) (n c : Nat) (P Al Bl Q : List Ln) (a m b : Nat), Al.length + Bl.length < k → a = P.length → m = P.length + Al.length → b = P.length + Al.length + Bl.length → 1 ≤ Al.length → 1 ≤ Bl.length → Srt.Sd lnLt Al → Srt.Sd lnLt Bl → Lns w B A n c (P ++ Al ++ Bl ++ Q) → n ≤ 1000000 →
    Calls Try.prog 84 #[.slice A n c, .int .i64 a, .int .i64 m, .int .i64 b, cmpV] w (SymPost w B A n c P (mrgL Al Bl) Q)
set_option maxRecDepth 100000 in
set_option maxHeartbeats 4000000 in
theorem sym3a (k : Nat) (ih : SymIH k) (w : World) (B : Nat) (A : Option Addr) (n c : Nat) (P Al Bl Q : List Ln) (a m b mid : Nat) (hk : Al.length + Bl.length = k) (ha : a = P.length) (hm : m = P.length + Al.length) (hb : b = P.length + Al.length + Bl.length) (h1 : 2 ≤ Al.length) (h2 : 2 ≤ Bl.length) (hsA : Srt.Sd lnLt Al) (hsB : Srt.Sd lnLt Bl) (h : Lns w B A n c (P ++ Al ++ Bl ++ Q)) (hn : n ≤ 1000000) (hmid : mid = (a + b) / 2) (hmm : mid < m) :
    Calls Try.prog 84 #[.slice A n c, .int .i64 a, .int .i64 m, .int .i64 b, cmpV] w (SymPost w B A n c P (mrgL Al Bl) Q) := by
  have hl := h.len
  simp only [List.length_append] at hl
  obtain ⟨g, rfl, _⟩ := h.some_ (by omega)
  obtain ⟨LA, hLA⟩ : ∃ LA, LA = Al.length := ⟨_, rfl⟩
  obtain ⟨LB, hLB⟩ : ∃ LB, LB = Bl.length := ⟨_, rfl⟩
  have w1 : IntKind.i64.wrap ((m : Int) - (a : Int)) = (LA : Int) := by rw [IntWalk.i64_in _ (by omega)]; omega
  have w2 : IntKind.i64.wrap ((b : Int) - (m : Int)) = (LB : Int) := by rw [IntWalk.i64_in _ (by omega)]; omega
  have b1 : ((LA : Int) == 1) = false := by simp; omega
  have b2 : ((LB : Int) == 1) = false := by simp; omega
  obtain ⟨nn, hnn⟩ : ∃ nn, nn = mid + m := ⟨_, rfl⟩
  obtain ⟨pp, hpp⟩ : ∃ pp, nn = pp + 1 := ⟨nn - 1, by omega⟩
  have he : ((a : Int) + (b : Int)) / 2 = (mid : Int) := by omega
  have wn : IntKind.i64.wrap ((mid : Int) + (m : Int)) = (nn : Int) := by rw [IntWalk.i64_in _ (by omega)]; omega
  have wp_ : IntKind.i64.wrap ((nn : Int) - 1) = (pp : Int) := by rw [IntWalk.i64_in _ (by omega)]; omega
  obtain ⟨s0, hs0⟩ : ∃ s0, s0 = nn - b := ⟨_, rfl⟩
  obtain ⟨r0, hr0⟩ : ∃ r0, r0 = mid := ⟨_, rfl⟩
  have ws : IntKind.i64.wrap ((nn : Int) - (b : Int)) = ((nn - b : Nat) : Int) ∨ True := .inr trivial
  have ws2 : IntKind.i64.wrap ((nn : Int) - (b : Int)) = (s0 : Int) := by rw [IntWalk.i64_in _ (by omega)]; omega
  have emm : decide (mid < m) = true := by simp; omega
  have hmA : m = a + LA := by omega
  have hbB : b = m + LB := by omega
  have hbn : b ≤ n := by omega
  have hamid : a < mid ∧ mid < b := by omega
  have hsr : s0 ≤ r0 ∧ a ≤ s0 ∧ r0 ≤ m ∧ r0 ≤ mid ∧ nn ≤ b + s0 := by omega
  have HA := hide ha
  have HLA := hide hLA
  have HLB := hide hLB
  have HmA := hide hmA
  have HbB := hide hbB
  have HPP := hide hpp
  have HNN := hide hnn
  have HK0 := hide hk
  have HS0 : Hid ((s0 = a ∧ r0 = m) ∨ (s0 = nn - b ∧ r0 = mid ∧ b ≤ nn)) := hide (by omega)
  have HSA := hide hsA
  have HSB := hide hsB
  have HIH := hide ih
  have H := hide h
  have hnm : m ≤ nn ∧ mid ≤ nn := by omega
  have hppB : pp ≤ 2000000 ∧ nn ≤ 2000000 := by omega
  have HS00 := hide hs0
  have HR00 := hide hr0
  clear h ha hm hb hl hsA hsB hLA hLB hmA hbB hmid hpp hnn hk h1 h2 ih hs0 hr0 ws
  go_enter Try.func84, Try.ntmps84
  go_upto_region 33 with fail
  trace "LOOP5"
  clear w1 w2 b1 b2 he wn wp_ emm
  (try clear ws2)
  go_loopw [20, 21, 23] (fun sv rv _ wr => ∃ (s r : Nat), s0 ≤ s ∧ s ≤ r ∧ r ≤ r0 ∧ sv = .int .i64 (s : Int) ∧ rv = .int .i64 (r : Int) ∧ Hid ((s = s0 ∨ ∃ u v, Bl[nn - s - m]? = some u ∧ Al[s - a - 1]? = some v ∧ 1 ≤ s - a ∧ lnLt u v = false) ∧ (r = r0 ∨ ∃ u v, Bl[nn - r - m - 1]? = some u ∧ Al[r - a]? = some v ∧ 1 ≤ nn - r - m ∧ lnLt u v = true)) ∧ Hid (Keeps (fun _ => False) w wr)) (fun sv rv _ _ => (intOf rv).toNat - (intOf sv).toNat)
  case atStart => exact ⟨s0, r0, by omega, by omega, by omega, by first | rfl | rw [HS00.out], by first | rfl | rw [HR00.out], hide ⟨.inl rfl, .inl rfl⟩, hide (Keeps.refl _ _)⟩
  case round =>
    obtain ⟨s, r, hs1, hs2, hs3, rfl, rfl, HF, HK⟩ := hrel
    by_cases hlt : s < r
    · have e1 : decide (s < r) = true := by simpa using hlt
      obtain ⟨cc, hcc⟩ : ∃ cc : Nat, cc = (s + r) / 2 := ⟨_, rfl⟩
      have he : ((s : Int) + (r : Int)) / 2 = (cc : Int) := by omega
      have hc1 : s ≤ cc ∧ cc < r := by omega
      obtain ⟨d, hd⟩ : ∃ d, pp = d + cc := ⟨pp - cc, by have := HPP.out; have := HNN.out; omega⟩
      have wd : IntKind.i64.wrap ((pp : Int) - (cc : Int)) = (d : Int) := by rw [IntWalk.i64_in _ (by omega)]; omega
      have hdB : m ≤ d ∧ d < b := by have := HPP.out; have := HNN.out; omega
      obtain ⟨t, ht⟩ : ∃ t, d = m + t := ⟨d - m, by omega⟩
      obtain ⟨q, hq⟩ : ∃ q, cc = a + q := ⟨cc - a, by omega⟩
      have htL : t < LB := by have := HbB.out; omega
      have hqL : q < LA := by have := HmA.out; omega
      obtain ⟨u, hu⟩ : ∃ u, Bl[t]? = some u := ⟨Bl[t]'(by rw [← HLB.out]; exact htL), by simp⟩
      obtain ⟨v, hv⟩ : ∃ v, Al[q]? = some v := ⟨Al[q]'(by rw [← HLA.out]; exact hqL), by simp⟩
      have HLr : Hid (Lns wr B (some ⟨g, 0, none⟩) n c (P ++ Al ++ Bl ++ Q)) := hide (H.out.kept HK.out (fun _ _ h => h))
      have hgu : (P ++ Al ++ Bl ++ Q)[d]? = some u := at_mid (by have := HA.out; have := HmA.out; have := HLA.out; simp; omega) hu
      have hgv : (P ++ Al ++ Bl ++ Q)[cc]? = some v := by
        have := at_mid (P := P) (M := Al) (Q := Bl ++ Q) (i := cc) (t := q) (by have := HA.out; omega) hv
        simpa using this
      obtain ⟨c0, c1, c2⟩ := HLr.out.at_ hgu
      obtain ⟨d0, d1, d2⟩ := HLr.out.at_ hgv
      have HU := hide hu
      have HV := hide hv
      have HT : Hid (t = nn - cc - m - 1 ∧ t = nn - (cc + 1) - m ∧ q = cc - a ∧ q = cc + 1 - a - 1) := hide (by have := HPP.out; omega)
      have hdI : (d : Int) < (n : Int) := by omega
      have hcI : (cc : Int) < (n : Int) := by omega
      have hd0 : (0 : Int) ≤ (d : Int) := by omega
      have hc0 : (0 : Int) ≤ (cc : Int) := by omega
      have HC1 : Hid (1 ≤ cc + 1 - a ∧ 1 ≤ nn - cc - m) := hide (by have := HPP.out; omega)
      clear hcc hd ht hq hu hv hgu hgv htL hqL
      go_upto_region 35 with fail
      trace "R35"
      clear he
      have HSg : Hid (∀ W, Keeps (fun _ => False) wr W → (Keeps (fun _ => False) wr W ∧ W.cell? ⟨g, d * 3, none⟩ = some (.string u.key) ∧ W.cell? ⟨g, d * 3 + 1, none⟩ = some (.int .u64 u.lo) ∧ W.cell? ⟨g, d * 3 + 2, none⟩ = some (.int .u64 u.hi) ∧ W.cell? ⟨g, cc * 3, none⟩ = some (.string v.key) ∧ W.cell? ⟨g, cc * 3 + 1, none⟩ = some (.int .u64 v.lo) ∧ W.cell? ⟨g, cc * 3 + 2, none⟩ = some (.int .u64 v.hi))) := hide (fun W kW => ⟨kW, kW.cell_some c0 (fun h => h), kW.cell_some c1 (fun h => h), kW.cell_some c2 (fun h => h), kW.cell_some d0 (fun h => h), kW.cell_some d1 (fun h => h), kW.cell_some d2 (fun h => h)⟩)
      refine wp_region_held_drew (S := fun W => Keeps (fun _ => False) wr W ∧ W.cell? ⟨g, d * 3, none⟩ = some (.string u.key) ∧ W.cell? ⟨g, d * 3 + 1, none⟩ = some (.int .u64 u.lo) ∧ W.cell? ⟨g, d * 3 + 2, none⟩ = some (.int .u64 u.hi) ∧ W.cell? ⟨g, cc * 3, none⟩ = some (.string v.key) ∧ W.cell? ⟨g, cc * 3 + 1, none⟩ = some (.int .u64 v.lo) ∧ W.cell? ⟨g, cc * 3 + 2, none⟩ = some (.int .u64 v.hi)) (by kernel_rfl) (HSg.out _ ((Keeps.refl _ _).drew)) (fun hHeld => ?_)
      refine wpAnyH_take (i := 0) (v := ?_) rfl (by kernel_rfl) (by kernel_rfl) (by kernel_rfl) (fun _ _ _ h => h) (Or.inl ⟨by first | kernel_rfl | rfl, ?_⟩) (by assumption) ?_; rotate_left; focus (intro w hSw; (try dsimp only at hSw); go_simp; try (with_reducible rfl)); (try simp only [Act.put, List.getElem_toArray, List.getElem_cons_succ, List.getElem_cons_zero, List.setIfInBounds_toArray, List.set_cons_zero, List.set_cons_succ])
      refine wpAnyH_take (i := 1) (v := ?_) rfl (by kernel_rfl) (by kernel_rfl) (by kernel_rfl) (fun _ _ _ h => h) (Or.inl ⟨by first | kernel_rfl | rfl, ?_⟩) (by assumption) ?_; rotate_left; focus (intro w hSw; (try dsimp only at hSw); go_simp; try (with_reducible rfl)); (try simp only [Act.put, List.getElem_toArray, List.getElem_cons_succ, List.getElem_cons_zero, List.setIfInBounds_toArray, List.set_cons_zero, List.set_cons_succ])
      refine wpAnyH_take (i := 2) (v := ?_) rfl (by kernel_rfl) (by kernel_rfl) (by kernel_rfl) (fun _ _ _ h => h) (Or.inl ⟨by first | kernel_rfl | rfl, ?_⟩) (by assumption) ?_; rotate_left; focus (intro w hSw; (try dsimp only at hSw); go_simp; try (with_reducible rfl)); (try simp only [Act.put, List.getElem_toArray, List.getElem_cons_succ, List.getElem_cons_zero, List.setIfInBounds_toArray, List.set_cons_zero, List.set_cons_succ])
      refine wpAnyH_take (i := 3) (v := ?_) rfl (by kernel_rfl) (by kernel_rfl) (by kernel_rfl) (fun _ _ _ h => h) (Or.inl ⟨by first | kernel_rfl | rfl, ?_⟩) (by assumption) ?_; rotate_left; focus (intro w hSw; (try dsimp only at hSw); go_simp; try (with_reducible rfl)); (try simp only [Act.put, List.getElem_toArray, List.getElem_cons_succ, List.getElem_cons_zero, List.setIfInBounds_toArray, List.set_cons_zero, List.set_cons_succ])
      refine wpAnyH_take (i := 4) (v := ?_) rfl (by kernel_rfl) (by kernel_rfl) (by kernel_rfl) (fun _ _ _ h => h) (Or.inl ⟨by first | kernel_rfl | rfl, ?_⟩) (by assumption) ?_; rotate_left; focus (intro w hSw; (try dsimp only at hSw); go_simp; try (with_reducible rfl)); (try simp only [Act.put, List.getElem_toArray, List.getElem_cons_succ, List.getElem_cons_zero, List.setIfInBounds_toArray, List.set_cons_zero, List.set_cons_succ])
      refine wpAnyH_take (i := 5) (v := ?_) rfl (by kernel_rfl) (by kernel_rfl) (by kernel_rfl) (fun _ _ _ h => h) (Or.inl ⟨by first | kernel_rfl | rfl, ?_⟩) (by assumption) ?_; rotate_left; focus (intro w hSw; (try dsimp only at hSw); go_simp; try (with_reducible rfl)); (try simp only [Act.put, List.getElem_toArray, List.getElem_cons_succ, List.getElem_cons_zero, List.setIfInBounds_toArray, List.set_cons_zero, List.set_cons_succ])
      refine wpAnyH_take (i := 6) (v := ?_) rfl (by kernel_rfl) (by kernel_rfl) (by kernel_rfl) (fun _ _ _ h => h) (Or.inl ⟨by first | kernel_rfl | rfl, ?_⟩) (by assumption) ?_; rotate_left; focus (intro w hSw; (try dsimp only at hSw); go_simp; try (with_reducible rfl)); (try simp only [Act.put, List.getElem_toArray, List.getElem_cons_succ, List.getElem_cons_zero, List.setIfInBounds_toArray, List.set_cons_zero, List.set_cons_succ])
      refine wpAnyH_take (i := 7) (v := ?_) rfl (by kernel_rfl) (by kernel_rfl) (by kernel_rfl) (fun _ _ _ h => h) (Or.inl ⟨by first | kernel_rfl | rfl, ?_⟩) (by assumption) ?_; rotate_left; focus (intro w hSw; (try dsimp only at hSw); go_simp; try (with_reducible rfl)); (try simp only [Act.put, List.getElem_toArray, List.getElem_cons_succ, List.getElem_cons_zero, List.setIfInBounds_toArray, List.set_cons_zero, List.set_cons_succ])
      refine wpAnyH_take (i := 8) (v := ?_) rfl (by kernel_rfl) (by kernel_rfl) (by kernel_rfl) (fun _ _ _ h => h) (Or.inl ⟨by first | kernel_rfl | rfl, ?_⟩) (by assumption) ?_; rotate_left; focus (intro w hSw; (try dsimp only at hSw); go_simp; try (with_reducible rfl)); (try simp only [Act.put, List.getElem_toArray, List.getElem_cons_succ, List.getElem_cons_zero, List.setIfInBounds_toArray, List.set_cons_zero, List.set_cons_succ])
      refine wpAnyH_take (i := 9) (v := ?_) rfl (by kernel_rfl) (by kernel_rfl) (by kernel_rfl) (fun _ _ _ h => h) (Or.inl ⟨by first | kernel_rfl | rfl, ?_⟩) (by assumption) ?_; rotate_left; focus (intro w hSw; (try dsimp only at hSw); go_simp; try (with_reducible rfl)); (try simp only [Act.put, List.getElem_toArray, List.getElem_cons_succ, List.getElem_cons_zero, List.setIfInBounds_toArray, List.set_cons_zero, List.set_cons_succ])
      refine wpAnyH_take (i := 10) (v := ?_) rfl (by kernel_rfl) (by kernel_rfl) (by kernel_rfl) (fun _ _ _ h => h) (Or.inl ⟨by first | kernel_rfl | rfl, ?_⟩) (by assumption) ?_; rotate_left; focus (intro w hSw; (try dsimp only at hSw); go_simp; try (with_reducible rfl)); (try simp only [Act.put, List.getElem_toArray, List.getElem_cons_succ, List.getElem_cons_zero, List.setIfInBounds_toArray, List.set_cons_zero, List.set_cons_succ])
      refine wpAnyH_ready (rs := [11]) (by kernel_rfl) (by simp) ?_
      refine AllReadyH.cons rfl (fun K hK => ?_) AllReadyH.nil
      go_simp
      trace "CMP"
      go_at_call 58
      refine (cmp_any u v _).mono ?_
      rintro e w5 ⟨rfl, k5⟩
      have KD := hide (((Keeps.refl (fun _ => False) wr).drew).trans k5)
      (try go_wp2_with fail)
      refine hK.out _ _ (HSg.out _ KD.out) (fun _ => ?_)
      clear hK K k5
      (try simp only [Act.put, List.getElem_toArray, List.getElem_cons_succ, List.getElem_cons_zero, List.setIfInBounds_toArray, List.set_cons_zero, List.set_cons_succ])
      refine wpAnyH_take (i := 12) (v := ?_) rfl (by kernel_rfl) (by kernel_rfl) (by kernel_rfl) (fun _ _ _ h => h) (Or.inl ⟨by first | kernel_rfl | rfl, ?_⟩) (by assumption) ?_; rotate_left; focus (intro w hSw; (try dsimp only at hSw); go_simp; try (with_reducible rfl)); (try simp only [Act.put, List.getElem_toArray, List.getElem_cons_succ, List.getElem_cons_zero, List.setIfInBounds_toArray, List.set_cons_zero, List.set_cons_succ])
      refine wpAnyH_take (i := 13) (v := ?_) rfl (by kernel_rfl) (by kernel_rfl) (by kernel_rfl) (fun _ _ _ h => h) (Or.inl ⟨by first | kernel_rfl | rfl, ?_⟩) (by assumption) ?_; rotate_left; focus (intro w hSw; (try dsimp only at hSw); go_simp; try (with_reducible rfl)); (try simp only [Act.put, List.getElem_toArray, List.getElem_cons_succ, List.getElem_cons_zero, List.setIfInBounds_toArray, List.set_cons_zero, List.set_cons_succ])
      refine wpAnyH_done (by kernel_rfl) ?_ _
      (try simp only [Act.put, List.getElem_toArray, List.getElem_cons_succ, List.getElem_cons_zero, List.setIfInBounds_toArray, List.set_cons_zero, List.set_cons_succ])
      clear hHeld HSg c0 c1 c2 d0 d1 d2 wd
      have KE := hide (HK.out.trans KD.out)
      rcases hbb : decide (lnCmp u v < 0) with _ | _
      · have HLt : Hid (lnLt u v = false) := hide (by rw [← lnCmp_lt]; exact hbb)
        clear hbb
        go_wp2_with fail
        trace "NO"
        go_roundw
        case rel => exact ⟨cc + 1, r, by omega, by omega, hs3, by go_num, rfl, hide ⟨.inr ⟨u, v, by rw [← HT.out.2.1]; exact HU.out, by rw [← HT.out.2.2.2]; exact HV.out, HC1.out.1, HLt.out⟩, HF.out.2⟩, KE⟩
        case measure => simp [intOf]; omega
      · have HLt : Hid (lnLt u v = true) := hide (by rw [← lnCmp_lt]; exact hbb)
        clear hbb
        go_wp2_with fail
        trace "YES"
        go_roundw
        case rel => exact ⟨s, cc, hs1, hc1.1, by omega, rfl, rfl, hide ⟨HF.out.1, .inr ⟨u, v, by rw [← HT.out.1]; exact HU.out, by rw [← HT.out.2.2.1]; exact HV.out, HC1.out.2, HLt.out⟩⟩, KE⟩
        case measure => simp [intOf]; omega
    · have hsr2 : s = r := by omega
      subst hsr2
      have e1 : decide (s < s) = false := by simp
      obtain ⟨ee, hee⟩ : ∃ ee, nn = ee + s := ⟨nn - s, by have := HNN.out; omega⟩
      have we : IntKind.i64.wrap ((nn : Int) - (s : Int)) = (ee : Int) := by rw [IntWalk.i64_in _ (by omega)]; omega
      have hb3 : a ≤ s ∧ s ≤ m ∧ s ≤ mid ∧ m ≤ ee ∧ mid ≤ ee ∧ ee ≤ b := by have := HNN.out; omega
      obtain ⟨A1, hA1⟩ : ∃ A1, A1 = Al.take (s - a) := ⟨_, rfl⟩
      obtain ⟨A2, hA2⟩ : ∃ A2, A2 = Al.drop (s - a) := ⟨_, rfl⟩
      obtain ⟨B1, hB1⟩ : ∃ B1, B1 = Bl.take (ee - m) := ⟨_, rfl⟩
      obtain ⟨B2, hB2⟩ : ∃ B2, B2 = Bl.drop (ee - m) := ⟨_, rfl⟩
      have HM1 : Hid (mrgL Al Bl = mrgL A1 B1 ++ mrgL A2 B2) := hide (by
        rw [hA1, hA2, hB1, hB2]
        have e3 : ee - m = nn - s - m := by omega
        rw [e3]
        refine sym_cut HSA.out HSB.out ?_ ?_
        · rcases HF.out.1 with h | ⟨u, v, h⟩
          · rcases HS0.out with ⟨h3, _⟩ | ⟨h3, _, _⟩
            · exact .inl (by omega)
            · exact .inr (.inl (by have := HbB.out; have := HLB.out; omega))
          · exact .inr (.inr ⟨u, v, h⟩)
        · rcases HF.out.2 with h | ⟨u, v, h⟩
          · rcases HS0.out with ⟨_, h3⟩ | ⟨_, h3, _⟩
            · exact .inl (by have := HmA.out; have := HLA.out; omega)
            · exact .inr (.inl (by have := HNN.out; omega))
          · exact .inr (.inr ⟨u, v, h⟩))
      have HLn : Hid (A1.length = s - a ∧ A2.length = m - s ∧ B1.length = ee - m ∧ B2.length = b - ee ∧ Al = A1 ++ A2 ∧ Bl = B1 ++ B2 ∧ ee - m = mid - s ∧ m - s = ee - mid) := hide ⟨by rw [hA1, List.length_take]; have := HmA.out; have := HLA.out; omega, by rw [hA2, List.length_drop]; have := HmA.out; have := HLA.out; omega, by rw [hB1, List.length_take]; have := HbB.out; have := HLB.out; omega, by rw [hB2, List.length_drop]; have := HbB.out; have := HLB.out; omega, by rw [hA1, hA2, List.take_append_drop], by rw [hB1, hB2, List.take_append_drop], by have := HNN.out; omega, by have := HNN.out; omega⟩
      have HSd : Hid (Srt.Sd lnLt A1 ∧ Srt.Sd lnLt A2 ∧ Srt.Sd lnLt B1 ∧ Srt.Sd lnLt B2) := hide ⟨by rw [hA1]; exact HSA.out.sublist (List.take_sublist _ _), by rw [hA2]; exact HSA.out.sublist (List.drop_sublist _ _), by rw [hB1]; exact HSB.out.sublist (List.take_sublist _ _), by rw [hB2]; exact HSB.out.sublist (List.drop_sublist _ _)⟩
      have HL0 : Hid (Lns wr B (some ⟨g, 0, none⟩) n c (P ++ A1 ++ A2 ++ B1 ++ B2 ++ Q)) := hide (by
        have := H.out.kept HK.out (fun _ _ h => h)
        rw [HLn.out.2.2.2.2.1, HLn.out.2.2.2.2.2.1] at this
        simpa using this)
      have K0 := hide (HK.out.weak (S' := inB (some ⟨g, 0, none⟩)) (fun _ _ h => h.elim))
      have HKL : Hid (A1.length + A2.length + B1.length + B2.length = k) := hide (by have h5 := congrArg List.length HLn.out.2.2.2.2.1; have h6 := congrArg List.length HLn.out.2.2.2.2.2.1; simp at h5 h6; have := HK0.out; omega)
      clear hee hA1 hA2 hB1 hB2 HF H HK HSA HSB
      go_upto_region 39 with fail
      trace "R39"
      clear we
      have hrot : ∃ x1 x2 : Bool, decide (s < m) = x1 ∧ decide (m < ee) = x2 := ⟨_, _, rfl, rfl⟩
      by_cases hr : s < m ∧ m < ee
      case' pos =>
        have f1 : decide (s < m) = true := by simpa using hr.1
        have f2 : decide (m < ee) = true := by simpa using hr.2
        go_upto_region 40 with fail
        go_wp2_with fail
        trace "ROT"
        have hh := HL0.out
        have e4 : P ++ A1 ++ A2 ++ B1 ++ B2 ++ Q = (P ++ A1) ++ A2 ++ B1 ++ (B2 ++ Q) := by simp
        rw [e4] at hh
        refine (rotate_ok _ B _ n c (P ++ A1) A2 B1 (B2 ++ Q) _ s m ee (by have := HLn.out; have := HA.out; simp; omega) (by have := HLn.out; have := HA.out; simp; omega) (by have := HLn.out; have := HA.out; simp; omega) (by have := HLn.out; omega) (by have := HLn.out; omega) hh hn).mono ?_
        rintro e wa ⟨rfl, ha, ka⟩
        have HLa : Hid (Lns wa B (some ⟨g, 0, none⟩) n c (P ++ A1 ++ B1 ++ (A2 ++ B2 ++ Q))) := hide (by simpa using ha)
        have KA := hide (K0.out.trans ka)
        clear hh e4 ha ka hr
      case' neg =>
        obtain ⟨wa, rfl⟩ : ∃ wa : World, wa = wr := ⟨_, rfl⟩
        have HLa : Hid (Lns wa B (some ⟨g, 0, none⟩) n c (P ++ A1 ++ B1 ++ (A2 ++ B2 ++ Q))) := hide (by
          have h5 : A2 = [] ∨ B1 = [] := by
            have := HLn.out
            by_cases h6 : s < m
            · exact .inr (List.eq_nil_of_length_eq_zero (by omega))
            · exact .inl (List.eq_nil_of_length_eq_zero (by omega))
          have := HL0.out
          rcases h5 with h5 | h5 <;> (rw [h5] at this ⊢; simpa using this))
        have KA := K0
        by_cases h6 : s < m
        case' pos =>
          have f1 : decide (s < m) = true := by simpa using h6
          have f2 : decide (m < ee) = false := by simp; omega
        case' neg =>
          have f1 : decide (s < m) = false := by simp; omega
      all_goals
        by_cases hs5 : a < s ∧ s < mid
        case' pos =>
          have f3 : decide (a < s) = true := by simpa using hs5.1
          have f4 : decide (s < mid) = true := by simpa using hs5.2
          go_wp2_with fail
          trace "SYM1"
          refine (HIH.out _ B _ n c P A1 B1 (A2 ++ B2 ++ Q) a s mid (by have := HKL.out; have := HLn.out; omega) HA.out (by have := HLn.out; have := HA.out; omega) (by have := HLn.out; have := HA.out; omega) (by have := HLn.out; omega) (by have := HLn.out; omega) HSd.out.1 HSd.out.2.2.1 HLa.out hn).mono ?_
          rintro e wb ⟨rfl, hb, kb⟩
          have HLb : Hid (Lns wb B (some ⟨g, 0, none⟩) n c (P ++ mrgL A1 B1 ++ A2 ++ B2 ++ Q)) := hide (by simpa using hb)
          have KB := hide (KA.out.trans kb)
          clear hb kb hs5
        case' neg =>
          obtain ⟨wb, rfl⟩ : ∃ wb : World, wb = wa := ⟨_, rfl⟩
          have HLb : Hid (Lns wb B (some ⟨g, 0, none⟩) n c (P ++ mrgL A1 B1 ++ A2 ++ B2 ++ Q)) := hide (by
            have h5 : mrgL A1 B1 = A1 ++ B1 := by
              have := HLn.out
              by_cases h6 : a < s
              · rw [show B1 = [] from List.eq_nil_of_length_eq_zero (by omega)]
                show Srt.mrg lnLt A1 [] = _
                rw [Srt.mrg_nil', List.append_nil]
              · rw [show A1 = [] from List.eq_nil_of_length_eq_zero (by omega)]
                show Srt.mrg lnLt [] B1 = _
                rw [Srt.mrg_nil]; rfl
            rw [h5]
            simpa using HLa.out)
          have KB := KA
          by_cases h6 : a < s
          case' pos =>
            have f3 : decide (a < s) = true := by simpa using h6
            have f4 : decide (s < mid) = false := by simp; omega
          case' neg =>
            have f3 : decide (a < s) = false := by simp; omega
        all_goals
          by_cases hs6 : mid < ee ∧ ee < b
          case' pos =>
            have f5 : decide (mid < ee) = true := by simpa using hs6.1
            have f6 : decide (ee < b) = true := by simpa using hs6.2
            go_wp2_with fail
            trace "SYM2"
            refine (HIH.out _ B _ n c (P ++ mrgL A1 B1) A2 B2 Q mid ee b (by have := HKL.out; have := HLn.out; omega) (by have := HLn.out; have := HA.out; rw [List.length_append, Srt.mrg_len]; omega) (by have := HLn.out; have := HA.out; rw [List.length_append, Srt.mrg_len]; omega) (by have := HLn.out; have := HA.out; rw [List.length_append, Srt.mrg_len]; omega) (by have := HLn.out; omega) (by have := HLn.out; omega) HSd.out.2.1 HSd.out.2.2.2 HLb.out hn).mono ?_
            rintro e wc ⟨rfl, hc, kc⟩
            have HLc : Hid (Lns wc B (some ⟨g, 0, none⟩) n c (P ++ mrgL Al Bl ++ Q)) := hide (by rw [HM1.out]; simpa using hc)
            have KC := hide (KB.out.trans kc)
            clear hc kc hs6
          case' neg =>
            obtain ⟨wc, rfl⟩ : ∃ wc : World, wc = wb := ⟨_, rfl⟩
            have HLc : Hid (Lns wc B (some ⟨g, 0, none⟩) n c (P ++ mrgL Al Bl ++ Q)) := hide (by
              have h5 : mrgL A2 B2 = A2 ++ B2 := by
                have := HLn.out
                by_cases h6 : mid < ee
                · rw [show B2 = [] from List.eq_nil_of_length_eq_zero (by omega)]
                  show Srt.mrg lnLt A2 [] = _
                  rw [Srt.mrg_nil', List.append_nil]
                · rw [show A2 = [] from List.eq_nil_of_length_eq_zero (by omega)]
                  show Srt.mrg lnLt [] B2 = _
                  rw [Srt.mrg_nil]; rfl
              rw [HM1.out, h5]
              simpa using HLb.out)
            have KC := KB
            by_cases h6 : mid < ee
            case' pos =>
              have f5 : decide (mid < ee) = true := by simpa using h6
              have f6 : decide (ee < b) = false := by simp; omega
            case' neg =>
              have f5 : decide (mid < ee) = false := by simp; omega
          all_goals
            go_wp2_with fail
            trace "END"
            go_end0
            exact ⟨rfl, HLc.out, KC.out⟩
set_option maxRecDepth 100000 in
set_option maxHeartbeats 4000000 in
theorem sym3b (k : Nat) (ih : SymIH k) (w : World) (B : Nat) (A : Option Addr) (n c : Nat) (P Al Bl Q : List Ln) (a m b mid : Nat) (hk : Al.length + Bl.length = k) (ha : a = P.length) (hm : m = P.length + Al.length) (hb : b = P.length + Al.length + Bl.length) (h1 : 2 ≤ Al.length) (h2 : 2 ≤ Bl.length) (hsA : Srt.Sd lnLt Al) (hsB : Srt.Sd lnLt Bl) (h : Lns w B A n c (P ++ Al ++ Bl ++ Q)) (hn : n ≤ 1000000) (hmid : mid = (a + b) / 2) (hmm : m ≤ mid) :
    Calls Try.prog 84 #[.slice A n c, .int .i64 a, .int .i64 m, .int .i64 b, cmpV] w (SymPost w B A n c P (mrgL Al Bl) Q) := by
  have hl := h.len
  simp only [List.length_append] at hl
  obtain ⟨g, rfl, _⟩ := h.some_ (by omega)
  obtain ⟨LA, hLA⟩ : ∃ LA, LA = Al.length := ⟨_, rfl⟩
  obtain ⟨LB, hLB⟩ : ∃ LB, LB = Bl.length := ⟨_, rfl⟩
  have w1 : IntKind.i64.wrap ((m : Int) - (a : Int)) = (LA : Int) := by rw [IntWalk.i64_in _ (by omega)]; omega
  have w2 : IntKind.i64.wrap ((b : Int) - (m : Int)) = (LB : Int) := by rw [IntWalk.i64_in _ (by omega)]; omega
  have b1 : ((LA : Int) == 1) = false := by simp; omega
  have b2 : ((LB : Int) == 1) = false := by simp; omega
  obtain ⟨nn, hnn⟩ : ∃ nn, nn = mid + m := ⟨_, rfl⟩
  obtain ⟨pp, hpp⟩ : ∃ pp, nn = pp + 1 := ⟨nn - 1, by omega⟩
  have he : ((a : Int) + (b : Int)) / 2 = (mid : Int) := by omega
  have wn : IntKind.i64.wrap ((mid : Int) + (m : Int)) = (nn : Int) := by rw [IntWalk.i64_in _ (by omega)]; omega
  have wp_ : IntKind.i64.wrap ((nn : Int) - 1) = (pp : Int) := by rw [IntWalk.i64_in _ (by omega)]; omega
  obtain ⟨s0, hs0⟩ : ∃ s0, s0 = a := ⟨_, rfl⟩
  obtain ⟨r0, hr0⟩ : ∃ r0, r0 = m := ⟨_, rfl⟩
  have ws : IntKind.i64.wrap ((nn : Int) - (b : Int)) = ((nn - b : Nat) : Int) ∨ True := .inr trivial
  skip
  have emm : decide (mid < m) = false := by simp; omega
  have hmA : m = a + LA := by omega
  have hbB : b = m + LB := by omega
  have hbn : b ≤ n := by omega
  have hamid : a < mid ∧ mid < b := by omega
  have hsr : s0 ≤ r0 ∧ a ≤ s0 ∧ r0 ≤ m ∧ r0 ≤ mid ∧ nn ≤ b + s0 := by omega
  have HA := hide ha
  have HLA := hide hLA
  have HLB := hide hLB
  have HmA := hide hmA
  have HbB := hide hbB
  have HPP := hide hpp
  have HNN := hide hnn
  have HK0 := hide hk
  have HS0 : Hid ((s0 = a ∧ r0 = m) ∨ (s0 = nn - b ∧ r0 = mid ∧ b ≤ nn)) := hide (by omega)
  have HSA := hide hsA
  have HSB := hide hsB
  have HIH := hide ih
  have H := hide h
  have hnm : m ≤ nn ∧ mid ≤ nn := by omega
  have hppB : pp ≤ 2000000 ∧ nn ≤ 2000000 := by omega
  have HS00 := hide hs0
  have HR00 := hide hr0
  clear h ha hm hb hl hsA hsB hLA hLB hmA hbB hmid hpp hnn hk h1 h2 ih hs0 hr0 ws
  go_enter Try.func84, Try.ntmps84
  go_upto_region 33 with fail
  trace "LOOP5"
  clear w1 w2 b1 b2 he wn wp_ emm
  (try clear ws2)
  go_loopw [20, 21, 23] (fun sv rv _ wr => ∃ (s r : Nat), s0 ≤ s ∧ s ≤ r ∧ r ≤ r0 ∧ sv = .int .i64 (s : Int) ∧ rv = .int .i64 (r : Int) ∧ Hid ((s = s0 ∨ ∃ u v, Bl[nn - s - m]? = some u ∧ Al[s - a - 1]? = some v ∧ 1 ≤ s - a ∧ lnLt u v = false) ∧ (r = r0 ∨ ∃ u v, Bl[nn - r - m - 1]? = some u ∧ Al[r - a]? = some v ∧ 1 ≤ nn - r - m ∧ lnLt u v = true)) ∧ Hid (Keeps (fun _ => False) w wr)) (fun sv rv _ _ => (intOf rv).toNat - (intOf sv).toNat)
  case atStart => exact ⟨s0, r0, by omega, by omega, by omega, by first | rfl | rw [HS00.out], by first | rfl | rw [HR00.out], hide ⟨.inl rfl, .inl rfl⟩, hide (Keeps.refl _ _)⟩
  case round =>
    obtain ⟨s, r, hs1, hs2, hs3, rfl, rfl, HF, HK⟩ := hrel
    by_cases hlt : s < r
    · have e1 : decide (s < r) = true := by simpa using hlt
      obtain ⟨cc, hcc⟩ : ∃ cc : Nat, cc = (s + r) / 2 := ⟨_, rfl⟩
      have he : ((s : Int) + (r : Int)) / 2 = (cc : Int) := by omega
      have hc1 : s ≤ cc ∧ cc < r := by omega
      obtain ⟨d, hd⟩ : ∃ d, pp = d + cc := ⟨pp - cc, by have := HPP.out; have := HNN.out; omega⟩
      have wd : IntKind.i64.wrap ((pp : Int) - (cc : Int)) = (d : Int) := by rw [IntWalk.i64_in _ (by omega)]; omega
      have hdB : m ≤ d ∧ d < b := by have := HPP.out; have := HNN.out; omega
      obtain ⟨t, ht⟩ : ∃ t, d = m + t := ⟨d - m, by omega⟩
      obtain ⟨q, hq⟩ : ∃ q, cc = a + q := ⟨cc - a, by omega⟩
      have htL : t < LB := by have := HbB.out; omega
      have hqL : q < LA := by have := HmA.out; omega
      obtain ⟨u, hu⟩ : ∃ u, Bl[t]? = some u := ⟨Bl[t]'(by rw [← HLB.out]; exact htL), by simp⟩
      obtain ⟨v, hv⟩ : ∃ v, Al[q]? = some v := ⟨Al[q]'(by rw [← HLA.out]; exact hqL), by simp⟩
      have HLr : Hid (Lns wr B (some ⟨g, 0, none⟩) n c (P ++ Al ++ Bl ++ Q)) := hide (H.out.kept HK.out (fun _ _ h => h))
      have hgu : (P ++ Al ++ Bl ++ Q)[d]? = some u := at_mid (by have := HA.out; have := HmA.out; have := HLA.out; simp; omega) hu
      have hgv : (P ++ Al ++ Bl ++ Q)[cc]? = some v := by
        have := at_mid (P := P) (M := Al) (Q := Bl ++ Q) (i := cc) (t := q) (by have := HA.out; omega) hv
        simpa using this
      obtain ⟨c0, c1, c2⟩ := HLr.out.at_ hgu
      obtain ⟨d0, d1, d2⟩ := HLr.out.at_ hgv
      have HU := hide hu
      have HV := hide hv
      have HT : Hid (t = nn - cc - m - 1 ∧ t = nn - (cc + 1) - m ∧ q = cc - a ∧ q = cc + 1 - a - 1) := hide (by have := HPP.out; omega)
      have hdI : (d : Int) < (n : Int) := by omega
      have hcI : (cc : Int) < (n : Int) := by omega
      have hd0 : (0 : Int) ≤ (d : Int) := by omega
      have hc0 : (0 : Int) ≤ (cc : Int) := by omega
      have HC1 : Hid (1 ≤ cc + 1 - a ∧ 1 ≤ nn - cc - m) := hide (by have := HPP.out; omega)
      clear hcc hd ht hq hu hv hgu hgv htL hqL
      go_upto_region 35 with fail
      trace "R35"
      clear he
      have HSg : Hid (∀ W, Keeps (fun _ => False) wr W → (Keeps (fun _ => False) wr W ∧ W.cell? ⟨g, d * 3, none⟩ = some (.string u.key) ∧ W.cell? ⟨g, d * 3 + 1, none⟩ = some (.int .u64 u.lo) ∧ W.cell? ⟨g, d * 3 + 2, none⟩ = some (.int .u64 u.hi) ∧ W.cell? ⟨g, cc * 3, none⟩ = some (.string v.key) ∧ W.cell? ⟨g, cc * 3 + 1, none⟩ = some (.int .u64 v.lo) ∧ W.cell? ⟨g, cc * 3 + 2, none⟩ = some (.int .u64 v.hi))) := hide (fun W kW => ⟨kW, kW.cell_some c0 (fun h => h), kW.cell_some c1 (fun h => h), kW.cell_some c2 (fun h => h), kW.cell_some d0 (fun h => h), kW.cell_some d1 (fun h => h), kW.cell_some d2 (fun h => h)⟩)
      refine wp_region_held_drew (S := fun W => Keeps (fun _ => False) wr W ∧ W.cell? ⟨g, d * 3, none⟩ = some (.string u.key) ∧ W.cell? ⟨g, d * 3 + 1, none⟩ = some (.int .u64 u.lo) ∧ W.cell? ⟨g, d * 3 + 2, none⟩ = some (.int .u64 u.hi) ∧ W.cell? ⟨g, cc * 3, none⟩ = some (.string v.key) ∧ W.cell? ⟨g, cc * 3 + 1, none⟩ = some (.int .u64 v.lo) ∧ W.cell? ⟨g, cc * 3 + 2, none⟩ = some (.int .u64 v.hi)) (by kernel_rfl) (HSg.out _ ((Keeps.refl _ _).drew)) (fun hHeld => ?_)
      refine wpAnyH_take (i := 0) (v := ?_) rfl (by kernel_rfl) (by kernel_rfl) (by kernel_rfl) (fun _ _ _ h => h) (Or.inl ⟨by first | kernel_rfl | rfl, ?_⟩) (by assumption) ?_; rotate_left; focus (intro w hSw; (try dsimp only at hSw); go_simp; try (with_reducible rfl)); (try simp only [Act.put, List.getElem_toArray, List.getElem_cons_succ, List.getElem_cons_zero, List.setIfInBounds_toArray, List.set_cons_zero, List.set_cons_succ])
      refine wpAnyH_take (i := 1) (v := ?_) rfl (by kernel_rfl) (by kernel_rfl) (by kernel_rfl) (fun _ _ _ h => h) (Or.inl ⟨by first | kernel_rfl | rfl, ?_⟩) (by assumption) ?_; rotate_left; focus (intro w hSw; (try dsimp only at hSw); go_simp; try (with_reducible rfl)); (try simp only [Act.put, List.getElem_toArray, List.getElem_cons_succ, List.getElem_cons_zero, List.setIfInBounds_toArray, List.set_cons_zero, List.set_cons_succ])
      refine wpAnyH_take (i := 2) (v := ?_) rfl (by kernel_rfl) (by kernel_rfl) (by kernel_rfl) (fun _ _ _ h => h) (Or.inl ⟨by first | kernel_rfl | rfl, ?_⟩) (by assumption) ?_; rotate_left; focus (intro w hSw; (try dsimp only at hSw); go_simp; try (with_reducible rfl)); (try simp only [Act.put, List.getElem_toArray, List.getElem_cons_succ, List.getElem_cons_zero, List.setIfInBounds_toArray, List.set_cons_zero, List.set_cons_succ])
      refine wpAnyH_take (i := 3) (v := ?_) rfl (by kernel_rfl) (by kernel_rfl) (by kernel_rfl) (fun _ _ _ h => h) (Or.inl ⟨by first | kernel_rfl | rfl, ?_⟩) (by assumption) ?_; rotate_left; focus (intro w hSw; (try dsimp only at hSw); go_simp; try (with_reducible rfl)); (try simp only [Act.put, List.getElem_toArray, List.getElem_cons_succ, List.getElem_cons_zero, List.setIfInBounds_toArray, List.set_cons_zero, List.set_cons_succ])
      refine wpAnyH_take (i := 4) (v := ?_) rfl (by kernel_rfl) (by kernel_rfl) (by kernel_rfl) (fun _ _ _ h => h) (Or.inl ⟨by first | kernel_rfl | rfl, ?_⟩) (by assumption) ?_; rotate_left; focus (intro w hSw; (try dsimp only at hSw); go_simp; try (with_reducible rfl)); (try simp only [Act.put, List.getElem_toArray, List.getElem_cons_succ, List.getElem_cons_zero, List.setIfInBounds_toArray, List.set_cons_zero, List.set_cons_succ])
      refine wpAnyH_take (i := 5) (v := ?_) rfl (by kernel_rfl) (by kernel_rfl) (by kernel_rfl) (fun _ _ _ h => h) (Or.inl ⟨by first | kernel_rfl | rfl, ?_⟩) (by assumption) ?_; rotate_left; focus (intro w hSw; (try dsimp only at hSw); go_simp; try (with_reducible rfl)); (try simp only [Act.put, List.getElem_toArray, List.getElem_cons_succ, List.getElem_cons_zero, List.setIfInBounds_toArray, List.set_cons_zero, List.set_cons_succ])
      refine wpAnyH_take (i := 6) (v := ?_) rfl (by kernel_rfl) (by kernel_rfl) (by kernel_rfl) (fun _ _ _ h => h) (Or.inl ⟨by first | kernel_rfl | rfl, ?_⟩) (by assumption) ?_; rotate_left; focus (intro w hSw; (try dsimp only at hSw); go_simp; try (with_reducible rfl)); (try simp only [Act.put, List.getElem_toArray, List.getElem_cons_succ, List.getElem_cons_zero, List.setIfInBounds_toArray, List.set_cons_zero, List.set_cons_succ])
      refine wpAnyH_take (i := 7) (v := ?_) rfl (by kernel_rfl) (by kernel_rfl) (by kernel_rfl) (fun _ _ _ h => h) (Or.inl ⟨by first | kernel_rfl | rfl, ?_⟩) (by assumption) ?_; rotate_left; focus (intro w hSw; (try dsimp only at hSw); go_simp; try (with_reducible rfl)); (try simp only [Act.put, List.getElem_toArray, List.getElem_cons_succ, List.getElem_cons_zero, List.setIfInBounds_toArray, List.set_cons_zero, List.set_cons_succ])
      refine wpAnyH_take (i := 8) (v := ?_) rfl (by kernel_rfl) (by kernel_rfl) (by kernel_rfl) (fun _ _ _ h => h) (Or.inl ⟨by first | kernel_rfl | rfl, ?_⟩) (by assumption) ?_; rotate_left; focus (intro w hSw; (try dsimp only at hSw); go_simp; try (with_reducible rfl)); (try simp only [Act.put, List.getElem_toArray, List.getElem_cons_succ, List.getElem_cons_zero, List.setIfInBounds_toArray, List.set_cons_zero, List.set_cons_succ])
      refine wpAnyH_take (i := 9) (v := ?_) rfl (by kernel_rfl) (by kernel_rfl) (by kernel_rfl) (fun _ _ _ h => h) (Or.inl ⟨by first | kernel_rfl | rfl, ?_⟩) (by assumption) ?_; rotate_left; focus (intro w hSw; (try dsimp only at hSw); go_simp; try (with_reducible rfl)); (try simp only [Act.put, List.getElem_toArray, List.getElem_cons_succ, List.getElem_cons_zero, List.setIfInBounds_toArray, List.set_cons_zero, List.set_cons_succ])
      refine wpAnyH_take (i := 10) (v := ?_) rfl (by kernel_rfl) (by kernel_rfl) (by kernel_rfl) (fun _ _ _ h => h) (Or.inl ⟨by first | kernel_rfl | rfl, ?_⟩) (by assumption) ?_; rotate_left; focus (intro w hSw; (try dsimp only at hSw); go_simp; try (with_reducible rfl)); (try simp only [Act.put, List.getElem_toArray, List.getElem_cons_succ, List.getElem_cons_zero, List.setIfInBounds_toArray, List.set_cons_zero, List.set_cons_succ])
      refine wpAnyH_ready (rs := [11]) (by kernel_rfl) (by simp) ?_
      refine AllReadyH.cons rfl (fun K hK => ?_) AllReadyH.nil
      go_simp
      trace "CMP"
      go_at_call 58
      refine (cmp_any u v _).mono ?_
      rintro e w5 ⟨rfl, k5⟩
      have KD := hide (((Keeps.refl (fun _ => False) wr).drew).trans k5)
      (try go_wp2_with fail)
      refine hK.out _ _ (HSg.out _ KD.out) (fun _ => ?_)
      clear hK K k5
      (try simp only [Act.put, List.getElem_toArray, List.getElem_cons_succ, List.getElem_cons_zero, List.setIfInBounds_toArray, List.set_cons_zero, List.set_cons_succ])
      refine wpAnyH_take (i := 12) (v := ?_) rfl (by kernel_rfl) (by kernel_rfl) (by kernel_rfl) (fun _ _ _ h => h) (Or.inl ⟨by first | kernel_rfl | rfl, ?_⟩) (by assumption) ?_; rotate_left; focus (intro w hSw; (try dsimp only at hSw); go_simp; try (with_reducible rfl)); (try simp only [Act.put, List.getElem_toArray, List.getElem_cons_succ, List.getElem_cons_zero, List.setIfInBounds_toArray, List.set_cons_zero, List.set_cons_succ])
      refine wpAnyH_take (i := 13) (v := ?_) rfl (by kernel_rfl) (by kernel_rfl) (by kernel_rfl) (fun _ _ _ h => h) (Or.inl ⟨by first | kernel_rfl | rfl, ?_⟩) (by assumption) ?_; rotate_left; focus (intro w hSw; (try dsimp only at hSw); go_simp; try (with_reducible rfl)); (try simp only [Act.put, List.getElem_toArray, List.getElem_cons_succ, List.getElem_cons_zero, List.setIfInBounds_toArray, List.set_cons_zero, List.set_cons_succ])
      refine wpAnyH_done (by kernel_rfl) ?_ _
      (try simp only [Act.put, List.getElem_toArray, List.getElem_cons_succ, List.getElem_cons_zero, List.setIfInBounds_toArray, List.set_cons_zero, List.set_cons_succ])
      clear hHeld HSg c0 c1 c2 d0 d1 d2 wd
      have KE := hide (HK.out.trans KD.out)
      rcases hbb : decide (lnCmp u v < 0) with _ | _
      · have HLt : Hid (lnLt u v = false) := hide (by rw [← lnCmp_lt]; exact hbb)
        clear hbb
        go_wp2_with fail
        trace "NO"
        go_roundw
        case rel => exact ⟨cc + 1, r, by omega, by omega, hs3, by go_num, rfl, hide ⟨.inr ⟨u, v, by rw [← HT.out.2.1]; exact HU.out, by rw [← HT.out.2.2.2]; exact HV.out, HC1.out.1, HLt.out⟩, HF.out.2⟩, KE⟩
        case measure => simp [intOf]; omega
      · have HLt : Hid (lnLt u v = true) := hide (by rw [← lnCmp_lt]; exact hbb)
        clear hbb
        go_wp2_with fail
        trace "YES"
        go_roundw
        case rel => exact ⟨s, cc, hs1, hc1.1, by omega, rfl, rfl, hide ⟨HF.out.1, .inr ⟨u, v, by rw [← HT.out.1]; exact HU.out, by rw [← HT.out.2.2.1]; exact HV.out, HC1.out.2, HLt.out⟩⟩, KE⟩
        case measure => simp [intOf]; omega
    · have hsr2 : s = r := by omega
      subst hsr2
      have e1 : decide (s < s) = false := by simp
      obtain ⟨ee, hee⟩ : ∃ ee, nn = ee + s := ⟨nn - s, by have := HNN.out; omega⟩
      have we : IntKind.i64.wrap ((nn : Int) - (s : Int)) = (ee : Int) := by rw [IntWalk.i64_in _ (by omega)]; omega
      have hb3 : a ≤ s ∧ s ≤ m ∧ s ≤ mid ∧ m ≤ ee ∧ mid ≤ ee ∧ ee ≤ b := by have := HNN.out; omega
      obtain ⟨A1, hA1⟩ : ∃ A1, A1 = Al.take (s - a) := ⟨_, rfl⟩
      obtain ⟨A2, hA2⟩ : ∃ A2, A2 = Al.drop (s - a) := ⟨_, rfl⟩
      obtain ⟨B1, hB1⟩ : ∃ B1, B1 = Bl.take (ee - m) := ⟨_, rfl⟩
      obtain ⟨B2, hB2⟩ : ∃ B2, B2 = Bl.drop (ee - m) := ⟨_, rfl⟩
      have HM1 : Hid (mrgL Al Bl = mrgL A1 B1 ++ mrgL A2 B2) := hide (by
        rw [hA1, hA2, hB1, hB2]
        have e3 : ee - m = nn - s - m := by omega
        rw [e3]
        refine sym_cut HSA.out HSB.out ?_ ?_
        · rcases HF.out.1 with h | ⟨u, v, h⟩
          · rcases HS0.out with ⟨h3, _⟩ | ⟨h3, _, _⟩
            · exact .inl (by omega)
            · exact .inr (.inl (by have := HbB.out; have := HLB.out; omega))
          · exact .inr (.inr ⟨u, v, h⟩)
        · rcases HF.out.2 with h | ⟨u, v, h⟩
          · rcases HS0.out with ⟨_, h3⟩ | ⟨_, h3, _⟩
            · exact .inl (by have := HmA.out; have := HLA.out; omega)
            · exact .inr (.inl (by have := HNN.out; omega))
          · exact .inr (.inr ⟨u, v, h⟩))
      have HLn : Hid (A1.length = s - a ∧ A2.length = m - s ∧ B1.length = ee - m ∧ B2.length = b - ee ∧ Al = A1 ++ A2 ∧ Bl = B1 ++ B2 ∧ ee - m = mid - s ∧ m - s = ee - mid) := hide ⟨by rw [hA1, List.length_take]; have := HmA.out; have := HLA.out; omega, by rw [hA2, List.length_drop]; have := HmA.out; have := HLA.out; omega, by rw [hB1, List.length_take]; have := HbB.out; have := HLB.out; omega, by rw [hB2, List.length_drop]; have := HbB.out; have := HLB.out; omega, by rw [hA1, hA2, List.take_append_drop], by rw [hB1, hB2, List.take_append_drop], by have := HNN.out; omega, by have := HNN.out; omega⟩
      have HSd : Hid (Srt.Sd lnLt A1 ∧ Srt.Sd lnLt A2 ∧ Srt.Sd lnLt B1 ∧ Srt.Sd lnLt B2) := hide ⟨by rw [hA1]; exact HSA.out.sublist (List.take_sublist _ _), by rw [hA2]; exact HSA.out.sublist (List.drop_sublist _ _), by rw [hB1]; exact HSB.out.sublist (List.take_sublist _ _), by rw [hB2]; exact HSB.out.sublist (List.drop_sublist _ _)⟩
      have HL0 : Hid (Lns wr B (some ⟨g, 0, none⟩) n c (P ++ A1 ++ A2 ++ B1 ++ B2 ++ Q)) := hide (by
        have := H.out.kept HK.out (fun _ _ h => h)
        rw [HLn.out.2.2.2.2.1, HLn.out.2.2.2.2.2.1] at this
        simpa using this)
      have K0 := hide (HK.out.weak (S' := inB (some ⟨g, 0, none⟩)) (fun _ _ h => h.elim))
      have HKL : Hid (A1.length + A2.length + B1.length + B2.length = k) := hide (by have h5 := congrArg List.length HLn.out.2.2.2.2.1; have h6 := congrArg List.length HLn.out.2.2.2.2.2.1; simp at h5 h6; have := HK0.out; omega)
      clear hee hA1 hA2 hB1 hB2 HF H HK HSA HSB
      go_upto_region 39 with fail
      trace "R39"
      clear we
      have hrot : ∃ x1 x2 : Bool, decide (s < m) = x1 ∧ decide (m < ee) = x2 := ⟨_, _, rfl, rfl⟩
      by_cases hr : s < m ∧ m < ee
      case' pos =>
        have f1 : decide (s < m) = true := by simpa using hr.1
        have f2 : decide (m < ee) = true := by simpa using hr.2
        go_upto_region 40 with fail
        go_wp2_with fail
        trace "ROT"
        have hh := HL0.out
        have e4 : P ++ A1 ++ A2 ++ B1 ++ B2 ++ Q = (P ++ A1) ++ A2 ++ B1 ++ (B2 ++ Q) := by simp
        rw [e4] at hh
        refine (rotate_ok _ B _ n c (P ++ A1) A2 B1 (B2 ++ Q) _ s m ee (by have := HLn.out; have := HA.out; simp; omega) (by have := HLn.out; have := HA.out; simp; omega) (by have := HLn.out; have := HA.out; simp; omega) (by have := HLn.out; omega) (by have := HLn.out; omega) hh hn).mono ?_
        rintro e wa ⟨rfl, ha, ka⟩
        have HLa : Hid (Lns wa B (some ⟨g, 0, none⟩) n c (P ++ A1 ++ B1 ++ (A2 ++ B2 ++ Q))) := hide (by simpa using ha)
        have KA := hide (K0.out.trans ka)
        clear hh e4 ha ka hr
      case' neg =>
        obtain ⟨wa, rfl⟩ : ∃ wa : World, wa = wr := ⟨_, rfl⟩
        have HLa : Hid (Lns wa B (some ⟨g, 0, none⟩) n c (P ++ A1 ++ B1 ++ (A2 ++ B2 ++ Q))) := hide (by
          have h5 : A2 = [] ∨ B1 = [] := by
            have := HLn.out
            by_cases h6 : s < m
            · exact .inr (List.eq_nil_of_length_eq_zero (by omega))
            · exact .inl (List.eq_nil_of_length_eq_zero (by omega))
          have := HL0.out
          rcases h5 with h5 | h5 <;> (rw [h5] at this ⊢; simpa using this))
        have KA := K0
        by_cases h6 : s < m
        case' pos =>
          have f1 : decide (s < m) = true := by simpa using h6
          have f2 : decide (m < ee) = false := by simp; omega
        case' neg =>
          have f1 : decide (s < m) = false := by simp; omega
      all_goals
        by_cases hs5 : a < s ∧ s < mid
        case' pos =>
          have f3 : decide (a < s) = true := by simpa using hs5.1
          have f4 : decide (s < mid) = true := by simpa using hs5.2
          go_wp2_with fail
          trace "SYM1"
          refine (HIH.out _ B _ n c P A1 B1 (A2 ++ B2 ++ Q) a s mid (by have := HKL.out; have := HLn.out; omega) HA.out (by have := HLn.out; have := HA.out; omega) (by have := HLn.out; have := HA.out; omega) (by have := HLn.out; omega) (by have := HLn.out; omega) HSd.out.1 HSd.out.2.2.1 HLa.out hn).mono ?_
          rintro e wb ⟨rfl, hb, kb⟩
          have HLb : Hid (Lns wb B (some ⟨g, 0, none⟩) n c (P ++ mrgL A1 B1 ++ A2 ++ B2 ++ Q)) := hide (by simpa using hb)
          have KB := hide (KA.out.trans kb)
          clear hb kb hs5
        case' neg =>
          obtain ⟨wb, rfl⟩ : ∃ wb : World, wb = wa := ⟨_, rfl⟩
          have HLb : Hid (Lns wb B (some ⟨g, 0, none⟩) n c (P ++ mrgL A1 B1 ++ A2 ++ B2 ++ Q)) := hide (by
            have h5 : mrgL A1 B1 = A1 ++ B1 := by
              have := HLn.out
              by_cases h6 : a < s
              · rw [show B1 = [] from List.eq_nil_of_length_eq_zero (by omega)]
                show Srt.mrg lnLt A1 [] = _
                rw [Srt.mrg_nil', List.append_nil]
              · rw [show A1 = [] from List.eq_nil_of_length_eq_zero (by omega)]
                show Srt.mrg lnLt [] B1 = _
                rw [Srt.mrg_nil]; rfl
            rw [h5]
            simpa using HLa.out)
          have KB := KA
          by_cases h6 : a < s
          case' pos =>
            have f3 : decide (a < s) = true := by simpa using h6
            have f4 : decide (s < mid) = false := by simp; omega
          case' neg =>
            have f3 : decide (a < s) = false := by simp; omega
        all_goals
          by_cases hs6 : mid < ee ∧ ee < b
          case' pos =>
            have f5 : decide (mid < ee) = true := by simpa using hs6.1
            have f6 : decide (ee < b) = true := by simpa using hs6.2
            go_wp2_with fail
            trace "SYM2"
            refine (HIH.out _ B _ n c (P ++ mrgL A1 B1) A2 B2 Q mid ee b (by have := HKL.out; have := HLn.out; omega) (by have := HLn.out; have := HA.out; rw [List.length_append, Srt.mrg_len]; omega) (by have := HLn.out; have := HA.out; rw [List.length_append, Srt.mrg_len]; omega) (by have := HLn.out; have := HA.out; rw [List.length_append, Srt.mrg_len]; omega) (by have := HLn.out; omega) (by have := HLn.out; omega) HSd.out.2.1 HSd.out.2.2.2 HLb.out hn).mono ?_
            rintro e wc ⟨rfl, hc, kc⟩
            have HLc : Hid (Lns wc B (some ⟨g, 0, none⟩) n c (P ++ mrgL Al Bl ++ Q)) := hide (by rw [HM1.out]; simpa using hc)
            have KC := hide (KB.out.trans kc)
            clear hc kc hs6
          case' neg =>
            obtain ⟨wc, rfl⟩ : ∃ wc : World, wc = wb := ⟨_, rfl⟩
            have HLc : Hid (Lns wc B (some ⟨g, 0, none⟩) n c (P ++ mrgL Al Bl ++ Q)) := hide (by
              have h5 : mrgL A2 B2 = A2 ++ B2 := by
                have := HLn.out
                by_cases h6 : mid < ee
                · rw [show B2 = [] from List.eq_nil_of_length_eq_zero (by omega)]
                  show Srt.mrg lnLt A2 [] = _
                  rw [Srt.mrg_nil', List.append_nil]
                · rw [show A2 = [] from List.eq_nil_of_length_eq_zero (by omega)]
                  show Srt.mrg lnLt [] B2 = _
                  rw [Srt.mrg_nil]; rfl
              rw [HM1.out, h5]
              simpa using HLb.out)
            have KC := KB
            by_cases h6 : mid < ee
            case' pos =>
              have f5 : decide (mid < ee) = true := by simpa using h6
              have f6 : decide (ee < b) = false := by simp; omega
            case' neg =>
              have f5 : decide (mid < ee) = false := by simp; omega
          all_goals
            go_wp2_with fail
            trace "END"
            go_end0
            exact ⟨rfl, HLc.out, KC.out⟩
end Go.Proofs.Ytmbgnekilgobaaa
