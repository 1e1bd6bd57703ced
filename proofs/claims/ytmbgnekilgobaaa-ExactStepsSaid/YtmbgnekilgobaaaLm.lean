
/-
  slices.SortStableFunc's parts: the merge in place, its two small cases. No conditions beyond those of the statement.
-/
import Derived.Test.YtmbgnekilgobaaaLc
set_option linter.unusedVariables false
set_option linter.unusedSimpArgs false
namespace Go.Proofs.Ytmbgnekilgobaaa
open Go.RowKit
abbrev mrgL (A B : List Ln) : List Ln := Srt.mrg lnLt A B
/-- what the merge in place gives -/
def SymPost (w : World) (B : Nat) (A : Option Addr) (n c : Nat) (P M Q : List Ln) (e : Ending) (w' : World) : Prop := e = .returned (.tuple #[]) ∧ Lns w' B A n c (P ++ M ++ Q) ∧ Keeps (inB A) w w'
/-- one line before a list in order -/
theorem mrg_one {x : Ln} {L : List Ln} (hs : Srt.Sd lnLt L) (p : Nat) (hp : p ≤ L.length) (h1 : p = 0 ∨ ∃ y, L[p - 1]? = some y ∧ lnLt y x = true) (h2 : p = L.length ∨ ∃ y, L[p]? = some y ∧ lnLt y x = false) : mrgL [x] L = L.take p ++ x :: L.drop p := by
  have ha : ∀ y ∈ L.take p, lnLt y x = true := fun y hy => by
    rcases h1 with h1 | ⟨z, hz, hl⟩
    · subst h1; simp at hy
    · obtain ⟨q, hq⟩ := List.getElem?_of_mem hy
      rw [List.getElem?_take] at hq
      split at hq
      · next hqp =>
        rcases Nat.lt_or_ge q (p - 1) with h | h
        · have h3 : lnLt z y = false := by
            have := List.pairwise_iff_getElem.1 hs q (p - 1) (by omega) (by omega) h
            obtain ⟨e1, e2⟩ := List.getElem?_eq_some_iff.1 hq
            obtain ⟨e3, e4⟩ := List.getElem?_eq_some_iff.1 hz
            rw [e2, e4] at this
            exact this
          rcases e : lnLt y x with _ | _
          · have := lnLt_wk.nt z y x h3 e
            rw [hl] at this
            cases this
          · rfl
        · have : q = p - 1 := by omega
          subst this
          rw [hz] at hq; injection hq with hq; subst hq
          exact hl
      · cases hq
  have hb : ∀ y ∈ L.drop p, lnLt y x = false := fun y hy => by
    rcases h2 with h2 | ⟨z, hz, hl⟩
    · subst h2; simp at hy
    · obtain ⟨q, hq⟩ := List.getElem?_of_mem hy
      rw [List.getElem?_drop] at hq
      rcases Nat.eq_zero_or_pos q with h | h
      · subst h
        rw [Nat.add_zero, hz] at hq; injection hq with hq; subst hq
        exact hl
      · have h3 : lnLt y z = false := by
          have := List.pairwise_iff_getElem.1 hs p (p + q) (List.getElem?_eq_some_iff.1 hz).1 (List.getElem?_eq_some_iff.1 hq).1 (by omega)
          obtain ⟨e1, e2⟩ := List.getElem?_eq_some_iff.1 hq
          obtain ⟨e3, e4⟩ := List.getElem?_eq_some_iff.1 hz
          rw [e2, e4] at this
          exact this
        exact lnLt_wk.nt y z x h3 hl
  have e1 := Srt.mrg_cut' (lt := lnLt) [] [x] (L.take p) (L.drop p) (by simp) (by simpa using ha)
  have e2 := Srt.mrg_cut' (lt := lnLt) [x] [] [] (L.drop p) (by simpa using hb) (by simp)
  rw [List.take_append_drop] at e1
  simp [Srt.mrg_nil, Srt.mrg_nil'] at e1 e2
  show Srt.mrg lnLt [x] L = _
  rw [e1, e2]
theorem at_mid {P M Q : List Ln} {y : Ln} {i t : Nat} (hi : i = P.length + t) (ht : M[t]? = some y) : (P ++ M ++ Q)[i]? = some y := by
  have h1 := (List.getElem?_eq_some_iff.1 ht).1
  rw [List.append_assoc, List.getElem?_append_right (by omega), List.getElem?_append_left (by omega), ← ht]
  congr 1
  omega
set_option maxRecDepth 100000 in
set_option maxHeartbeats 2000000 in
theorem sym1 (w : World) (B : Nat) (A : Option Addr) (n c : Nat) (P Bl Q : List Ln) (x : Ln) (a m b : Nat) (ha : a = P.length) (hm : m = P.length + 1) (hb : b = P.length + 1 + Bl.length) (hs : Srt.Sd lnLt Bl) (h : Lns w B A n c (P ++ [x] ++ Bl ++ Q)) (hn : n ≤ 1000000) :
    Calls Try.prog 84 #[.slice A n c, .int .i64 a, .int .i64 m, .int .i64 b, cmpV] w (SymPost w B A n c P (mrgL [x] Bl) Q) := by
  have hl := h.len
  simp only [List.length_append, List.length_cons, List.length_nil] at hl
  obtain ⟨g, rfl, _⟩ := h.some_ (by omega)
  obtain ⟨L, hL⟩ : ∃ L, L = Bl.length := ⟨_, rfl⟩
  have w1 : IntKind.i64.wrap ((m : Int) - (a : Int)) = 1 := by rw [IntWalk.i64_in _ (by omega)]; omega
  have hb1 : b = m + L := by omega
  have hm1 : m = a + 1 := by omega
  have hbn : b ≤ n := by omega
  have HA := hide ha
  have HLl := hide hL
  have HBM := hide hb1
  have HMA := hide hm1
  have HSd := hide hs
  have H := hide h
  have hgx : (P ++ [x] ++ Bl ++ Q)[a]? = some x := by rw [List.append_assoc, List.append_assoc]; exact pc1 ha
  obtain ⟨c0, c1, c2⟩ := h.at_ hgx
  have han : a < n := by omega
  have ham : a + 1 ≤ m := by omega
  have hmb : m ≤ b := by omega
  clear h ha hb hl hs hL hb1 hm1 hm hgx
  go_enter Try.func84, Try.ntmps84
  go_upto_region 3 with fail
  trace "LOOP1"
  go_loopw [10, 11, 12] (fun iv jv _ wr => ∃ (i j p q : Nat), i ≤ j ∧ j ≤ b ∧ m ≤ i ∧ iv = .int .i64 (i : Int) ∧ jv = .int .i64 (j : Int) ∧ Hid (i = m + p ∧ j = m + q ∧ (p = 0 ∨ ∃ y, Bl[p - 1]? = some y ∧ lnLt y x = true) ∧ (q = L ∨ ∃ y, Bl[q]? = some y ∧ lnLt y x = false)) ∧ Hid (Keeps (fun _ => False) w wr)) (fun iv jv _ _ => (intOf jv).toNat - (intOf iv).toNat)
  case atStart => exact ⟨m, b, 0, L, by omega, by omega, by omega, rfl, rfl, hide ⟨rfl, HBM.out, .inl rfl, .inl rfl⟩, hide (Keeps.refl _ _)⟩
  case round =>
    obtain ⟨i, j, p, q, hij, hjb, hmi, rfl, rfl, HF, HK⟩ := hrel
    by_cases hlt : i < j
    · have e1 : decide (i < j) = true := by simpa using hlt
      obtain ⟨h, hh⟩ : ∃ h : Nat, h = (i + j) / 2 := ⟨_, rfl⟩
      have he : ((i : Int) + (j : Int)) / 2 = (h : Int) := by omega
      have hb1 : i ≤ h ∧ h < j := by omega
      obtain ⟨t, ht⟩ : ∃ t, h = m + t := ⟨h - m, by omega⟩
      have htL : t < L := by have := HBM.out; omega
      obtain ⟨y, hy⟩ : ∃ y, Bl[t]? = some y := ⟨Bl[t]'(by rw [← HLl.out]; exact htL), by simp⟩
      have hgy : (P ++ [x] ++ Bl ++ Q)[h]? = some y := at_mid (by have := HMA.out; have := HA.out; simp; omega) hy
      have HLr : Hid (Lns wr B (some ⟨g, 0, none⟩) n c (P ++ [x] ++ Bl ++ Q)) := hide (H.out.kept HK.out (fun _ _ h => h))
      have hgx : (P ++ [x] ++ Bl ++ Q)[a]? = some x := by rw [List.append_assoc, List.append_assoc]; exact pc1 HA.out
      obtain ⟨d0, d1, d2⟩ := HLr.out.at_ hgx
      clear c0 c1 c2
      obtain ⟨c0, c1, c2⟩ := HLr.out.at_ hgy
      have HT := hide ht
      have HY := hide hy
      have hhI : (h : Int) < (n : Int) := by omega
      have haI : (a : Int) < (n : Int) := by omega
      have hh0 : (0 : Int) ≤ (h : Int) := by omega
      have ha0 : (0 : Int) ≤ (a : Int) := by omega
      clear hh ht hy hgy hgx
      go_upto_region 5 with fail
      trace "R5"
      clear he
      have HSg : Hid (∀ W, Keeps (fun _ => False) wr W → (Keeps (fun _ => False) wr W ∧ W.cell? ⟨g, h * 3, none⟩ = some (.string y.key) ∧ W.cell? ⟨g, h * 3 + 1, none⟩ = some (.int .u64 y.lo) ∧ W.cell? ⟨g, h * 3 + 2, none⟩ = some (.int .u64 y.hi) ∧ W.cell? ⟨g, a * 3, none⟩ = some (.string x.key) ∧ W.cell? ⟨g, a * 3 + 1, none⟩ = some (.int .u64 x.lo) ∧ W.cell? ⟨g, a * 3 + 2, none⟩ = some (.int .u64 x.hi))) := hide (fun W kW => ⟨kW, kW.cell_some c0 (fun h => h), kW.cell_some c1 (fun h => h), kW.cell_some c2 (fun h => h), kW.cell_some d0 (fun h => h), kW.cell_some d1 (fun h => h), kW.cell_some d2 (fun h => h)⟩)
      refine wp_region_held_drew (S := fun W => Keeps (fun _ => False) wr W ∧ W.cell? ⟨g, h * 3, none⟩ = some (.string y.key) ∧ W.cell? ⟨g, h * 3 + 1, none⟩ = some (.int .u64 y.lo) ∧ W.cell? ⟨g, h * 3 + 2, none⟩ = some (.int .u64 y.hi) ∧ W.cell? ⟨g, a * 3, none⟩ = some (.string x.key) ∧ W.cell? ⟨g, a * 3 + 1, none⟩ = some (.int .u64 x.lo) ∧ W.cell? ⟨g, a * 3 + 2, none⟩ = some (.int .u64 x.hi)) (by kernel_rfl) (HSg.out _ ((Keeps.refl _ _).drew)) (fun hHeld => ?_)
      refine wpAnyH_take (i := 0) (v := ?_) rfl (by kernel_rfl) (by kernel_rfl) (by kernel_rfl) (fun _ _ _ h => h) (Or.inl ⟨by first | kernel_rfl | rfl, ?_⟩) (by assumption) ?_; rotate_left; focus (intro w hSw; (try dsimp only at hSw); go_simp; try (with_reducible rfl)); (try simp only [Act.put, List.getElem_toArray, List.getElem_cons_succ, List.getElem_cons_zero, List.setIfInBounds_toArray, List.set_cons_zero, List.set_cons_succ])
      refine wpAnyH_take (i := 1) (v := ?_) rfl (by kernel_rfl) (by kernel_rfl) (by kernel_rfl) (fun _ _ _ h => h) (Or.inl ⟨by first | kernel_rfl | rfl, ?_⟩) (by assumption) ?_; rotate_left; focus (intro w hSw; (try dsimp only at hSw); go_simp; try (with_reducible rfl)); (try simp only [Act.put, List.getElem_toArray, List.getElem_cons_succ, List.getElem_cons_zero, List.setIfInBounds_toArray, List.set_cons_zero, List.set_cons_succ])
      refine wpAnyH_take (i := 2) (v := ?_) rfl (by kernel_rfl) (by kernel_rfl) (by kernel_rfl) (fun _ _ _ h => h) (Or.inl ⟨by first | kernel_rfl | rfl, ?_⟩) (by assumption) ?_; rotate_left; focus (intro w hSw; (try dsimp only at hSw); go_simp; try (with_reducible rfl)); (try simp only [Act.put, List.getElem_toArray, List.getElem_cons_succ, List.getElem_cons_zero, List.setIfInBounds_toArray, List.set_cons_zero, List.set_cons_succ])
      refine wpAnyH_take (i := 3) (v := ?_) rfl (by kernel_rfl) (by kernel_rfl) (by kernel_rfl) (fun _ _ _ h => h) (Or.inl ⟨by first | kernel_rfl | rfl, ?_⟩) (by assumption) ?_; rotate_left; focus (intro w hSw; (try dsimp only at hSw); go_simp; try (with_reducible rfl)); (try simp only [Act.put, List.getElem_toArray, List.getElem_cons_succ, List.getElem_cons_zero, List.setIfInBounds_toArray, List.set_cons_zero, List.set_cons_succ])
      refine wpAnyH_take (i := 4) (v := ?_) rfl (by kernel_rfl) (by kernel_rfl) (by kernel_rfl) (fun _ _ _ h => h) (Or.inl ⟨by first | kernel_rfl | rfl, ?_⟩) (by assumption) ?_; rotate_left; focus (intro w hSw; (try dsimp only at hSw); go_simp; try (with_reducible rfl)); (try simp only [Act.put, List.getElem_toArray, List.getElem_cons_succ, List.getElem_cons_zero, List.setIfInBounds_toArray, List.set_cons_zero, List.set_cons_succ])
      refine wpAnyH_take (i := 5) (v := ?_) rfl (by kernel_rfl) (by kernel_rfl) (by kernel_rfl) (fun _ _ _ h => h) (Or.inl ⟨by first | kernel_rfl | rfl, ?_⟩) (by assumption) ?_; rotate_left; focus (intro w hSw; (try dsimp only at hSw); go_simp; try (with_reducible rfl)); (try simp only [Act.put, List.getElem_toArray, List.getElem_cons_succ, List.getElem_cons_zero, List.setIfInBounds_toArray, List.set_cons_zero, List.set_cons_succ])
      refine wpAnyH_take (i := 6) (v := ?_) rfl (by kernel_rfl) (by kernel_rfl) (by kernel_rfl) (fun _ _ _ h => h) (Or.inl ⟨by first | kernel_rfl | rfl, ?_⟩) (by assumption) ?_; rotate_left; focus (intro w hSw; (try dsimp only at hSw); go_simp; try (with_reducible rfl)); (try simp only [Act.put, List.getElem_toArray, List.getElem_cons_succ, List.getElem_cons_zero, List.setIfInBounds_toArray, List.set_cons_zero, List.set_cons_succ])
      refine wpAnyH_take (i := 7) (v := ?_) rfl (by kernel_rfl) (by kernel_rfl) (by kernel_rfl) (fun _ _ _ h => h) (Or.inl ⟨by first | kernel_rfl | rfl, ?_⟩) (by assumption) ?_; rotate_left; focus (intro w hSw; (try dsimp only at hSw); go_simp; try (with_reducible rfl)); (try simp only [Act.put, List.getElem_toArray, List.getElem_cons_succ, List.getElem_cons_zero, List.setIfInBounds_toArray, List.set_cons_zero, List.set_cons_succ])
      refine wpAnyH_take (i := 8) (v := ?_) rfl (by kernel_rfl) (by kernel_rfl) (by kernel_rfl) (fun _ _ _ h => h) (Or.inl ⟨by first | kernel_rfl | rfl, ?_⟩) (by assumption) ?_; rotate_left; focus (intro w hSw; (try dsimp only at hSw); go_simp; try (with_reducible rfl)); (try simp only [Act.put, List.getElem_toArray, List.getElem_cons_succ, List.getElem_cons_zero, List.setIfInBounds_toArray, List.set_cons_zero, List.set_cons_succ])
      refine wpAnyH_ready (rs := [9]) (by kernel_rfl) (by simp) ?_
      refine AllReadyH.cons rfl (fun K hK => ?_) AllReadyH.nil
      go_simp
      trace "CMP"
      go_at_call 58
      refine (cmp_any y x _).mono ?_
      rintro e w5 ⟨rfl, k5⟩
      have KD := hide (((Keeps.refl (fun _ => False) wr).drew).trans k5)
      (try go_wp2_with fail)
      refine hK.out _ _ (HSg.out _ KD.out) (fun _ => ?_)
      clear hK K k5
      (try simp only [Act.put, List.getElem_toArray, List.getElem_cons_succ, List.getElem_cons_zero, List.setIfInBounds_toArray, List.set_cons_zero, List.set_cons_succ])
      refine wpAnyH_take (i := 10) (v := ?_) rfl (by kernel_rfl) (by kernel_rfl) (by kernel_rfl) (fun _ _ _ h => h) (Or.inl ⟨by first | kernel_rfl | rfl, ?_⟩) (by assumption) ?_; rotate_left; focus (intro w hSw; (try dsimp only at hSw); go_simp; try (with_reducible rfl)); (try simp only [Act.put, List.getElem_toArray, List.getElem_cons_succ, List.getElem_cons_zero, List.setIfInBounds_toArray, List.set_cons_zero, List.set_cons_succ])
      refine wpAnyH_done (by kernel_rfl) ?_ _
      (try simp only [Act.put, List.getElem_toArray, List.getElem_cons_succ, List.getElem_cons_zero, List.setIfInBounds_toArray, List.set_cons_zero, List.set_cons_succ])
      clear hHeld HSg c0 c1 c2 d0 d1 d2
      have KE := hide (HK.out.trans KD.out)
      rcases hbb : decide (lnCmp y x < 0) with _ | _
      · have HLt : Hid (lnLt y x = false) := hide (by rw [← lnCmp_lt]; exact hbb)
        clear hbb
        go_wp2_with fail
        trace "NO"
        go_roundw
        case rel => exact ⟨i, h, p, t, hb1.1, by omega, hmi, rfl, rfl, hide ⟨HF.out.1, HT.out, HF.out.2.2.1, .inr ⟨y, HY.out, HLt.out⟩⟩, KE⟩
        case measure => simp [intOf]; omega
      · have HLt : Hid (lnLt y x = true) := hide (by rw [← lnCmp_lt]; exact hbb)
        clear hbb
        go_wp2_with fail
        trace "YES"
        go_roundw
        case rel => exact ⟨h + 1, j, t + 1, q, by omega, hjb, by omega, by go_num, rfl, hide ⟨by have := HT.out; omega, HF.out.2.1, .inr ⟨y, by simpa using HY.out, HLt.out⟩, HF.out.2.2.2⟩, KE⟩
        case measure => simp [intOf]; omega
    · have hij2 : i = j := by omega
      subst hij2
      have e1 : decide (i < i) = false := by simp
      have hpq : p = q := by have := HF.out; omega
      subst hpq
      obtain ⟨e, hei⟩ : ∃ e, i = e + 1 := ⟨i - 1, by omega⟩
      have we : IntKind.i64.wrap ((i : Int) - 1) = (e : Int) := by rw [IntWalk.i64_in _ (by omega)]; omega
      have hep : e = a + p := by have := HF.out.1; have := HMA.out; omega
      have hpL : p ≤ L := by have := HF.out.1; have := HBM.out; omega
      have HM1 : Hid (mrgL [x] Bl = Bl.take p ++ x :: Bl.drop p) := hide (mrg_one HSd.out p (by rw [← HLl.out]; exact hpL) HF.out.2.2.1 (by rw [← HLl.out]; exact HF.out.2.2.2))
      have HEP := hide hep
      have hen : e < n := by omega
      have HL0 : Hid (Lns wr B (some ⟨g, 0, none⟩) n c (P ++ Bl.take 0 ++ x :: (Bl.drop 0 ++ Q))) := hide (by
        have := H.out.kept HK.out (fun _ _ h => h)
        simpa using this)
      have KI := hide (HK.out.weak (S' := inB (some ⟨g, 0, none⟩)) (fun _ _ h => h.elim))
      clear HK hei hep HF H c0 c1 c2 HSd
      obtain ⟨wo, rfl⟩ : ∃ wo : World, wo = wr := ⟨_, rfl⟩
      go_upto_region 9 with fail
      trace "LOOP2"
      go_loopw [13] (fun kv wr => ∃ k s : Nat, k ≤ e ∧ kv = .int .i64 (k : Int) ∧ Hid (k = a + s) ∧ Hid (Lns wr B (some ⟨g, 0, none⟩) n c (P ++ Bl.take s ++ x :: (Bl.drop s ++ Q))) ∧ Hid (Keeps (inB (some ⟨g, 0, none⟩)) w wr)) (fun kv _ => e - (intOf kv).toNat)
      case atStart => exact ⟨a, 0, by have := HEP.out; omega, rfl, hide rfl, HL0, KI⟩
      case round =>
        obtain ⟨k, s, hke, rfl, HKS, HL, HK⟩ := hrel
        clear HL0 KI
        by_cases hlt2 : k < e
        · have e2 : decide (k < e) = true := by simpa using hlt2
          have hsp : s < p := by have := HKS.out; have := HEP.out; omega
          obtain ⟨y, hy⟩ : ∃ y, Bl[s]? = some y := ⟨Bl[s]'(by rw [← HLl.out]; omega), by simp⟩
          have hdr : Bl.drop s = y :: Bl.drop (s + 1) := by
            rw [List.drop_eq_getElem_cons (by rw [← HLl.out]; omega)]
            congr 1
            exact (List.getElem?_eq_some_iff.1 hy).2
          have hta : Bl.take (s + 1) = Bl.take s ++ [y] := by rw [List.take_add_one, hy]; rfl
          obtain ⟨k1, hk1⟩ : ∃ k1, k1 = k + 1 := ⟨_, rfl⟩
          have wk : IntKind.i64.wrap ((k : Int) + 1) = (k1 : Int) := by rw [IntWalk.i64_in _ (by omega)]; omega
          have hsl : s ≤ Bl.length := by rw [← HLl.out]; omega
          have hkl : k = (P ++ Bl.take s).length := by have := HKS.out; have := HA.out; simp; omega
          have hk1l : k1 = (P ++ Bl.take s).length + 1 + ([] : List Ln).length := by simp; have := HKS.out; have := HA.out; omega
          obtain ⟨hgi, hgj⟩ := at_pc (P := P ++ Bl.take s) (M := []) (Q := Bl.drop (s + 1) ++ Q) (x := x) (y := y) hkl hk1l
          have hsw := swp_pc (P := P ++ Bl.take s) (M := []) (Q := Bl.drop (s + 1) ++ Q) (x := x) (y := y) hkl hk1l
          have HL2 : Hid (Lns wr B (some ⟨g, 0, none⟩) n c ((P ++ Bl.take s) ++ x :: [] ++ y :: (Bl.drop (s + 1) ++ Q))) := hide (by have := HL.out; rw [hdr] at this; simpa using this)
          have hne : ¬ k = k1 := by omega
          have HSw : Hid ((((P ++ Bl.take s) ++ x :: [] ++ y :: (Bl.drop (s + 1) ++ Q)).set k y).set k1 x = P ++ Bl.take (s + 1) ++ x :: (Bl.drop (s + 1) ++ Q)) := hide (by rw [hsw, hta]; simp)
          have HK1 := hide hk1
          obtain ⟨c0, c1, c2⟩ := HL2.out.at_ hgi
          obtain ⟨d0, d1, d2⟩ := HL2.out.at_ hgj
          have hlx := (List.getElem?_eq_some_iff.1 hgi).1
          have hly := (List.getElem?_eq_some_iff.1 hgj).1
          have HSwap := hide (HL2.out.swap k k1 x y hlx hly)
          have hp1 := (HL2.out.put k y hlx).1
          obtain ⟨d0', d1', d2'⟩ := hp1.at_ (i := k1) (x := y) (by rw [List.getElem?_set, if_neg hne]; exact hgj)
          have f3' := hp1.frozen (k1 * 3)
          have f4' := hp1.frozen (k1 * 3 + 1)
          have f5' := hp1.frozen (k1 * 3 + 2)
          have f0 := HL2.out.frozen (k * 3)
          have f1 := HL2.out.frozen (k * 3 + 1)
          have f2 := HL2.out.frozen (k * 3 + 2)
          have f3 := HL2.out.frozen (k1 * 3)
          have f4 := HL2.out.frozen (k1 * 3 + 1)
          have f5 := HL2.out.frozen (k1 * 3 + 2)
          clear hp1 hlx hly
          have hkI : (k : Int) < (n : Int) := by omega
          have hk1I : (k1 : Int) < (n : Int) := by omega
          have hk0 : (0 : Int) ≤ (k : Int) := by omega
          have hk10 : (0 : Int) ≤ (k1 : Int) := by omega
          have hk1e : k1 ≤ e := by omega
          clear hy hdr hta hk1 hkl hk1l hgi hgj hsw hne HL hsl
          go_upto_region 11 with fail
          trace "SWAP"
          go_region
          trace "SWAP2"
          obtain ⟨hs, ks⟩ := HSwap.out
          rw [HSw.out] at hs
          have HS := hide (hs.kept ((Keeps.refl (fun _ => False) _).drew) (fun _ _ h => h))
          have KS := hide (Keeps.drew (HK.out.trans (ks.weak (S' := inB (some ⟨g, 0, none⟩)) (fun q _ e => (inB_some _ _ _).2 e.symm))))
          clear hs ks HSwap HSw c0 c1 c2 d0 d1 d2 f0 f1 f2 f3 f4 f5 d0' d1' d2' f3' f4' f5'
          generalize World.drew _ = w6 at *
          go_wp2_with fail
          go_roundw
          case rel => exact ⟨k1, s + 1, hk1e, rfl, hide (by have := HK1.out; have := HKS.out; omega), HS, KS⟩
          case measure => have := HK1.out; simp [intOf]; omega
        · have e2 : decide (k < e) = false := by simpa using hlt2
          have hsp : s = p := by have := HKS.out; have := HEP.out; omega
          have HR : Hid (Lns wr B (some ⟨g, 0, none⟩) n c (P ++ mrgL [x] Bl ++ Q)) := hide (by
            have := HL.out
            rw [hsp] at this
            rw [HM1.out]
            simpa using this)
          clear hsp HL
          go_wp2_with fail
          trace "END"
          refine bodyPost_ret (results_none rfl _ _ _) rfl ?_
          exact ⟨rfl, HR.out, HK.out⟩
/-- one line behind a list in order -/
theorem mrg_last {y : Ln} {L : List Ln} (hs : Srt.Sd lnLt L) (p : Nat) (hp : p ≤ L.length) (h1 : p = 0 ∨ ∃ z, L[p - 1]? = some z ∧ lnLt y z = false) (h2 : p = L.length ∨ ∃ z, L[p]? = some z ∧ lnLt y z = true) : mrgL L [y] = L.take p ++ y :: L.drop p := by
  have ha : ∀ z ∈ L.take p, lnLt y z = false := fun u hy => by
    rcases h1 with h1 | ⟨z, hz, hl⟩
    · subst h1; simp at hy
    · obtain ⟨q, hq⟩ := List.getElem?_of_mem hy
      rw [List.getElem?_take] at hq
      split at hq
      · next hqp =>
        rcases Nat.lt_or_ge q (p - 1) with h | h
        · have h3 : lnLt z u = false := by
            have := List.pairwise_iff_getElem.1 hs q (p - 1) (List.getElem?_eq_some_iff.1 hq).1 (List.getElem?_eq_some_iff.1 hz).1 h
            obtain ⟨e1, e2⟩ := List.getElem?_eq_some_iff.1 hq
            obtain ⟨e3, e4⟩ := List.getElem?_eq_some_iff.1 hz
            rw [e2, e4] at this
            exact this
          exact lnLt_wk.nt y z u hl h3
        · have : q = p - 1 := by omega
          subst this
          rw [hz] at hq; injection hq with hq; subst hq
          exact hl
      · cases hq
  have hb : ∀ z ∈ L.drop p, lnLt y z = true := fun u hy => by
    rcases h2 with h2 | ⟨z, hz, hl⟩
    · subst h2; simp at hy
    · obtain ⟨q, hq⟩ := List.getElem?_of_mem hy
      rw [List.getElem?_drop] at hq
      rcases Nat.eq_zero_or_pos q with h | h
      · subst h
        rw [Nat.add_zero, hz] at hq; injection hq with hq; subst hq
        exact hl
      · have h3 : lnLt u z = false := by
          have := List.pairwise_iff_getElem.1 hs p (p + q) (List.getElem?_eq_some_iff.1 hz).1 (List.getElem?_eq_some_iff.1 hq).1 (by omega)
          obtain ⟨e1, e2⟩ := List.getElem?_eq_some_iff.1 hq
          obtain ⟨e3, e4⟩ := List.getElem?_eq_some_iff.1 hz
          rw [e2, e4] at this
          exact this
        rcases e : lnLt y u with _ | _
        · have := lnLt_wk.nt y u z e h3
          rw [hl] at this
          cases this
        · rfl
  have := Srt.mrg_in (lt := lnLt) (L.take p) (L.drop p) y ha hb
  rw [List.take_append_drop] at this
  exact this
set_option maxRecDepth 100000 in
set_option maxHeartbeats 2000000 in
theorem sym2 (w : World) (B : Nat) (A : Option Addr) (n c : Nat) (P Al Q : List Ln) (y : Ln) (a m b : Nat) (ha : a = P.length) (hm : m = P.length + Al.length) (hb : b = P.length + Al.length + 1) (h1 : Al.length ≠ 1) (hs : Srt.Sd lnLt Al) (h : Lns w B A n c (P ++ Al ++ [y] ++ Q)) (hn : n ≤ 1000000) :
    Calls Try.prog 84 #[.slice A n c, .int .i64 a, .int .i64 m, .int .i64 b, cmpV] w (SymPost w B A n c P (mrgL Al [y]) Q) := by
  have hl := h.len
  simp only [List.length_append, List.length_cons, List.length_nil] at hl
  obtain ⟨g, rfl, _⟩ := h.some_ (by omega)
  obtain ⟨L, hL⟩ : ∃ L, L = Al.length := ⟨_, rfl⟩
  have w1 : IntKind.i64.wrap ((m : Int) - (a : Int)) = (L : Int) := by rw [IntWalk.i64_in _ (by omega)]; omega
  have w2 : IntKind.i64.wrap ((b : Int) - (m : Int)) = 1 := by rw [IntWalk.i64_in _ (by omega)]; omega
  have hL1 : ((L : Int) == 1) = false := by simp; omega
  have hb1 : m = a + L := by omega
  have hm1 : b = m + 1 := by omega
  have hbn : b ≤ n := by omega
  have HA := hide ha
  have HLl := hide hL
  have HBM := hide hb1
  have HMA := hide hm1
  have HSd := hide hs
  have H := hide h
  have ham : a ≤ m := by omega
  have hmb : m < b := by omega
  clear h ha hb hl hs hL hb1 hm1 hm h1
  go_enter Try.func84, Try.ntmps84
  go_upto_region 15 with fail
  trace "LOOP3"
  clear w1 w2 hL1
  go_loopw [14, 15, 16] (fun iv jv _ wr => ∃ (i j p q : Nat), i ≤ j ∧ j ≤ m ∧ a ≤ i ∧ iv = .int .i64 (i : Int) ∧ jv = .int .i64 (j : Int) ∧ Hid (i = a + p ∧ j = a + q ∧ (p = 0 ∨ ∃ z, Al[p - 1]? = some z ∧ lnLt y z = false) ∧ (q = L ∨ ∃ z, Al[q]? = some z ∧ lnLt y z = true)) ∧ Hid (Keeps (fun _ => False) w wr)) (fun iv jv _ _ => (intOf jv).toNat - (intOf iv).toNat)
  case atStart => exact ⟨a, m, 0, L, by omega, by omega, by omega, rfl, rfl, hide ⟨rfl, HBM.out, .inl rfl, .inl rfl⟩, hide (Keeps.refl _ _)⟩
  case round =>
    obtain ⟨i, j, p, q, hij, hjb, hmi, rfl, rfl, HF, HK⟩ := hrel
    by_cases hlt : i < j
    · have e1 : decide (i < j) = true := by simpa using hlt
      obtain ⟨h, hh⟩ : ∃ h : Nat, h = (i + j) / 2 := ⟨_, rfl⟩
      have he : ((i : Int) + (j : Int)) / 2 = (h : Int) := by omega
      have hb1 : i ≤ h ∧ h < j := by omega
      obtain ⟨t, ht⟩ : ∃ t, h = a + t := ⟨h - a, by omega⟩
      have htL : t < L := by have := HBM.out; omega
      obtain ⟨z, hz⟩ : ∃ z, Al[t]? = some z := ⟨Al[t]'(by rw [← HLl.out]; exact htL), by simp⟩
      have HLr : Hid (Lns wr B (some ⟨g, 0, none⟩) n c (P ++ Al ++ [y] ++ Q)) := hide (H.out.kept HK.out (fun _ _ h => h))
      have hgz : (P ++ Al ++ [y] ++ Q)[h]? = some z := by
        have := at_mid (P := P) (M := Al) (Q := [y] ++ Q) (i := h) (t := t) (by have := HA.out; omega) hz
        simpa using this
      have hgy : (P ++ Al ++ [y] ++ Q)[m]? = some y := by
        have := pc1 (P := P ++ Al) (Q := Q) (x := y) (i := m) (by have := HA.out; have := HBM.out; have := HLl.out; simp; omega)
        simpa using this
      obtain ⟨c0, c1, c2⟩ := HLr.out.at_ hgy
      obtain ⟨d0, d1, d2⟩ := HLr.out.at_ hgz
      have HT := hide ht
      have HZ := hide hz
      have hhI : (h : Int) < (n : Int) := by omega
      have haI : (m : Int) < (n : Int) := by omega
      have hh0 : (0 : Int) ≤ (h : Int) := by omega
      have ha0 : (0 : Int) ≤ (m : Int) := by omega
      clear hh ht hz hgy hgz
      go_upto_region 17 with fail
      trace "R17"
      clear he
      have HSg : Hid (∀ W, Keeps (fun _ => False) wr W → (Keeps (fun _ => False) wr W ∧ W.cell? ⟨g, m * 3, none⟩ = some (.string y.key) ∧ W.cell? ⟨g, m * 3 + 1, none⟩ = some (.int .u64 y.lo) ∧ W.cell? ⟨g, m * 3 + 2, none⟩ = some (.int .u64 y.hi) ∧ W.cell? ⟨g, h * 3, none⟩ = some (.string z.key) ∧ W.cell? ⟨g, h * 3 + 1, none⟩ = some (.int .u64 z.lo) ∧ W.cell? ⟨g, h * 3 + 2, none⟩ = some (.int .u64 z.hi))) := hide (fun W kW => ⟨kW, kW.cell_some c0 (fun h => h), kW.cell_some c1 (fun h => h), kW.cell_some c2 (fun h => h), kW.cell_some d0 (fun h => h), kW.cell_some d1 (fun h => h), kW.cell_some d2 (fun h => h)⟩)
      refine wp_region_held_drew (S := fun W => Keeps (fun _ => False) wr W ∧ W.cell? ⟨g, m * 3, none⟩ = some (.string y.key) ∧ W.cell? ⟨g, m * 3 + 1, none⟩ = some (.int .u64 y.lo) ∧ W.cell? ⟨g, m * 3 + 2, none⟩ = some (.int .u64 y.hi) ∧ W.cell? ⟨g, h * 3, none⟩ = some (.string z.key) ∧ W.cell? ⟨g, h * 3 + 1, none⟩ = some (.int .u64 z.lo) ∧ W.cell? ⟨g, h * 3 + 2, none⟩ = some (.int .u64 z.hi)) (by kernel_rfl) (HSg.out _ ((Keeps.refl _ _).drew)) (fun hHeld => ?_)
      refine wpAnyH_take (i := 0) (v := ?_) rfl (by kernel_rfl) (by kernel_rfl) (by kernel_rfl) (fun _ _ _ h => h) (Or.inl ⟨by first | kernel_rfl | rfl, ?_⟩) (by assumption) ?_; rotate_left; focus (intro w hSw; (try dsimp only at hSw); go_simp; try (with_reducible rfl)); (try simp only [Act.put, List.getElem_toArray, List.getElem_cons_succ, List.getElem_cons_zero, List.setIfInBounds_toArray, List.set_cons_zero, List.set_cons_succ])
      refine wpAnyH_take (i := 1) (v := ?_) rfl (by kernel_rfl) (by kernel_rfl) (by kernel_rfl) (fun _ _ _ h => h) (Or.inl ⟨by first | kernel_rfl | rfl, ?_⟩) (by assumption) ?_; rotate_left; focus (intro w hSw; (try dsimp only at hSw); go_simp; try (with_reducible rfl)); (try simp only [Act.put, List.getElem_toArray, List.getElem_cons_succ, List.getElem_cons_zero, List.setIfInBounds_toArray, List.set_cons_zero, List.set_cons_succ])
      refine wpAnyH_take (i := 2) (v := ?_) rfl (by kernel_rfl) (by kernel_rfl) (by kernel_rfl) (fun _ _ _ h => h) (Or.inl ⟨by first | kernel_rfl | rfl, ?_⟩) (by assumption) ?_; rotate_left; focus (intro w hSw; (try dsimp only at hSw); go_simp; try (with_reducible rfl)); (try simp only [Act.put, List.getElem_toArray, List.getElem_cons_succ, List.getElem_cons_zero, List.setIfInBounds_toArray, List.set_cons_zero, List.set_cons_succ])
      refine wpAnyH_take (i := 3) (v := ?_) rfl (by kernel_rfl) (by kernel_rfl) (by kernel_rfl) (fun _ _ _ h => h) (Or.inl ⟨by first | kernel_rfl | rfl, ?_⟩) (by assumption) ?_; rotate_left; focus (intro w hSw; (try dsimp only at hSw); go_simp; try (with_reducible rfl)); (try simp only [Act.put, List.getElem_toArray, List.getElem_cons_succ, List.getElem_cons_zero, List.setIfInBounds_toArray, List.set_cons_zero, List.set_cons_succ])
      refine wpAnyH_take (i := 4) (v := ?_) rfl (by kernel_rfl) (by kernel_rfl) (by kernel_rfl) (fun _ _ _ h => h) (Or.inl ⟨by first | kernel_rfl | rfl, ?_⟩) (by assumption) ?_; rotate_left; focus (intro w hSw; (try dsimp only at hSw); go_simp; try (with_reducible rfl)); (try simp only [Act.put, List.getElem_toArray, List.getElem_cons_succ, List.getElem_cons_zero, List.setIfInBounds_toArray, List.set_cons_zero, List.set_cons_succ])
      refine wpAnyH_take (i := 5) (v := ?_) rfl (by kernel_rfl) (by kernel_rfl) (by kernel_rfl) (fun _ _ _ h => h) (Or.inl ⟨by first | kernel_rfl | rfl, ?_⟩) (by assumption) ?_; rotate_left; focus (intro w hSw; (try dsimp only at hSw); go_simp; try (with_reducible rfl)); (try simp only [Act.put, List.getElem_toArray, List.getElem_cons_succ, List.getElem_cons_zero, List.setIfInBounds_toArray, List.set_cons_zero, List.set_cons_succ])
      refine wpAnyH_take (i := 6) (v := ?_) rfl (by kernel_rfl) (by kernel_rfl) (by kernel_rfl) (fun _ _ _ h => h) (Or.inl ⟨by first | kernel_rfl | rfl, ?_⟩) (by assumption) ?_; rotate_left; focus (intro w hSw; (try dsimp only at hSw); go_simp; try (with_reducible rfl)); (try simp only [Act.put, List.getElem_toArray, List.getElem_cons_succ, List.getElem_cons_zero, List.setIfInBounds_toArray, List.set_cons_zero, List.set_cons_succ])
      refine wpAnyH_take (i := 7) (v := ?_) rfl (by kernel_rfl) (by kernel_rfl) (by kernel_rfl) (fun _ _ _ h => h) (Or.inl ⟨by first | kernel_rfl | rfl, ?_⟩) (by assumption) ?_; rotate_left; focus (intro w hSw; (try dsimp only at hSw); go_simp; try (with_reducible rfl)); (try simp only [Act.put, List.getElem_toArray, List.getElem_cons_succ, List.getElem_cons_zero, List.setIfInBounds_toArray, List.set_cons_zero, List.set_cons_succ])
      refine wpAnyH_take (i := 8) (v := ?_) rfl (by kernel_rfl) (by kernel_rfl) (by kernel_rfl) (fun _ _ _ h => h) (Or.inl ⟨by first | kernel_rfl | rfl, ?_⟩) (by assumption) ?_; rotate_left; focus (intro w hSw; (try dsimp only at hSw); go_simp; try (with_reducible rfl)); (try simp only [Act.put, List.getElem_toArray, List.getElem_cons_succ, List.getElem_cons_zero, List.setIfInBounds_toArray, List.set_cons_zero, List.set_cons_succ])
      refine wpAnyH_ready (rs := [9]) (by kernel_rfl) (by simp) ?_
      refine AllReadyH.cons rfl (fun K hK => ?_) AllReadyH.nil
      go_simp
      trace "CMP"
      go_at_call 58
      refine (cmp_any y z _).mono ?_
      rintro e w5 ⟨rfl, k5⟩
      have KD := hide (((Keeps.refl (fun _ => False) wr).drew).trans k5)
      (try go_wp2_with fail)
      refine hK.out _ _ (HSg.out _ KD.out) (fun _ => ?_)
      clear hK K k5
      (try simp only [Act.put, List.getElem_toArray, List.getElem_cons_succ, List.getElem_cons_zero, List.setIfInBounds_toArray, List.set_cons_zero, List.set_cons_succ])
      refine wpAnyH_take (i := 10) (v := ?_) rfl (by kernel_rfl) (by kernel_rfl) (by kernel_rfl) (fun _ _ _ h => h) (Or.inl ⟨by first | kernel_rfl | rfl, ?_⟩) (by assumption) ?_; rotate_left; focus (intro w hSw; (try dsimp only at hSw); go_simp; try (with_reducible rfl)); (try simp only [Act.put, List.getElem_toArray, List.getElem_cons_succ, List.getElem_cons_zero, List.setIfInBounds_toArray, List.set_cons_zero, List.set_cons_succ])
      refine wpAnyH_take (i := 11) (v := ?_) rfl (by kernel_rfl) (by kernel_rfl) (by kernel_rfl) (fun _ _ _ h => h) (Or.inl ⟨by first | kernel_rfl | rfl, ?_⟩) (by assumption) ?_; rotate_left; focus (intro w hSw; (try dsimp only at hSw); go_simp; try (with_reducible rfl)); (try simp only [Act.put, List.getElem_toArray, List.getElem_cons_succ, List.getElem_cons_zero, List.setIfInBounds_toArray, List.set_cons_zero, List.set_cons_succ])
      refine wpAnyH_done (by kernel_rfl) ?_ _
      (try simp only [Act.put, List.getElem_toArray, List.getElem_cons_succ, List.getElem_cons_zero, List.setIfInBounds_toArray, List.set_cons_zero, List.set_cons_succ])
      clear hHeld HSg c0 c1 c2 d0 d1 d2
      have KE := hide (HK.out.trans KD.out)
      rcases hbb : decide (lnCmp y z < 0) with _ | _
      · have HLt : Hid (lnLt y z = false) := hide (by rw [← lnCmp_lt]; exact hbb)
        clear hbb
        go_wp2_with fail
        trace "NO"
        go_roundw
        case rel => exact ⟨h + 1, j, t + 1, q, by omega, hjb, by omega, by go_num, rfl, hide ⟨by have := HT.out; omega, HF.out.2.1, .inr ⟨z, by simpa using HZ.out, HLt.out⟩, HF.out.2.2.2⟩, KE⟩
        case measure => simp [intOf]; omega
      · have HLt : Hid (lnLt y z = true) := hide (by rw [← lnCmp_lt]; exact hbb)
        clear hbb
        go_wp2_with fail
        trace "YES"
        go_roundw
        case rel => exact ⟨i, h, p, t, hb1.1, by omega, hmi, rfl, rfl, hide ⟨HF.out.1, HT.out, HF.out.2.2.1, .inr ⟨z, HZ.out, HLt.out⟩⟩, KE⟩
        case measure => simp [intOf]; omega
    · have hij2 : i = j := by omega
      subst hij2
      have e1 : decide (i < i) = false := by simp
      have hpq : p = q := by have := HF.out; omega
      subst hpq
      have hip : i = a + p := HF.out.1
      have hpL : p ≤ L := by have := HBM.out; omega
      have HM1 : Hid (mrgL Al [y] = Al.take p ++ y :: Al.drop p) := hide (mrg_last HSd.out p (by rw [← HLl.out]; exact hpL) HF.out.2.2.1 (by rw [← HLl.out]; exact HF.out.2.2.2))
      have HIP := hide hip
      have HL0 : Hid (Lns wr B (some ⟨g, 0, none⟩) n c (P ++ Al.take L ++ y :: (Al.drop L ++ Q))) := hide (by
        have := H.out.kept HK.out (fun _ _ h => h)
        rw [HLl.out, List.take_of_length_le (Nat.le_refl _), List.drop_of_length_le (Nat.le_refl _)]
        simpa using this)
      have KI := hide (HK.out.weak (S' := inB (some ⟨g, 0, none⟩)) (fun _ _ h => h.elim))
      clear HK hip HF H HSd
      obtain ⟨wo, rfl⟩ : ∃ wo : World, wo = wr := ⟨_, rfl⟩
      go_upto_region 21 with fail
      trace "LOOP4"
      go_loopw [17] (fun kv wr => ∃ k s : Nat, k ≤ m ∧ i ≤ k ∧ kv = .int .i64 (k : Int) ∧ Hid (k = a + s) ∧ Hid (Lns wr B (some ⟨g, 0, none⟩) n c (P ++ Al.take s ++ y :: (Al.drop s ++ Q))) ∧ Hid (Keeps (inB (some ⟨g, 0, none⟩)) w wr)) (fun kv _ => (intOf kv).toNat)
      case atStart => exact ⟨m, L, Nat.le_refl _, hjb, rfl, HBM, HL0, KI⟩
      case round =>
        obtain ⟨k, s, hkm, hik, rfl, HKS, HL, HK⟩ := hrel
        clear HL0 KI
        by_cases hlt2 : i < k
        · have e2 : decide (i < k) = true := by simpa using hlt2
          obtain ⟨r, hr⟩ : ∃ r, s = r + 1 := ⟨s - 1, by have := HKS.out; omega⟩
          subst hr
          have hsL : r < L := by have := HKS.out; have := HBM.out; omega
          obtain ⟨z, hz⟩ : ∃ z, Al[r]? = some z := ⟨Al[r]'(by rw [← HLl.out]; omega), by simp⟩
          have hdr : Al.drop r = z :: Al.drop (r + 1) := by
            rw [List.drop_eq_getElem_cons (by rw [← HLl.out]; omega)]
            congr 1
            exact (List.getElem?_eq_some_iff.1 hz).2
          have hta : Al.take (r + 1) = Al.take r ++ [z] := by rw [List.take_add_one, hz]; rfl
          obtain ⟨k0, hk0'⟩ : ∃ k0, k = k0 + 1 := ⟨k - 1, by omega⟩
          have wk : IntKind.i64.wrap ((k : Int) - 1) = (k0 : Int) := by rw [IntWalk.i64_in _ (by omega)]; omega
          have hsl : r ≤ Al.length := by rw [← HLl.out]; omega
          have hkl : k0 = (P ++ Al.take r).length := by have := HKS.out; have := HA.out; simp; omega
          have hk1l : k = (P ++ Al.take r).length + 1 + ([] : List Ln).length := by simp; have := HKS.out; have := HA.out; omega
          obtain ⟨hgj, hgi⟩ := at_pc (P := P ++ Al.take r) (M := []) (Q := Al.drop (r + 1) ++ Q) (x := z) (y := y) hkl hk1l
          have hsw := swp_pc (P := P ++ Al.take r) (M := []) (Q := Al.drop (r + 1) ++ Q) (x := z) (y := y) hkl hk1l
          have HL2 : Hid (Lns wr B (some ⟨g, 0, none⟩) n c ((P ++ Al.take r) ++ z :: [] ++ y :: (Al.drop (r + 1) ++ Q))) := hide (by have := HL.out; rw [hta] at this; simpa using this)
          have hne : ¬ k = k0 := by omega
          have HSw : Hid ((((P ++ Al.take r) ++ z :: [] ++ y :: (Al.drop (r + 1) ++ Q)).set k z).set k0 y = P ++ Al.take r ++ y :: (Al.drop r ++ Q)) := hide (by rw [List.set_comm _ _ hne, hsw, hdr]; simp)
          have HK0 := hide hk0'
          obtain ⟨c0, c1, c2⟩ := HL2.out.at_ hgi
          obtain ⟨d0, d1, d2⟩ := HL2.out.at_ hgj
          have hlx := (List.getElem?_eq_some_iff.1 hgi).1
          have hly := (List.getElem?_eq_some_iff.1 hgj).1
          have HSwap := hide (HL2.out.swap k k0 y z hlx hly)
          have hp1 := (HL2.out.put k z hlx).1
          obtain ⟨d0', d1', d2'⟩ := hp1.at_ (i := k0) (x := z) (by rw [List.getElem?_set, if_neg hne]; exact hgj)
          have f3' := hp1.frozen (k0 * 3)
          have f4' := hp1.frozen (k0 * 3 + 1)
          have f5' := hp1.frozen (k0 * 3 + 2)
          have f0 := HL2.out.frozen (k * 3)
          have f1 := HL2.out.frozen (k * 3 + 1)
          have f2 := HL2.out.frozen (k * 3 + 2)
          have f3 := HL2.out.frozen (k0 * 3)
          have f4 := HL2.out.frozen (k0 * 3 + 1)
          have f5 := HL2.out.frozen (k0 * 3 + 2)
          clear hp1 hlx hly
          have hkI : (k : Int) < (n : Int) := by omega
          have hk1I : (k0 : Int) < (n : Int) := by omega
          have hk0 : (0 : Int) ≤ (k : Int) := by omega
          have hk10 : (0 : Int) ≤ (k0 : Int) := by omega
          have hk1e : i ≤ k0 ∧ k0 ≤ m := by omega
          clear hz hdr hta hk0' hkl hk1l hgi hgj hsw hne HL hsl
          go_upto_region 23 with fail
          trace "SWAP"
          go_region
          trace "SWAP2"
          obtain ⟨hs, ks⟩ := HSwap.out
          rw [HSw.out] at hs
          have HS := hide (hs.kept ((Keeps.refl (fun _ => False) _).drew) (fun _ _ h => h))
          have KS := hide (Keeps.drew (HK.out.trans (ks.weak (S' := inB (some ⟨g, 0, none⟩)) (fun q _ e => (inB_some _ _ _).2 e.symm))))
          clear hs ks HSwap HSw c0 c1 c2 d0 d1 d2 f0 f1 f2 f3 f4 f5 d0' d1' d2' f3' f4' f5'
          generalize World.drew _ = w6 at *
          go_wp2_with fail
          go_roundw
          case rel => exact ⟨k0, r, hk1e.2, hk1e.1, rfl, hide (by have := HK0.out; have := HKS.out; omega), HS, KS⟩
          case measure => have := HK0.out; simp [intOf]; omega
        · have e2 : decide (i < k) = false := by simpa using hlt2
          have hsp : s = p := by have := HKS.out; have := HIP.out; omega
          have HR : Hid (Lns wr B (some ⟨g, 0, none⟩) n c (P ++ mrgL Al [y] ++ Q)) := hide (by
            have := HL.out
            rw [hsp] at this
            rw [HM1.out]
            simpa using this)
          clear hsp HL
          go_wp2_with fail
          trace "END"
          refine bodyPost_ret (results_none rfl _ _ _) rfl ?_
          exact ⟨rfl, HR.out, HK.out⟩
end Go.Proofs.Ytmbgnekilgobaaa
