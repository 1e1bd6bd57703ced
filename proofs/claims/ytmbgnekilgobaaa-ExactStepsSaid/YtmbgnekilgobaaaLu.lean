/-
  The reference's sort of lines: each line is put in behind those that do not come after it. No conditions beyond those of the statement.
-/
import Derived.Test.YtmbgnekilgobaaaLv
import Derived.Deep.RegionLaw
set_option linter.unusedVariables false
set_option linter.unusedSimpArgs false
namespace Go.Proofs.Ytmbgnekilgobaaa
open Go.RowKit
set_option maxRecDepth 100000 in
set_option maxHeartbeats 2000000 in
theorem rsort_any (w : World) (B : Nat) (A : Option Addr) (n c : Nat) (l : List Ln) (hr : Rd w B A 3 n (lnCs l)) (hn : n ≤ 1000000) :
    Calls Try.prog 26 #[.slice A n c] w fun e w' => ∃ A' c', e = .returned (.slice A' n c') ∧ Lns w' w.heap.size A' n c' (srtL l) ∧ Keeps (fun _ => False) w w' := by
  have hl := lnRd_len hr
  have HR := hide hr
  have HLl := hide hl
  clear hr hl
  go_enter Try.func26, Try.ntmps26
  go_upto_region 3 with fail
  go_loopw [3, 9] (fun ov iv wr => ∃ (i : Nat) (A' : Option Addr) (c' : Nat), i ≤ n ∧ ov = .slice A' i c' ∧ iv = .int .i64 (i : Int) ∧ Hid (Lns wr w.heap.size A' i c' (srtL (l.take i))) ∧ Hid (Keeps (fun _ => False) w wr)) (fun _ iv _ => n - (intOf iv).toNat)
  case atStart => exact ⟨0, none, 0, by omega, rfl, rfl, hide (Own.nil _ _ _ _), hide (Keeps.refl _ _)⟩
  case round =>
    obtain ⟨i, A', c', hin, rfl, rfl, HO, HK⟩ := hrel
    obtain ⟨wo, rfl⟩ : ∃ wo : World, wo = wr := ⟨_, rfl⟩
    by_cases hlt : i < n
    · have e1 : decide (i < n) = true := by simpa using hlt
      have hil : i < l.length := by rw [HLl.out]; exact hlt
      obtain ⟨x, hx⟩ : ∃ x, l[i]? = some x := ⟨l[i], List.getElem?_eq_getElem hil⟩
      obtain ⟨b, off, rfl, hb, hc⟩ := (HR.out.kept HK.out (fun _ _ h => h)).2 (by omega)
      obtain ⟨g0, g1, g2⟩ := lnCs_at hx
      have r0 := hc _ _ g0
      have r1 := hc _ _ g1
      have r2 := hc _ _ g2
      rw [← Nat.add_assoc] at r1 r2
      have hw := HK.out.size
      have HSz := hide hw
      obtain ⟨w3, hw3⟩ : ∃ w3, w3 = wo.alloc (.cells #[.string x.key, .int .u64 x.lo, .int .u64 x.hi] 38) := ⟨_, rfl⟩
      have HX : Hid (Blk w3 wo.heap.size 38 (lnC x).toArray) := hide (by rw [hw3]; exact Blk.new _ _ _)
      have K3 : Hid (Keeps (fun _ => False) wo w3) := hide (by rw [hw3]; exact (Keeps.refl _ _).alloc _)
      have HW3 := hide hw3
      obtain ⟨S, hS⟩ : ∃ S, S = srtL (l.take i) := ⟨_, rfl⟩
      have hsd : Srt.Sd lnLt S := by rw [hS]; exact Srt.srt_sd lnLt_wk _
      have hSl : S.length = i := by rw [hS, Srt.srt_len, List.length_take]; omega
      have hta : l.take (i + 1) = l.take i ++ [x] := by rw [List.take_add_one, hx]; rfl
      have HSn : Hid (∀ S1 S2, S1 ++ S2 = S → (∀ y ∈ S2, lnLt x y = true) → (∀ y ∈ S1, lnLt x y = false) → srtL (l.take (i + 1)) = S1 ++ x :: S2) := hide (fun S1 S2 e h2 h1 => by
        show Srt.srt lnLt _ = _
        rw [hta, Srt.srt_snoc, show Srt.srt lnLt (l.take i) = S from hS.symm, ← e]
        exact Srt.mrg_in S1 S2 x h1 h2)
      have HO3 : Hid (Lns w3 w.heap.size A' i c' S) := hide (by rw [hS]; exact HO.out.kept K3.out (fun _ _ h => h))
      have HSd := hide hsd
      have HSl := hide hSl
      have hge : w.heap.size ≤ wo.heap.size := hw
      have hAX : Hid (∀ k, inB A' k → k < wo.heap.size) := hide (fun k hk => (HO.out.inB hk).2)
      clear hw3 hS hsd hSl hta hx hil hw g0 g1 g2 hc hb HO
      go_upto_region 6 with fail
      rw [← HW3.out]
      obtain ⟨gx, hgx⟩ : ∃ gx, gx = wo.heap.size := ⟨_, rfl⟩
      rw [← hgx] at hge ⊢
      have HGX := hide hgx
      rw [← hgx] at HX hAX
      clear r0 r1 r2 hgx
      go_loopw [6] (fun kv wr => ∃ (k : Nat) (S1 S2 : List Ln), k ≤ i ∧ kv = .int .i64 (k : Int) ∧ Hid (S1 ++ S2 = S ∧ k = S1.length ∧ ∀ y ∈ S2, lnLt x y = true) ∧ Hid (Keeps (fun _ => False) w3 wr)) (fun kv _ => (intOf kv).toNat)
      case atStart => exact ⟨i, S, [], by omega, rfl, hide ⟨by simp, HSl.out.symm, by simp⟩, hide (Keeps.refl _ _)⟩
      case round =>
        obtain ⟨k, S1, S2, hki, rfl, HF, K6⟩ := hrel
        have HX6 := hide (HX.out.kept K6.out (fun h => h))
        have HO6 := hide (HO3.out.kept K6.out (fun _ _ h => h))
        obtain ⟨wi, rfl⟩ : ∃ wi : World, wi = wr := ⟨_, rfl⟩
        rcases Nat.eq_zero_or_pos k with hk0 | hk0
        · have HRs : Hid (srtL (l.take (i + 1)) = S1 ++ x :: S2) := hide (HSn.out S1 S2 HF.out.1 HF.out.2.2 (by
            have : S1 = [] := List.eq_nil_of_length_eq_zero (by rw [← HF.out.2.1]; exact hk0)
            subst this; simp))
          have e2 : decide (0 < k) = false := by simp; omega
          clear hk0
          go_upto_region 6 with fail
          go_quiet (fail)
          obtain ⟨w6, hw6⟩ : ∃ w6 : World, w6 = wi.drewN nq := ⟨_, rfl⟩
          rw [← hw6]
          have HX6 : Hid (Blk w6 gx 38 (lnC x).toArray) := by rw [hw6]; exact HX6
          have HO6 : Hid (Lns w6 w.heap.size A' i c' S) := by rw [hw6]; exact HO6
          have K6 : Hid (Keeps (fun _ => False) w3 w6) := by rw [hw6]; exact hide (K6.out.drewN _)
          clear hw6
          go_upto_region 8 with fail
          have hnc := HO6.out.le
          obtain ⟨Da, hsa, hra, hia⟩ := sub_hi elemLn A' i c' .i64 (k : Int) (by omega) (by omega) hnc
          obtain ⟨Db, hsb, hrb, hib⟩ := sub_lo elemLn A' i c' .i64 (k : Int) (by omega) (by omega) hnc
          rw [show ((k : Nat) : Int).toNat = k from by omega] at hsb hrb hsa hra
          have RA := hide (hra _ _ _ (HO6.out.rd (by omega)))
          have RB := hide (hrb _ _ _ (HO6.out.rd (by omega)))
          rw [lnCs_take] at RA
          rw [lnCs_drop] at RB
          clear hra hrb hia hib
          obtain ⟨c60, c61, c62⟩ := ln_cells HX6.out
          have hgx6 : gx < w6.heap.size := HX6.out.lt
          have hik : k + 1 + (i - k) = i + 1 := by omega
          go_region_law (first
            | (refine step_app _ elemLn (by rfl) (.tmp 28) (.tmp 31) (by rfl) w6.heap.size _ (by rfl) (Own.new0 _ _ 38 3 _ (by simp) (by simp)) _ (m := k) _ (by rfl) (RA.out.kept (((Keeps.refl (fun _ => False) w6).drew).alloc _) (fun _ _ h => h)) (lnCs_one _) (by simp only [maxLen]; omega) (by omega) (by simp) ?_; intro A7 c7 w7 o7 k7 hA7; rw [Nat.zero_add, List.nil_append] at o7; have O7 := hide o7; have K7 := hide ((((Keeps.refl (fun _ => False) w6).drew).alloc (.cells #[] 38)).step k7 (fun q hq h => by have := (inB_some _ _ _).1 h; (try simp at this); omega)); obtain ⟨c70, c71, c72⟩ := ln_cells (HX6.out.kept K7.out (fun h => h)); clear o7 k7 hA7)
            | (refine step_app _ elemLn (by rfl) (.tmp 28) (.tmp 31) (by rfl) w6.heap.size _ (by rfl) (Own.new0 _ _ 38 3 _ (by simp) (by simp)) _ (m := k) _ (by rfl) (RA.out.kept ((((Keeps.refl (fun _ => False) w6).drew).alloc (.cells #[.string x.key, .int .u64 x.lo, .int .u64 x.hi] 38)).alloc _) (fun _ _ h => h)) (lnCs_one _) (by simp only [maxLen]; omega) (by omega) (by simp; (try omega)) ?_; intro A7 c7 w7 o7 k7 hA7; rw [Nat.zero_add, List.nil_append] at o7; have O7 := hide o7; have HY7 := hide (((Blk.new_at w6.drew 38 #[.string x.key, .int .u64 x.lo, .int .u64 x.hi] w6.heap.size rfl).alloc (.cells #[] 38)).kept k7 (fun h => by have := (inB_some _ _ _).1 h; (try simp at this))); have K7 := hide (((((Keeps.refl (fun _ => False) w6).drew).alloc (.cells #[.string x.key, .int .u64 x.lo, .int .u64 x.hi] 38)).alloc (.cells #[] 38)).step k7 (fun q hq h => by have := (inB_some _ _ _).1 h; (try simp at this); omega)); clear o7 k7 hA7)
            | (refine step_app _ elemLn (by rfl) (.tmp 28) (.tmp 31) (by rfl) w6.heap.size _ (by rfl) ((Own.new0 w6.drew w6.heap.size 38 3 w6.heap.size rfl (Nat.le_refl _)).kept (((Keeps.refl (fun _ => False) _)).alloc (.cells #[.string x.key, .int .u64 x.lo, .int .u64 x.hi] 38)) (fun _ _ h => h)) _ (m := k) _ (by rfl) (RA.out.kept ((((Keeps.refl (fun _ => False) w6).drew).alloc (.cells #[] 38)).alloc _) (fun _ _ h => h)) (lnCs_one _) (by simp only [maxLen]; omega) (by omega) (by simp; (try omega)) ?_; intro A7 c7 w7 o7 k7 hA7; rw [Nat.zero_add, List.nil_append] at o7; have O7 := hide o7; have HY7 := hide ((Blk.new_at (w6.drew.alloc (.cells #[] 38)) 38 #[.string x.key, .int .u64 x.lo, .int .u64 x.hi] (w6.heap.size + 1) (by simp)).kept k7 (fun h => by have := (inB_some _ _ _).1 h; (try simp at this); (try omega))); have K7 := hide (((((Keeps.refl (fun _ => False) w6).drew).alloc (.cells #[] 38)).alloc (.cells #[.string x.key, .int .u64 x.lo, .int .u64 x.hi] 38)).step k7 (fun q hq h => by have := (inB_some _ _ _).1 h; (try simp at this); omega)); clear o7 k7 hA7)
            | (refine step_app _ elemLn (by rfl) (.tmp 32) (.tmp 34) (by rfl) w6.heap.size _ (by rfl) O7.out _ (m := 1) (lnC x) (by rfl) (Blk.rd (xs := lnC x) HY7.out rfl) (lnC_one x) (by simp only [maxLen]; omega) (by omega) (K7.out.size) ?_; intro A8 c8 w8 o8 k8 hA8; have O8 := hide o8; have K8 := hide (K7.out.step k8 (fun q hq h => by have := O7.out.inB h; omega)); clear o8 k8 hA8)
            | (refine step_app _ elemLn (by rfl) (.tmp 32) (.tmp 34) (by rfl) w6.heap.size _ (by rfl) (O7.out.kept ((Keeps.refl (fun _ => False) w7).alloc _) (fun _ _ h => h)) _ (m := 1) (lnC x) (by rfl) (Blk.rd (xs := lnC x) (Blk.new_at _ _ _ _ (by simp)) rfl) (lnC_one x) (by simp only [maxLen]; omega) (by omega) (by have := K7.out.size; simp; omega) ?_; intro A8 c8 w8 o8 k8 hA8; have O8 := hide o8; have K8 := hide ((K7.out.alloc (.cells #[.string x.key, .int .u64 x.lo, .int .u64 x.hi] 38)).step k8 (fun q hq h => by have := O7.out.inB h; omega)); clear o8 k8 hA8)
            | (refine step_app _ elemLn (by rfl) (.tmp 35) (.tmp 38) (by rfl) w6.heap.size _ (by rfl) O8.out _ (m := i - k) _ (by rfl) (RB.out.kept K8.out (fun _ _ h => h)) (lnCs_one _) (by simp only [maxLen]; omega) (by omega) (K8.out.size) ?_; intro A9 c9 w9 o9 k9 hA9; have O9 := hide o9; have K9 := hide (K8.out.step k9 (fun q hq h => by have := O8.out.inB h; omega)); clear o9 k9 hA9))
          all_goals
            have O10 : Hid (Lns w9 w.heap.size A9 (i + 1) c9 (srtL (l.take (i + 1)))) := hide (by
              have h1 := O9.out
              rw [hik, ← lnCs1 x, ← lnCs_app, ← lnCs_app] at h1
              have h2 : S.take k ++ [x] ++ S.drop k = S1 ++ x :: S2 := by
                rw [← HF.out.1, HF.out.2.1, List.take_left, List.drop_left]; simp
              rw [h2, ← HRs.out] at h1
              exact h1.base_le (by have := K6.out.size; have := K3.out.size; have := HGX.out; omega))
            have K10 := hide ((HK.out.trans K3.out).trans (K6.out.trans K9.out))
            go_wp2_with fail
            go_roundw
            case rel => exact ⟨i + 1, A9, c9, by omega, rfl, by go_num, O10, K10⟩
            case measure => simp [intOf]; omega
        · obtain ⟨p, hp⟩ : ∃ p, k = p + 1 := ⟨k - 1, by omega⟩
          obtain ⟨S1', y, hS1⟩ : ∃ S1' y, S1 = S1' ++ [y] := ⟨S1.dropLast, S1.getLast (by intro e; have := HF.out.2.1; rw [e] at this; simp at this; omega), (List.dropLast_concat_getLast _).symm⟩
          have hpl : p = S1'.length := by have := HF.out.2.1; rw [hS1] at this; simp at this; omega
          obtain ⟨g, rfl, _⟩ := HO6.out.some_ (by omega)
          have hy : S[p]? = some y := by
            rw [← HF.out.1, hS1, List.append_assoc, hpl, List.getElem?_append_right (Nat.le_refl _)]
            simp
          obtain ⟨d0, d1, d2⟩ := Lns.at_ HO6.out hy
          obtain ⟨c0, c1, c2⟩ := ln_cells HX6.out
          have e2 : decide (0 < k) = true := by simp; omega
          have wp : IntKind.i64.wrap ((k : Int) - 1) = (p : Int) := by rw [IntWalk.i64_in _ (by omega)]; omega
          have hpI : (p : Int) < (i : Int) := by omega
          have hp0 : (0 : Int) ≤ (p : Int) := by omega
          have HP := hide hp
          have HS1 := hide hS1
          clear hp hS1 hpl hy hk0
          go_upto_region 6 with fail
          have HSg : Hid (∀ W, Keeps (fun _ => False) wi W → (Keeps (fun _ => False) wi W ∧ W.cell? ⟨gx, 0, none⟩ = some (.string x.key) ∧ W.cell? ⟨gx, 1, none⟩ = some (.int .u64 x.lo) ∧ W.cell? ⟨gx, 2, none⟩ = some (.int .u64 x.hi) ∧ W.cell? ⟨g, p * 3, none⟩ = some (.string y.key) ∧ W.cell? ⟨g, p * 3 + 1, none⟩ = some (.int .u64 y.lo) ∧ W.cell? ⟨g, p * 3 + 2, none⟩ = some (.int .u64 y.hi))) := hide (fun W kW => ⟨kW, kW.cell_some c0 (fun h => h), kW.cell_some c1 (fun h => h), kW.cell_some c2 (fun h => h), kW.cell_some d0 (fun h => h), kW.cell_some d1 (fun h => h), kW.cell_some d2 (fun h => h)⟩)
          refine wp_region_held_drew (S := fun W => Keeps (fun _ => False) wi W ∧ W.cell? ⟨gx, 0, none⟩ = some (.string x.key) ∧ W.cell? ⟨gx, 1, none⟩ = some (.int .u64 x.lo) ∧ W.cell? ⟨gx, 2, none⟩ = some (.int .u64 x.hi) ∧ W.cell? ⟨g, p * 3, none⟩ = some (.string y.key) ∧ W.cell? ⟨g, p * 3 + 1, none⟩ = some (.int .u64 y.lo) ∧ W.cell? ⟨g, p * 3 + 2, none⟩ = some (.int .u64 y.hi)) (by kernel_rfl) (HSg.out _ ((Keeps.refl _ _).drew)) (fun hHeld => ?_)
          refine wpAnyH_take (i := 0) (v := ?_) rfl (by kernel_rfl) (by kernel_rfl) (by kernel_rfl) (fun _ _ _ h => h) (Or.inl ⟨by first | kernel_rfl | rfl, ?_⟩) (by assumption) ?_; rotate_left; focus (intro w hSw; (try dsimp only at hSw); go_simp; try (with_reducible rfl)); (try simp only [Act.put, List.getElem_toArray, List.getElem_cons_succ, List.getElem_cons_zero, List.setIfInBounds_toArray, List.set_cons_zero, List.set_cons_succ])
          refine wpAnyH_take (i := 1) (v := ?_) rfl (by kernel_rfl) (by kernel_rfl) (by kernel_rfl) (fun _ _ _ h => h) (Or.inl ⟨by first | kernel_rfl | rfl, ?_⟩) (by assumption) ?_; rotate_left; focus (intro w hSw; (try dsimp only at hSw); go_simp; try (with_reducible rfl)); (try simp only [Act.put, List.getElem_toArray, List.getElem_cons_succ, List.getElem_cons_zero, List.setIfInBounds_toArray, List.set_cons_zero, List.set_cons_succ])
          refine wpAnyH_take (i := 2) (v := ?_) rfl (by kernel_rfl) (by kernel_rfl) (by kernel_rfl) (fun _ _ _ h => h) (Or.inl ⟨by first | kernel_rfl | rfl, ?_⟩) (by assumption) ?_; rotate_left; focus (intro w hSw; (try dsimp only at hSw); go_simp; try (with_reducible rfl)); (try simp only [Act.put, List.getElem_toArray, List.getElem_cons_succ, List.getElem_cons_zero, List.setIfInBounds_toArray, List.set_cons_zero, List.set_cons_succ])
          refine wpAnyH_take (i := 3) (v := ?_) rfl (by kernel_rfl) (by kernel_rfl) (by kernel_rfl) (fun _ _ _ h => h) (Or.inl ⟨by first | kernel_rfl | rfl, ?_⟩) (by assumption) ?_; rotate_left; focus (intro w hSw; (try dsimp only at hSw); go_simp; try (with_reducible rfl)); (try simp only [Act.put, List.getElem_toArray, List.getElem_cons_succ, List.getElem_cons_zero, List.setIfInBounds_toArray, List.set_cons_zero, List.set_cons_succ])
          refine wpAnyH_take (i := 4) (v := ?_) rfl (by kernel_rfl) (by kernel_rfl) (by kernel_rfl) (fun _ _ _ h => h) (Or.inl ⟨by first | kernel_rfl | rfl, ?_⟩) (by assumption) ?_; rotate_left; focus (intro w hSw; (try dsimp only at hSw); go_simp; try (with_reducible rfl)); (try simp only [Act.put, List.getElem_toArray, List.getElem_cons_succ, List.getElem_cons_zero, List.setIfInBounds_toArray, List.set_cons_zero, List.set_cons_succ])
          refine wpAnyH_take (i := 5) (v := ?_) rfl (by kernel_rfl) (by kernel_rfl) (by kernel_rfl) (fun _ _ _ h => h) (Or.inl ⟨by first | kernel_rfl | rfl, ?_⟩) (by assumption) ?_; rotate_left; focus (intro w hSw; (try dsimp only at hSw); go_simp; try (with_reducible rfl)); (try simp only [Act.put, List.getElem_toArray, List.getElem_cons_succ, List.getElem_cons_zero, List.setIfInBounds_toArray, List.set_cons_zero, List.set_cons_succ])
          refine wpAnyH_take (i := 6) (v := ?_) rfl (by kernel_rfl) (by kernel_rfl) (by kernel_rfl) (fun _ _ _ h => h) (Or.inl ⟨by first | kernel_rfl | rfl, ?_⟩) (by assumption) ?_; rotate_left; focus (intro w hSw; (try dsimp only at hSw); go_simp; try (with_reducible rfl)); (try simp only [Act.put, List.getElem_toArray, List.getElem_cons_succ, List.getElem_cons_zero, List.setIfInBounds_toArray, List.set_cons_zero, List.set_cons_succ])
          refine wpAnyH_take (i := 7) (v := ?_) rfl (by kernel_rfl) (by kernel_rfl) (by kernel_rfl) (fun _ _ _ h => h) (Or.inl ⟨by first | kernel_rfl | rfl, ?_⟩) (by assumption) ?_; rotate_left; focus (intro w hSw; (try dsimp only at hSw); go_simp; try (with_reducible rfl)); (try simp only [Act.put, List.getElem_toArray, List.getElem_cons_succ, List.getElem_cons_zero, List.setIfInBounds_toArray, List.set_cons_zero, List.set_cons_succ])
          refine wpAnyH_take (i := 8) (v := ?_) rfl (by kernel_rfl) (by kernel_rfl) (by kernel_rfl) (fun _ _ _ h => h) (Or.inl ⟨by first | kernel_rfl | rfl, ?_⟩) (by assumption) ?_; rotate_left; focus (intro w hSw; (try dsimp only at hSw); go_simp; try (with_reducible rfl)); (try simp only [Act.put, List.getElem_toArray, List.getElem_cons_succ, List.getElem_cons_zero, List.setIfInBounds_toArray, List.set_cons_zero, List.set_cons_succ])
          refine wpAnyH_ready (rs := [9]) (by kernel_rfl) (by simp) ?_
          refine AllReadyH.cons rfl (fun K hK => ?_) AllReadyH.nil
          go_simp
          go_at_call 27
          refine (rbefore_any x y _).mono ?_
          rintro e w5 ⟨rfl, k5⟩
          have KD := hide (((Keeps.refl (fun _ => False) wi).drew).trans k5)
          (try go_wp2_with fail)
          refine hK.out _ _ (HSg.out _ KD.out) (fun _ => ?_)
          clear hK K k5
          (try simp only [Act.put, List.getElem_toArray, List.getElem_cons_succ, List.getElem_cons_zero, List.setIfInBounds_toArray, List.set_cons_zero, List.set_cons_succ])
          refine wpAnyH_take (i := 10) (v := ?_) rfl (by kernel_rfl) (by kernel_rfl) (by kernel_rfl) (fun _ _ _ h => h) (Or.inl ⟨by first | kernel_rfl | rfl, ?_⟩) (by assumption) ?_; rotate_left; focus (intro w hSw; (try dsimp only at hSw); go_simp; try (with_reducible rfl)); (try simp only [Act.put, List.getElem_toArray, List.getElem_cons_succ, List.getElem_cons_zero, List.setIfInBounds_toArray, List.set_cons_zero, List.set_cons_succ])
          refine wpAnyH_done (by kernel_rfl) ?_ _
          (try simp only [Act.put, List.getElem_toArray, List.getElem_cons_succ, List.getElem_cons_zero, List.setIfInBounds_toArray, List.set_cons_zero, List.set_cons_succ])
          clear hHeld HSg
          have K6' : Hid (Keeps (fun _ => False) w3 w5) := hide (K6.out.trans KD.out)
          have HX6' : Hid (Blk w5 gx 38 (lnC x).toArray) := hide (HX6.out.kept KD.out (fun h => h))
          have HO6' : Hid (Lns w5 w.heap.size (some ⟨g, 0, none⟩) i c' S) := hide (HO6.out.kept KD.out (fun _ _ h => h))
          clear c0 c1 c2 d0 d1 d2 HX6 HO6 K6 KD
          rcases hb : lnLt x y with _ | _
          · have HRs : Hid (srtL (l.take (i + 1)) = S1 ++ x :: S2) := hide (HSn.out S1 S2 HF.out.1 HF.out.2.2 (by
              have h1 : Srt.Sd lnLt (S1' ++ [y]) := by
                have := HSd.out
                rw [← HF.out.1, HS1.out] at this
                exact (List.pairwise_append.1 this).1
              rw [HS1.out]
              exact Srt.Sd.left lnLt_wk h1 hb))
            obtain ⟨w6, hw6⟩ : ∃ w6 : World, w6 = w5 := ⟨_, rfl⟩
            rw [← hw6] at HX6' HO6' K6' ⊢
            have HX6 := HX6'
            have HO6 := HO6'
            have K6 := K6'
            clear hw6 HX6' HO6' K6' hb
            go_upto_region 8 with fail
            have hnc := HO6.out.le
            obtain ⟨Da, hsa, hra, hia⟩ := sub_hi elemLn (some ⟨g, 0, none⟩) i c' .i64 (k : Int) (by omega) (by omega) hnc
            obtain ⟨Db, hsb, hrb, hib⟩ := sub_lo elemLn (some ⟨g, 0, none⟩) i c' .i64 (k : Int) (by omega) (by omega) hnc
            rw [show ((k : Nat) : Int).toNat = k from by omega] at hsb hrb hsa hra
            have RA := hide (hra _ _ _ (HO6.out.rd (by omega)))
            have RB := hide (hrb _ _ _ (HO6.out.rd (by omega)))
            rw [lnCs_take] at RA
            rw [lnCs_drop] at RB
            clear hra hrb hia hib
            obtain ⟨c60, c61, c62⟩ := ln_cells HX6.out
            have hgx6 : gx < w6.heap.size := HX6.out.lt
            have hik : k + 1 + (i - k) = i + 1 := by omega
            go_region_law (first
              | (refine step_app _ elemLn (by rfl) (.tmp 28) (.tmp 31) (by rfl) w6.heap.size _ (by rfl) (Own.new0 _ _ 38 3 _ (by simp) (by simp)) _ (m := k) _ (by rfl) (RA.out.kept (((Keeps.refl (fun _ => False) w6).drew).alloc _) (fun _ _ h => h)) (lnCs_one _) (by simp only [maxLen]; omega) (by omega) (by simp) ?_; intro A7 c7 w7 o7 k7 hA7; rw [Nat.zero_add, List.nil_append] at o7; have O7 := hide o7; have K7 := hide ((((Keeps.refl (fun _ => False) w6).drew).alloc (.cells #[] 38)).step k7 (fun q hq h => by have := (inB_some _ _ _).1 h; (try simp at this); omega)); obtain ⟨c70, c71, c72⟩ := ln_cells (HX6.out.kept K7.out (fun h => h)); clear o7 k7 hA7)
              | (refine step_app _ elemLn (by rfl) (.tmp 28) (.tmp 31) (by rfl) w6.heap.size _ (by rfl) (Own.new0 _ _ 38 3 _ (by simp) (by simp)) _ (m := k) _ (by rfl) (RA.out.kept ((((Keeps.refl (fun _ => False) w6).drew).alloc (.cells #[.string x.key, .int .u64 x.lo, .int .u64 x.hi] 38)).alloc _) (fun _ _ h => h)) (lnCs_one _) (by simp only [maxLen]; omega) (by omega) (by simp; (try omega)) ?_; intro A7 c7 w7 o7 k7 hA7; rw [Nat.zero_add, List.nil_append] at o7; have O7 := hide o7; have HY7 := hide (((Blk.new_at w6.drew 38 #[.string x.key, .int .u64 x.lo, .int .u64 x.hi] w6.heap.size rfl).alloc (.cells #[] 38)).kept k7 (fun h => by have := (inB_some _ _ _).1 h; (try simp at this))); have K7 := hide (((((Keeps.refl (fun _ => False) w6).drew).alloc (.cells #[.string x.key, .int .u64 x.lo, .int .u64 x.hi] 38)).alloc (.cells #[] 38)).step k7 (fun q hq h => by have := (inB_some _ _ _).1 h; (try simp at this); omega)); clear o7 k7 hA7)
              | (refine step_app _ elemLn (by rfl) (.tmp 28) (.tmp 31) (by rfl) w6.heap.size _ (by rfl) ((Own.new0 w6.drew w6.heap.size 38 3 w6.heap.size rfl (Nat.le_refl _)).kept (((Keeps.refl (fun _ => False) _)).alloc (.cells #[.string x.key, .int .u64 x.lo, .int .u64 x.hi] 38)) (fun _ _ h => h)) _ (m := k) _ (by rfl) (RA.out.kept ((((Keeps.refl (fun _ => False) w6).drew).alloc (.cells #[] 38)).alloc _) (fun _ _ h => h)) (lnCs_one _) (by simp only [maxLen]; omega) (by omega) (by simp; (try omega)) ?_; intro A7 c7 w7 o7 k7 hA7; rw [Nat.zero_add, List.nil_append] at o7; have O7 := hide o7; have HY7 := hide ((Blk.new_at (w6.drew.alloc (.cells #[] 38)) 38 #[.string x.key, .int .u64 x.lo, .int .u64 x.hi] (w6.heap.size + 1) (by simp)).kept k7 (fun h => by have := (inB_some _ _ _).1 h; (try simp at this); (try omega))); have K7 := hide (((((Keeps.refl (fun _ => False) w6).drew).alloc (.cells #[] 38)).alloc (.cells #[.string x.key, .int .u64 x.lo, .int .u64 x.hi] 38)).step k7 (fun q hq h => by have := (inB_some _ _ _).1 h; (try simp at this); omega)); clear o7 k7 hA7)
              | (refine step_app _ elemLn (by rfl) (.tmp 32) (.tmp 34) (by rfl) w6.heap.size _ (by rfl) O7.out _ (m := 1) (lnC x) (by rfl) (Blk.rd (xs := lnC x) HY7.out rfl) (lnC_one x) (by simp only [maxLen]; omega) (by omega) (K7.out.size) ?_; intro A8 c8 w8 o8 k8 hA8; have O8 := hide o8; have K8 := hide (K7.out.step k8 (fun q hq h => by have := O7.out.inB h; omega)); clear o8 k8 hA8)
              | (refine step_app _ elemLn (by rfl) (.tmp 32) (.tmp 34) (by rfl) w6.heap.size _ (by rfl) (O7.out.kept ((Keeps.refl (fun _ => False) w7).alloc _) (fun _ _ h => h)) _ (m := 1) (lnC x) (by rfl) (Blk.rd (xs := lnC x) (Blk.new_at _ _ _ _ (by simp)) rfl) (lnC_one x) (by simp only [maxLen]; omega) (by omega) (by have := K7.out.size; simp; omega) ?_; intro A8 c8 w8 o8 k8 hA8; have O8 := hide o8; have K8 := hide ((K7.out.alloc (.cells #[.string x.key, .int .u64 x.lo, .int .u64 x.hi] 38)).step k8 (fun q hq h => by have := O7.out.inB h; omega)); clear o8 k8 hA8)
              | (refine step_app _ elemLn (by rfl) (.tmp 35) (.tmp 38) (by rfl) w6.heap.size _ (by rfl) O8.out _ (m := i - k) _ (by rfl) (RB.out.kept K8.out (fun _ _ h => h)) (lnCs_one _) (by simp only [maxLen]; omega) (by omega) (K8.out.size) ?_; intro A9 c9 w9 o9 k9 hA9; have O9 := hide o9; have K9 := hide (K8.out.step k9 (fun q hq h => by have := O8.out.inB h; omega)); clear o9 k9 hA9))
            all_goals
              have O10 : Hid (Lns w9 w.heap.size A9 (i + 1) c9 (srtL (l.take (i + 1)))) := hide (by
                have h1 := O9.out
                rw [hik, ← lnCs1 x, ← lnCs_app, ← lnCs_app] at h1
                have h2 : S.take k ++ [x] ++ S.drop k = S1 ++ x :: S2 := by
                  rw [← HF.out.1, HF.out.2.1, List.take_left, List.drop_left]; simp
                rw [h2, ← HRs.out] at h1
                exact h1.base_le (by have := K6.out.size; have := K3.out.size; have := HGX.out; omega))
              have K10 := hide ((HK.out.trans K3.out).trans (K6.out.trans K9.out))
              go_wp2_with fail
              go_roundw
              case rel => exact ⟨i + 1, A9, c9, by omega, rfl, by go_num, O10, K10⟩
              case measure => simp [intOf]; omega
          · have HF2 : Hid (S1' ++ y :: S2 = S ∧ p = S1'.length ∧ ∀ z ∈ y :: S2, lnLt x z = true) := hide ⟨by rw [← HF.out.1, HS1.out]; simp, by
              have := HF.out.2.1; rw [HS1.out] at this; simp at this; have := HP.out; omega, fun z hz => by
              rcases List.mem_cons.1 hz with rfl | hz
              · exact hb
              · exact HF.out.2.2 z hz⟩
            clear hb
            go_wp2_with fail
            go_roundw
            case rel => exact ⟨p, S1', y :: S2, by omega, rfl, HF2, K6'⟩
            case measure => have := HP.out; simp [intOf]; omega
    · have e1 : decide (i < n) = false := by simpa using hlt
      obtain rfl : i = n := by omega
      rw [List.take_of_length_le (by rw [HLl.out]; exact Nat.le_refl _)] at HO
      go_wp2_with fail
      go_ret
      exact ⟨A', c', rfl, HO.out, HK.out⟩
end Go.Proofs.Ytmbgnekilgobaaa
