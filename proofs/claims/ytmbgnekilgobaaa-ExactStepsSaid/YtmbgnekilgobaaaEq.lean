
/-
  The reference's store: Put. No conditions beyond those of the statement.
-/
import Derived.Test.YtmbgnekilgobaaaEo
import Derived.Test.YtmbgnekilgobaaaEp
import Derived.Test.YtmbgnekilgobaaaEh
set_option linter.unusedVariables false
set_option linter.unusedSimpArgs false
namespace Go.Proofs.Ytmbgnekilgobaaa
open Go.RowKit
/-- a call in a region that draws its order, beside laws ('go_region_law') -/
theorem step_go {P : Program} {ops : Array Oper} {o : Oper} {a : Act} {w : World} {K : Act → World → Prop} {Q : Exit → Act → World → Prop} {F : Prop} (hgd : o.guard = none) (h : Oper.wp P o a w K Q) :
    if Region.wanted o (yielded ops a.tmps) = true then Oper.wp P o a w K Q else F := by
  have hw : Region.wanted o (yielded ops a.tmps) = true := by simp [Region.wanted, hgd]
  rw [if_pos hw]
  exact h
def RPutPost (w : World) (B s : Nat) (N : Int) (A : Option Addr) (m : Nat) (l : List Ln) (x : Ln) (e : Ending) (w' : World) : Prop :=
  ∃ A' c', e = .returned (.int .i64 (putC N m l x)) ∧ Blk w' s 80 #[.int .i64 N, .slice A' (putM N m l x) c'] ∧ Ens w' B A' (putM N m l x) c' (putL N m l x) ∧ Keeps (· = s) w w' ∧ (∀ k, inB A' k → inB A k ∨ w.heap.size ≤ k)
theorem RPutPost.same {w wx : World} {B s m c : Nat} {N z : Int} {A : Option Addr} {l : List Ln} {x : Ln} (hC : putC N m l x = z) (hz : z ≠ 0) (hb : Blk wx s 80 #[.int .i64 N, .slice A m c]) (ho : Ens wx B A m c l) (hk : Keeps (fun _ => False) w wx) : RPutPost w B s N A m l x (.returned (.int .i64 z)) wx := by
  have h1 : putL N m l x = l := by unfold putL; rw [if_neg (by rw [hC]; exact hz)]
  have h2 : putM N m l x = m := by unfold putM; rw [if_neg (by rw [hC]; exact hz)]
  exact ⟨A, c, by rw [hC], by rw [h2]; exact hb, by rw [h1, h2]; exact ho, hk.weak (fun _ _ h => h.elim), fun k h => .inl h⟩
theorem fit3_zero (a b : Int) : fit3 a b 0 = decide (a + b ≤ 9223372036854775808) := by unfold fit3; rw [Int.add_zero]
set_option maxRecDepth 100000 in
set_option maxHeartbeats 2000000 in
theorem rput_any (w : World) (B s : Nat) (N : Int) (A : Option Addr) (m c : Nat) (l : List Ln) (x : Ln) (hx : U x.lo ∧ U x.hi) (hb : Blk w s 80 #[.int .i64 N, .slice A m c]) (ho : Ens w B A m c l) (hB : B ≤ w.heap.size) (hs : Asc l) (hm : m ≤ 100000) (hsA : ¬ inB A s) :
    Calls Try.prog 49 #[.pointer (some ⟨s, 0, none⟩), enV x] w (RPutPost w B s N A m l x) := by
  obtain ⟨w1, hw1⟩ : ∃ w1, w1 = w.alloc (.cells #[.string x.key, .int .u64 x.lo, .int .u64 x.hi] 53) := ⟨_, rfl⟩
  obtain ⟨gx, hgx⟩ : ∃ gx, gx = w.heap.size := ⟨_, rfl⟩
  have k1 : Keeps (fun _ => False) w w1 := by rw [hw1]; exact (Keeps.refl _ _).alloc _
  have x1 : Blk w1 gx 53 (lnC x).toArray := by rw [hw1, hgx]; exact Blk.new _ _ _
  have b1 := hb.kept k1 (fun h => h)
  have o1 := ho.kept k1 (fun _ _ h => h)
  obtain ⟨c0, c1, c2⟩ := ln_cells x1
  have d1 := b1.cell 1
  have hsl1 := b1.lt
  have hxl1 := x1.lt
  have HB := hide b1
  have HO := hide o1
  have HX := hide x1
  have K1 := hide k1
  have HG := hide hgx
  have HW := hide hw1
  have HBs := hide hb.lt
  clear hb ho x1 b1 o1 k1 hgx hw1
  go_enter Try.func49, Try.ntmps49
  go_upto_region 1 with fail
  rw [← HG.out, ← HW.out]
  rcases e1 : (x.key.toList == []) with _ | _
  · go_upto_region 3 with fail
    have HSg : Hid (∀ W, Keeps (fun _ => False) w1 W → (Keeps (fun _ => False) w1 W ∧ W.cell? ⟨gx, 0, none⟩ = some (.string x.key) ∧ W.cell? ⟨s, 1, none⟩ = some (.slice A m c))) := hide (fun W kW => ⟨kW, kW.cell_some c0 (fun h => h), kW.cell_some d1 (fun h => h)⟩)
    refine wp_region_held_drew (S := fun W => Keeps (fun _ => False) w1 W ∧ W.cell? ⟨gx, 0, none⟩ = some (.string x.key) ∧ W.cell? ⟨s, 1, none⟩ = some (.slice A m c)) (by kernel_rfl) (HSg.out _ ((Keeps.refl _ _).drew)) (fun hHeld => ?_)
    refine wpAnyH_take (i := 0) (v := ?_) rfl (by kernel_rfl) (by kernel_rfl) (by kernel_rfl) (fun _ _ _ h => h) (Or.inl ⟨by first | kernel_rfl | rfl, ?_⟩) (by assumption) ?_; rotate_left; focus (intro w hSw; (try dsimp only at hSw); go_simp; try (with_reducible rfl)); (try simp only [Act.put, List.getElem_toArray, List.getElem_cons_succ, List.getElem_cons_zero, List.setIfInBounds_toArray, List.set_cons_zero, List.set_cons_succ])
    refine wpAnyH_take (i := 1) (v := ?_) rfl (by kernel_rfl) (by kernel_rfl) (by kernel_rfl) (fun _ _ _ h => h) (Or.inl ⟨by first | kernel_rfl | rfl, ?_⟩) (by assumption) ?_; rotate_left; focus (intro w hSw; (try dsimp only at hSw); go_simp; try (with_reducible rfl)); (try simp only [Act.put, List.getElem_toArray, List.getElem_cons_succ, List.getElem_cons_zero, List.setIfInBounds_toArray, List.set_cons_zero, List.set_cons_succ])
    refine wpAnyH_take (i := 2) (v := ?_) rfl (by kernel_rfl) (by kernel_rfl) (by kernel_rfl) (fun _ _ _ h => h) (Or.inl ⟨by first | kernel_rfl | rfl, ?_⟩) (by assumption) ?_; rotate_left; focus (intro w hSw; (try dsimp only at hSw); go_simp; try (with_reducible rfl)); (try simp only [Act.put, List.getElem_toArray, List.getElem_cons_succ, List.getElem_cons_zero, List.setIfInBounds_toArray, List.set_cons_zero, List.set_cons_succ])
    refine wpAnyH_take (i := 3) (v := ?_) rfl (by kernel_rfl) (by kernel_rfl) (by kernel_rfl) (fun _ _ _ h => h) (Or.inl ⟨by first | kernel_rfl | rfl, ?_⟩) (by assumption) ?_; rotate_left; focus (intro w hSw; (try dsimp only at hSw); go_simp; try (with_reducible rfl)); (try simp only [Act.put, List.getElem_toArray, List.getElem_cons_succ, List.getElem_cons_zero, List.setIfInBounds_toArray, List.set_cons_zero, List.set_cons_succ])
    refine wpAnyH_take (i := 4) (v := ?_) rfl (by kernel_rfl) (by kernel_rfl) (by kernel_rfl) (fun _ _ _ h => h) (Or.inl ⟨by first | kernel_rfl | rfl, ?_⟩) (by assumption) ?_; rotate_left; focus (intro w hSw; (try dsimp only at hSw); go_simp; try (with_reducible rfl)); (try simp only [Act.put, List.getElem_toArray, List.getElem_cons_succ, List.getElem_cons_zero, List.setIfInBounds_toArray, List.set_cons_zero, List.set_cons_succ])
    refine wpAnyH_take (i := 5) (v := ?_) rfl (by kernel_rfl) (by kernel_rfl) (by kernel_rfl) (fun _ _ _ h => h) (Or.inl ⟨by first | kernel_rfl | rfl, ?_⟩) (by assumption) ?_; rotate_left; focus (intro w hSw; (try dsimp only at hSw); go_simp; try (with_reducible rfl)); (try simp only [Act.put, List.getElem_toArray, List.getElem_cons_succ, List.getElem_cons_zero, List.setIfInBounds_toArray, List.set_cons_zero, List.set_cons_succ])
    refine wpAnyH_ready (rs := [6]) (by kernel_rfl) (by simp) ?_
    refine AllReadyH.cons rfl (fun K hK => ?_) AllReadyH.nil
    go_simp
    go_at_call 68
    refine (rplace_any _ _ A m c l x.key ((HO.out.kept ((Keeps.refl (fun _ => False) w1).drew) (fun _ _ h => h)).rd (by omega)) hs (by omega)).mono ?_
    rintro e w2 ⟨rfl, k2⟩
    have KD := hide (((Keeps.refl (fun _ => False) w1).drew).trans k2)
    (try go_wp2_with fail)
    refine hK.out _ _ (HSg.out _ KD.out) (fun _ => ?_)
    clear hK K k2
    (try simp only [Act.put, List.getElem_toArray, List.getElem_cons_succ, List.getElem_cons_zero, List.setIfInBounds_toArray, List.set_cons_zero, List.set_cons_succ])
    have b2 := HB.out.kept KD.out (fun h => h)
    have x2 := HX.out.kept KD.out (fun h => h)
    have B2 := hide b2
    have O2 := hide (HO.out.kept KD.out (fun _ _ h => h))
    have X2 := hide x2
    have K2 := hide (K1.out.trans KD.out)
    have hsl2 := b2.lt
    have hxl2 := x2.lt
    clear c1 c2 hsl1 hxl1
    rcases hf : foundK l x.key with _ | _
    · rw [plI_no hf]
      refine wpAnyH_take (i := 7) (v := ?_) rfl (by kernel_rfl) (by kernel_rfl) (by kernel_rfl) (fun _ _ _ h => h) (Or.inl ⟨by first | kernel_rfl | rfl, ?_⟩) (by assumption) ?_; rotate_left; focus (intro w hSw; (try dsimp only at hSw); go_simp; try (with_reducible rfl)); (try simp only [Act.put, List.getElem_toArray, List.getElem_cons_succ, List.getElem_cons_zero, List.setIfInBounds_toArray, List.set_cons_zero, List.set_cons_succ])
      refine wpAnyH_take (i := 8) (v := ?_) rfl (by kernel_rfl) (by kernel_rfl) (by kernel_rfl) (fun _ _ _ h => h) (Or.inl ⟨by first | kernel_rfl | rfl, ?_⟩) (by assumption) ?_; rotate_left; focus (intro w hSw; (try dsimp only at hSw); go_simp; try (with_reducible rfl)); (try simp only [Act.put, List.getElem_toArray, List.getElem_cons_succ, List.getElem_cons_zero, List.setIfInBounds_toArray, List.set_cons_zero, List.set_cons_succ])
      refine wpAnyH_done (by kernel_rfl) ?_ _
      (try simp only [Act.put, List.getElem_toArray, List.getElem_cons_succ, List.getElem_cons_zero, List.setIfInBounds_toArray, List.set_cons_zero, List.set_cons_succ])
      clear hHeld HSg c0 d1
      obtain ⟨c0, c1, c2⟩ := ln_cells x2
      clear x2 b2
      go_upto_region 5 with fail
      go_wp2_with fail
      refine (rfull_any w2 s N A m c B2.out).mono ?_
      rintro e w4 ⟨rfl, kd, hkd⟩
      have k4 : Keeps (fun _ => False) w2 w4 := by rw [hkd]; exact (Keeps.refl _ _).drewN _
      have x4 := X2.out.kept k4 (fun h => h)
      have b4 := B2.out.kept k4 (fun h => h)
      have B4 := hide b4
      have O4 := hide (O2.out.kept k4 (fun _ _ h => h))
      have X4 := hide x4
      have K4 := hide (K2.out.trans k4)
      clear c0 c1 c2 k4 hkd
      obtain ⟨c0, c1, c2⟩ := ln_cells x4
      have d1 := b4.cell 1
      have hsl4 := b4.lt
      have hxl4 := x4.lt
      clear x4 b4 hsl2 hxl2
      rcases e2 : ((m : Int) == N) with _ | _
      · have HF := hide (fit3_zero x.lo x.hi)
        rcases hfit : fit3 x.lo x.hi 0 with _ | _
        · have hC : Hid (putC N m l x = 12) := hide (by unfold putC; rw [e1, hf, e2, hfit]; rfl)
          rw [hfit] at HF
          go_wp2_with fail
          refine (rexact_any _ _ _ hx.1 hx.2 ⟨by omega, by omega⟩ _).mono ?_
          rintro e w5 ⟨rfl, rfl⟩
          rw [← HF.out]
          go_wp2_with fail
          go_ret
          exact RPutPost.same hC.out (by decide) B4.out O4.out K4.out
        · have hC : Hid (putC N m l x = 0) := hide (by unfold putC; rw [e1, hf, e2, hfit]; rfl)
          rw [hfit] at HF
          go_upto_region 8 with fail
          refine (rexact_any _ _ _ hx.1 hx.2 ⟨by omega, by omega⟩ _).mono ?_
          rintro e w6 ⟨rfl, rfl⟩
          rw [← HF.out]
          go_upto_region 9 with fail
          have RA := hide (O4.out.rd (by omega))
          go_region_law (first
            | (refine step_app _ elemEn (by rfl) (.tmp 29) (.tmp 33) (by rfl) w4.heap.size _ (by rfl) (Own.new0 _ _ 53 3 _ (by simp) (by simp)) _ (m := m) _ (by rfl) (RA.out.kept (((Keeps.refl (fun _ => False) w4).drew).alloc _) (fun _ _ h => h)) (lnCs_one _) (by simp only [maxLen]; omega) (by omega) (by simp) ?_; intro A7 c7 w7 o7 k7 hA7; rw [Nat.zero_add, List.nil_append] at o7; have O7 := hide o7; have K7 := hide ((((Keeps.refl (fun _ => False) w4).drew).alloc (.cells #[] 53)).step k7 (fun q hq h => by have := (inB_some _ _ _).1 h; (try simp at this); omega)); obtain ⟨c70, c71, c72⟩ := ln_cells (X4.out.kept K7.out (fun h => h)); have hxl7 := (X4.out.kept K7.out (fun h => h)).lt; clear o7 k7 hA7)
            | (refine step_app _ elemEn (by rfl) (.tmp 29) (.tmp 33) (by rfl) w4.heap.size _ (by rfl) (Own.new0 _ _ 53 3 _ (by simp) (by simp)) _ (m := m) _ (by rfl) (RA.out.kept ((((Keeps.refl (fun _ => False) w4).drew).alloc (.cells #[.string x.key, .int .u64 x.lo, .int .u64 x.hi] 53)).alloc _) (fun _ _ h => h)) (lnCs_one _) (by simp only [maxLen]; omega) (by omega) (by simp; (try omega)) ?_; intro A7 c7 w7 o7 k7 hA7; rw [Nat.zero_add, List.nil_append] at o7; have O7 := hide o7; have HY7 := hide (((Blk.new_at w4.drew 53 #[.string x.key, .int .u64 x.lo, .int .u64 x.hi] w4.heap.size rfl).alloc (.cells #[] 53)).kept k7 (fun h => by have := (inB_some _ _ _).1 h; (try simp at this))); have K7 := hide (((((Keeps.refl (fun _ => False) w4).drew).alloc (.cells #[.string x.key, .int .u64 x.lo, .int .u64 x.hi] 53)).alloc (.cells #[] 53)).step k7 (fun q hq h => by have := (inB_some _ _ _).1 h; (try simp at this); omega)); clear o7 k7 hA7)
            | (refine step_app _ elemEn (by rfl) (.tmp 29) (.tmp 33) (by rfl) w4.heap.size _ (by rfl) ((Own.new0 w4.drew w4.heap.size 53 3 w4.heap.size rfl (Nat.le_refl _)).kept (((Keeps.refl (fun _ => False) _)).alloc (.cells #[.string x.key, .int .u64 x.lo, .int .u64 x.hi] 53)) (fun _ _ h => h)) _ (m := m) _ (by rfl) (RA.out.kept ((((Keeps.refl (fun _ => False) w4).drew).alloc (.cells #[] 53)).alloc _) (fun _ _ h => h)) (lnCs_one _) (by simp only [maxLen]; omega) (by omega) (by simp; (try omega)) ?_; intro A7 c7 w7 o7 k7 hA7; rw [Nat.zero_add, List.nil_append] at o7; have O7 := hide o7; have HY7 := hide ((Blk.new_at (w4.drew.alloc (.cells #[] 53)) 53 #[.string x.key, .int .u64 x.lo, .int .u64 x.hi] (w4.heap.size + 1) (by simp)).kept k7 (fun h => by have := (inB_some _ _ _).1 h; (try simp at this); (try omega))); have K7 := hide (((((Keeps.refl (fun _ => False) w4).drew).alloc (.cells #[] 53)).alloc (.cells #[.string x.key, .int .u64 x.lo, .int .u64 x.hi] 53)).step k7 (fun q hq h => by have := (inB_some _ _ _).1 h; (try simp at this); omega)); clear o7 k7 hA7)
            | (refine step_app _ elemEn (by rfl) (.tmp 34) (.tmp 36) (by rfl) w4.heap.size _ (by rfl) O7.out _ (m := 1) (lnC x) (by rfl) (Blk.rd (xs := lnC x) HY7.out rfl) (lnC_one x) (by simp only [maxLen]; omega) (by omega) (K7.out.size) ?_; intro A8 c8 w8 o8 k8 hA8; rw [← lnCs1 x, ← lnCs_app] at o8; have O8 := hide o8; have K8 := hide (K7.out.step k8 (fun q hq h => by have := O7.out.inB h; omega)); clear o8 k8 hA8)
            | (refine step_app _ elemEn (by rfl) (.tmp 34) (.tmp 36) (by rfl) w4.heap.size _ (by rfl) (O7.out.kept ((Keeps.refl (fun _ => False) w7).alloc _) (fun _ _ h => h)) _ (m := 1) (lnC x) (by rfl) (Blk.rd (xs := lnC x) (Blk.new_at _ _ _ _ (by simp)) rfl) (lnC_one x) (by simp only [maxLen]; omega) (by omega) (by have := K7.out.size; simp; omega) ?_; intro A8 c8 w8 o8 k8 hA8; rw [← lnCs1 x, ← lnCs_app] at o8; have O8 := hide o8; have K8 := hide ((K7.out.alloc (.cells #[.string x.key, .int .u64 x.lo, .int .u64 x.hi] 53)).step k8 (fun q hq h => by have := O7.out.inB h; omega)); clear o8 k8 hA8)
            | (refine step_go (by rfl) ?_; go_simp; go_at_call 71; refine (rsorted_any w8 _ A8 (m + 1) c8 (l ++ [x]) (O8.out.rd (by omega)) (by omega)).mono ?_; rintro e w9 ⟨A9, c9, rfl, o9, k9⟩; have O9 := hide o9; have K9 := hide (K8.out.trans k9); have b9 := B4.out.kept K9.out (fun h => h); have f91 := b9.frozen 1; have d91 := b9.cell 1; have hsl9 := b9.lt; have B9 := hide b9; clear o9 k9 b9))
          all_goals
            have K10 : Keeps (· = s) w9 (w9.setCell ⟨s, 1, none⟩ (.slice A9 (m + 1) c9)) := Keeps.setCell (S := (· = s)) (p := ⟨s, 1, none⟩) (Keeps.refl _ _) (.inl rfl) _
            have hM : putM N m l x = m + 1 := by unfold putM; rw [if_pos hC.out]
            have hLL : putL N m l x = srtE (l ++ [x]) := by unfold putL; rw [if_pos hC.out, srtE_snoc, srtE_asc hs]; rfl
            have hA9 : ∀ q, inB A9 q → w4.heap.size ≤ q := fun q hq => by have := (O9.out.inB hq).1; have := K8.out.size; omega
            have FN : Hid (RPutPost w B s N A m l x (.returned (.int .i64 0)) (w9.setCell ⟨s, 1, none⟩ (.slice A9 (m + 1) c9))) := hide ⟨A9, c9, by rw [hC.out], by rw [hM]; exact B9.out.set 1 _, by rw [hM, hLL]; exact (O9.out.base_le (b := B) (by have := K4.out.size; have := K8.out.size; omega)).kept K10 (fun q hq e => by have := hA9 q hq; omega), ((K4.out.trans K9.out).weak (S' := (· = s)) (fun _ _ h => h.elim)).trans K10, fun q hq => .inr (by have := hA9 q hq; have := K4.out.size; omega)⟩
            clear K10 hM hLL hA9 d91 f91
            (try simp only [Act.put, List.getElem_toArray, List.getElem_cons_succ, List.getElem_cons_zero, List.setIfInBounds_toArray, List.set_cons_zero, List.set_cons_succ])
            go_wp2_with fail
            go_ret
            exact FN.out
      · have hC : Hid (putC N m l x = 7) := hide (by unfold putC; rw [e1, hf, e2]; rfl)
        go_wp2_with fail
        go_ret
        exact RPutPost.same hC.out (by decide) B4.out O4.out K4.out
    · rw [plI_yes hf]
      have hC : Hid (putC N m l x = 10) := hide (by unfold putC; rw [e1, hf]; rfl)
      refine wpAnyH_take (i := 7) (v := ?_) rfl (by kernel_rfl) (by kernel_rfl) (by kernel_rfl) (fun _ _ _ h => h) (Or.inl ⟨by first | kernel_rfl | rfl, ?_⟩) (by assumption) ?_; rotate_left; focus (intro w hSw; (try dsimp only at hSw); go_simp; try (with_reducible rfl)); (try simp only [Act.put, List.getElem_toArray, List.getElem_cons_succ, List.getElem_cons_zero, List.setIfInBounds_toArray, List.set_cons_zero, List.set_cons_succ])
      refine wpAnyH_take (i := 8) (v := ?_) rfl (by kernel_rfl) (by kernel_rfl) (by kernel_rfl) (fun _ _ _ h => h) (Or.inl ⟨by first | kernel_rfl | rfl, ?_⟩) (by assumption) ?_; rotate_left; focus (intro w hSw; (try dsimp only at hSw); go_simp; try (with_reducible rfl)); (try simp only [Act.put, List.getElem_toArray, List.getElem_cons_succ, List.getElem_cons_zero, List.setIfInBounds_toArray, List.set_cons_zero, List.set_cons_succ])
      refine wpAnyH_done (by kernel_rfl) ?_ _
      (try simp only [Act.put, List.getElem_toArray, List.getElem_cons_succ, List.getElem_cons_zero, List.setIfInBounds_toArray, List.set_cons_zero, List.set_cons_succ])
      clear hHeld HSg c0 d1
      go_wp2_with fail
      go_ret
      exact RPutPost.same hC.out (by decide) B2.out O2.out K2.out
  · have hC : Hid (putC N m l x = 3) := hide (by unfold putC; rw [if_pos e1])
    go_wp2_with fail
    go_ret
    exact RPutPost.same hC.out (by decide) HB.out HO.out K1.out
end Go.Proofs.Ytmbgnekilgobaaa
