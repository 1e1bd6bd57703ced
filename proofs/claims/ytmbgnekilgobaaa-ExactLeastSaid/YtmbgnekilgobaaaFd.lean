/-
  ExactLeast. No conditions beyond those of the statement.
-/
import Derived.Test.YtmbgnekilgobaaaFa
set_option linter.unusedVariables false
set_option linter.unusedSimpArgs false
namespace Go.Proofs.Ytmbgnekilgobaaa
open Go.RowKit
namespace exactLeast
theorem ls_least (a : Ln) (l : List Ln) (h : Asc (a :: l)) : ∀ z ∈ a :: l, (lsF a l).lo + (lsF a l).hi ≤ z.lo + z.hi ∧ (z.lo + z.hi = (lsF a l).lo + (lsF a l).hi → Op.bytesLess (lsF a l).key.toList z.key.toList = false) := by
  induction l using Srt.rev_ind with
  | h0 =>
    intro z hz
    rw [List.mem_singleton.1 hz]
    exact ⟨Int.le_refl _, fun _ => bl_irr _⟩
  | h1 l e ih =>
    have h2 := List.pairwise_append.1 (show (a :: l ++ [e]).Pairwise _ from h)
    have ih := ih h2.1
    rw [lsF_snoc]
    intro z hz
    have hz2 : z ∈ a :: l ∨ z = e := by
      rcases List.mem_append.1 (show z ∈ a :: l ++ [e] from hz) with h | h
      · exact .inl h
      · exact .inr (List.mem_singleton.1 h)
    have hr := ih _ (lsF_mem a l)
    by_cases hc : e.lo + e.hi ≤ (lsF a l).lo + (lsF a l).hi
    · rw [if_pos hc]
      rcases hz2 with h | rfl
      · refine ⟨by have := (ih z h).1; omega, fun _ => ?_⟩
        have h3 := h2.2.2 z h e (List.mem_singleton.2 rfl)
        rcases e2 : Op.bytesLess e.key.toList z.key.toList with _ | _
        · rfl
        · have := bl_tr _ _ _ h3 e2
          rw [bl_irr] at this
          cases this
      · exact ⟨Int.le_refl _, fun _ => bl_irr _⟩
    · rw [if_neg hc]
      rcases hz2 with h | rfl
      · exact ih z h
      · exact ⟨by omega, fun e => by omega⟩
theorem least_law (l : List Ln) (h : Asc l) : ∀ z ∈ l, (leastL l).lo + (leastL l).hi ≤ z.lo + z.hi ∧ (z.lo + z.hi = (leastL l).lo + (leastL l).hi → Op.bytesLess (leastL l).key.toList z.key.toList = false) := by
  cases l with
  | nil => intro z hz; cases hz
  | cons a l => exact ls_least a l h
theorem get_at {l : List Ln} (h : Asc l) {x : Ln} (hx : x ∈ l) : getE l x.key = x ∧ foundK l x.key = true := by
  obtain ⟨i, hi⟩ := List.getElem?_of_mem hx
  obtain ⟨h1, h2⟩ := pl_at h hi rfl
  refine ⟨?_, h2⟩
  unfold getE
  rw [h2, h1, hi]
  rfl
theorem least_get (l : List Ln) (h : Asc l) : getE l (leastL l).key = leastL l ∧ foundK l (leastL l).key = decide (0 < l.length) := by
  cases l with
  | nil => exact ⟨rfl, rfl⟩
  | cons a l => exact get_at h (lsF_mem a l)
theorem least_nums (l : List Ln) (h : Nums l) : 0 ≤ (leastL l).lo ∧ 0 ≤ (leastL l).hi ∧ (leastL l).lo + (leastL l).hi ≤ 9223372036854775808 := by
  cases l with
  | nil => exact ⟨by decide, by decide, by decide⟩
  | cons a l => exact h _ (lsF_mem a l)
set_option maxRecDepth 100000 in
set_option maxHeartbeats 1000000 in
theorem main (w : World) (A : Option Addr) (n c : Nat) (z : List Int) (r : Rd w w.heap.size A 1 n (z.map (.int .i64))) (b : ∀ v ∈ z, -9223372036854775808 ≤ v ∧ v < 9223372036854775808) (hn : n ≤ 35184372088832) :
    Calls Try.prog 12 #[.slice A n c] w fun e w' => e = .returned (.bool true) ∧ Keeps (fun k => ¬ k < w.heap.size) w w' := by
  obtain ⟨B, hB⟩ : ∃ B, B = w.heap.size := ⟨_, rfl⟩
  rw [← hB] at r ⊢
  have HB := hide hB
  have R := hide r
  have HZ := hide b
  clear r b hB
  go_enter Try.func12, Try.ntmps12
  go_wp2_with fail
  refine (enew_ok 32 w (by omega) (by omega)).mono ?_
  rintro e w1 ⟨rfl, hw1⟩
  obtain ⟨s, hs⟩ : ∃ s, s = w.heap.size := ⟨_, rfl⟩
  rw [← hs]
  have HS1 := hide (show IsS w1 (fun k => k < B) s 32 [] from by rw [hw1]; exact IsS.new w _ 32 _ hs (fun k h => by have := HB.out; omega) (by omega) (by omega))
  have K1 : Hid (Keeps (fun _ => False) w w1) := hide (by rw [hw1]; exact (Keeps.refl _ _).alloc _)
  have hBs : B ≤ s := by have := HB.out; omega
  have hz1 : s < w1.heap.size := HS1.out.lt
  clear hw1 hs
  go_wp2_with fail
  refine (new_deck A n c z B w1 (by omega) (R.out.kept K1.out (fun _ _ h => h)) HZ.out hn).mono ?_
  rintro e w2 ⟨rfl, d2, k2⟩
  obtain ⟨g, hg⟩ : ∃ g, g = w1.heap.size := ⟨_, rfl⟩
  rw [← hg] at d2 ⊢
  have D2 := hide d2
  have hgl : g < w2.heap.size := d2.lt
  have hsg : s < g := by omega
  have HS2 : Hid (IsS w2 (fun k => k < B ∨ k = g) s 32 []) := hide ((HS1.out.grow k2 (fun _ h => h.elim)).less (fun k h => by have := d2.lt; omega))
  have K2 := hide ((K1.out.trans k2).weak (S' := fun k => ¬ k < B) (fun _ _ h => h.elim))
  clear d2 k2 hg HS1
  go_wp2_with fail
  refine (next_any 20 (by omega) (by omega) B g w2 D2.out).mono ?_
  rintro e w3 ⟨k, rfl, k0, k1, d3, k3⟩
  have D3 := hide d3
  have HS3 := hide (HS2.out.kept k3 (fun q h => .inr h))
  have K3 := hide (K2.out.trans (k3.weak (S' := fun k => ¬ k < B) (fun q _ e => by omega)))
  clear d3 k3 D2 HS2
  go_upto_region 6 with fail
  go_loopw [6] (fun kv wr => ∃ (x : Int) (l : List Ln), kv = .int .i64 x ∧ 0 ≤ x ∧ x ≤ 20 ∧ Hid (IsS wr (fun k => k < B ∨ k = g) s 32 l) ∧ Hid (IsDeck wr B g) ∧ Hid (Keeps (fun k => ¬ k < B) w wr)) (fun kv _ => (intOf kv).toNat)
  case atStart => exact ⟨k, [], rfl, k0, by omega, HS3, D3, K3⟩
  case round =>
    obtain ⟨x, l, rfl, x0, x1, HS, HD, HK⟩ := hrel
    obtain ⟨wo, rfl⟩ : ∃ wo : World, wo = wr := ⟨_, rfl⟩
    clear HS3 D3 K3
    by_cases hx : 0 < x
    · have e1 : decide (0 < x) = true := by simpa using hx
      have wx : IntKind.i64.wrap (x - 1) = x - 1 := IntWalk.i64_in _ (by omega)
      go_wp2_with fail
      refine (entry_any B g wo HD.out).mono ?_
      rintro e w4 ⟨y, rfl, y0, y1, y2, y3, y4, y5, d4, k4⟩
      have D4 := hide d4
      have HS4 := hide (HS.out.kept k4 (fun q h => .inr h))
      have K4 := hide (HK.out.trans (k4.weak (S' := fun k => ¬ k < B) (fun q _ e => by omega)))
      have hz4 := K4.out.size
      clear d4 k4
      go_wp2_with fail
      refine (sput_any w4 _ _ _ _ y HS4.out (fun k h => by have := D4.out.lt; omega) ⟨by omega, by omega⟩).mono ?_
      rintro e w5 ⟨rfl, h5, k5⟩
      have HS5 := hide h5
      have D5 := hide (D4.out.kept k5 (fun h => h (by omega)) (fun q hq h => h (by omega)))
      have K5 := hide (K4.out.trans (k5.weak (S' := fun k => ¬ k < B) (fun q _ h e => h (by omega))))
      clear h5 k5
      go_wp2_with fail
      go_roundw
      case rel => exact ⟨x - 1, _, rfl, by omega, by omega, HS5, D5, K5⟩
      case measure => simp [intOf]; omega
    · have e1 : decide (0 < x) = false := by simpa using hx
      obtain ⟨hasc, hnum⟩ : Asc l ∧ Nums l := by
        obtain ⟨_, _, _, _, _, _, _, h5, h6, _⟩ := HS.out
        exact ⟨h5, h6⟩
      obtain ⟨hg1, hg2⟩ := least_get l hasc
      have HLaw := hide (least_law l hasc)
      have hxu := least_nums l hnum
      have HN := hide hnum
      obtain ⟨ln, hln⟩ : ∃ ln, ln = l.length := ⟨_, rfl⟩
      have hln2 : ln ≤ 32 := by
        obtain ⟨A', m', c', _, h2, _, _, _, _, h7, h8⟩ := HS.out
        have := Lns.len_en h2
        omega
      rw [← hln] at hg2
      have HG1 := hide hg1
      have HG2 := hide hg2
      have HLn := hide hln
      clear hasc hnum hg1 hg2 hln
      go_wp2_with fail
      refine (sleast_any wo _ _ _ _ HS.out).mono ?_
      rintro e w4 ⟨rfl, k4⟩
      rw [← HLn.out]
      obtain ⟨v, hv⟩ : ∃ v, v = leastL l := ⟨_, rfl⟩
      rw [← hv] at HG1 HG2 HLaw hxu ⊢
      obtain ⟨gx, hgx⟩ : ∃ gx, gx = w4.heap.size := ⟨_, rfl⟩
      obtain ⟨w5, hw5⟩ : ∃ w5, w5 = w4.alloc (.cells (lnC v).toArray 53) := ⟨_, rfl⟩
      have k5 : Keeps (fun _ => False) wo w5 := by rw [hw5]; exact k4.alloc _
      have HX5 : Hid (Blk w5 gx 53 (lnC v).toArray) := hide (by rw [hw5, hgx]; exact Blk.new _ _ _)
      have HS5 := hide (HS.out.kept k5 (fun _ h => h.elim))
      have K5 := hide (HK.out.trans (k5.weak (S' := fun k => ¬ k < B) (fun _ _ h => h.elim)))
      have HGX := hide hgx
      have HW5 := hide hw5
      unfold lnC at HW5
      clear hgx hw5 k4 k5 hv
      go_upto_region 10 with fail
      rw [← HGX.out, ← HW5.out]
      obtain ⟨c50, c51, c52⟩ := ln_cells HX5.out
      have hxl5 := HX5.out.lt
      go_wp2_with fail
      refine (sget_any w5 _ _ _ _ v.key HS5.out).mono ?_
      rintro e w6 ⟨rfl, k6⟩
      rw [HG1.out, HG2.out]
      obtain ⟨gy, hgy⟩ : ∃ gy, gy = w6.heap.size := ⟨_, rfl⟩
      obtain ⟨w7, hw7⟩ : ∃ w7, w7 = w6.alloc (.cells (lnC v).toArray 53) := ⟨_, rfl⟩
      have k7 : Keeps (fun _ => False) w5 w7 := by rw [hw7]; exact k6.alloc _
      have HY7 : Hid (Blk w7 gy 53 (lnC v).toArray) := hide (by rw [hw7, hgy]; exact Blk.new _ _ _)
      have HX7 := hide (HX5.out.kept k7 (fun h => h))
      have HS7 := hide (HS5.out.kept k7 (fun _ h => h.elim))
      have K7 := hide (K5.out.trans (k7.weak (S' := fun k => ¬ k < B) (fun _ _ h => h.elim)))
      have HGY := hide hgy
      have HW7 := hide hw7
      unfold lnC at HW7
      clear hgy hw7 k6 k7 c50 c51 c52 hxl5
      go_upto_region 11 with fail
      rw [← HGY.out, ← HW7.out]
      obtain ⟨c70, c71, c72⟩ := ln_cells HX7.out
      obtain ⟨d70, d71, d72⟩ := ln_cells HY7.out
      have hxl7 := HX7.out.lt
      have hyl7 := HY7.out.lt
      have e3 : decide ((0 : Int) < (ln : Int)) = decide (0 < ln) := by simp
      rcases hb : decide (0 < ln) with _ | _
      all_goals
        rw [hb] at e3
        go_wp2_with fail
        refine (slen_any _ _ _ _ _ HS7.out).mono ?_
        rintro e w8 ⟨rfl, rfl⟩
        rw [← HLn.out]
        go_wp2_with fail
        refine (sentries_any _ _ _ _ _ HS7.out).mono ?_
        rintro e w9 ⟨A9, c9, rfl, o9, k9⟩
        rw [← HLn.out] at o9 ⊢
        have O9 := hide o9
        have HX9 := hide (HX7.out.kept k9 (fun h => h))
        have K9 := hide (K7.out.trans (k9.weak (S' := fun k => ¬ k < B) (fun _ _ h => h.elim)))
        clear o9 k9 c70 c71 c72 d70 d71 d72 hxl7 hyl7
        go_upto_region 14 with fail
        go_loopw [65] (fun iv wr => ∃ i : Nat, i ≤ ln ∧ iv = .int .i64 (i : Int) ∧ Hid (Keeps (fun _ => False) w9 wr)) (fun iv _ => ln - (intOf iv).toNat)
        case atStart => exact ⟨0, by omega, rfl, hide (Keeps.refl _ _)⟩
        case round =>
          obtain ⟨i, hi, rfl, HW⟩ := hrel
          obtain ⟨wi, rfl⟩ : ∃ wi : World, wi = wr := ⟨_, rfl⟩
          by_cases hlt : i < ln
          · have e4 : decide (i < ln) = true := by simpa using hlt
            obtain ⟨y, hy⟩ : ∃ y, l[i]? = some y := ⟨l[i]'(by rw [← HLn.out]; exact hlt), List.getElem?_eq_getElem _⟩
            have hm := List.mem_of_getElem? hy
            obtain ⟨q1, q2⟩ := HLaw.out y hm
            have hyu := HN.out y hm
            obtain ⟨b9, off9, rfl, _, p0, p1, p2⟩ := lnRd_at ((O9.out.rd (by omega)).kept HW.out (fun _ _ h => h)) hy (by omega)
            obtain ⟨c70, c71, c72⟩ := ln_cells (HX9.out.kept HW.out (fun h => h))
            have hxl7 := (HX9.out.kept HW.out (fun h => h)).lt
            have e5 : decide (y.lo + y.hi < v.lo + v.hi) = false := by simpa using q1
            clear hm hy
            rcases e6 : (y.lo + y.hi == v.lo + v.hi) with _ | _
            · clear q1 q2
              go_wp2_with fail
              go_roundw
              case rel => exact ⟨i + 1, by omega, by go_num, hide (HW.out.alloc _)⟩
              case measure => simp [intOf]; omega
            · have e7 := q2 (by simpa using e6)
              clear q1 q2
              have hor : Op.bytesLess y.key.toList v.key.toList = true ∨ (Op.bytesLess y.key.toList v.key.toList = false ∧ (y.key.toList == v.key.toList) = true) := by
                rcases bl_tri y.key.toList v.key.toList with h | h | h
                · exact .inl h
                · exact .inr ⟨by rw [h]; exact bl_irr _, by rw [h]; exact beq_self_eq_true _⟩
                · rw [h] at e7; cases e7
              clear e7
              rcases hor with e8 | ⟨e8, e9⟩
              all_goals
                go_wp2_with fail
                go_roundw
                case rel => exact ⟨i + 1, by omega, by go_num, hide (HW.out.alloc _)⟩
                case measure => simp [intOf]; omega
          · have e4 : decide (i < ln) = false := by simpa using hlt
            go_wp2_with fail
            refine (awake17 _).mono ?_
            rintro e w10 ⟨rfl, k10⟩
            have K10 := hide (K9.out.trans ((HW.out.trans k10).weak (S' := fun k => ¬ k < B) (fun _ _ h => h.elim)))
            clear k10
            go_wp2_with fail
            go_ret
            exact ⟨rfl, K10.out⟩
theorem walk (w : World) (A1 : Option Addr) (n1 c1 : Nat) (z1 : List Int) (r1 : Rd w w.heap.size A1 1 n1 (z1.map (.int .i64))) (b1 : ∀ z ∈ z1, -9223372036854775808 ≤ z ∧ z < 9223372036854775808) (s1 : n1 * 8 ≤ 140737488351232) (l1 : n1 ≤ c1) :
    Calls Try.prog 12 #[.slice A1 n1 c1] w fun e w' => e = .returned (.bool true) ∧ Below w.heap.size w w' :=
  (main w A1 n1 c1 z1 r1 b1 (by omega)).mono fun e w' ⟨he, hk⟩ => ⟨he, hk.below (fun k h1 h2 => h2 h1)⟩
end exactLeast
end Go.Proofs.Ytmbgnekilgobaaa
