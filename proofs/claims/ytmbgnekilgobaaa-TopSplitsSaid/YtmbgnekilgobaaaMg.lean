/-
  TopSplits: for every input the law returns true. No conditions beyond those of the statement.
-/
import Derived.Test.YtmbgnekilgobaaaMe
set_option linter.unusedVariables false
set_option linter.unusedSimpArgs false
namespace Go.Proofs.Ytmbgnekilgobaaa
open Go.RowKit
/-- append, guarded, as an arm of the walk -/
theorem wpList_appG {P : Program} {ops : Array Oper} {rest : List Oper} {o : Oper} {a : Act} {Q : Exit → Act → World → Prop} (w : World) {t e : TypeId} {sz bytes : Nat} (E : ElemOf P t e sz bytes) (hw : Region.wanted o (yielded ops a.tmps) = true) (s x : Operand)
    (ho : o.op = .call { callee := .builtin .append, args := #[s, x], argTypes := #[t, t] })
    (base : Nat) {A : Option Addr} {n c : Nat} (xs : List Value) (hs : a.eval s = .slice A n c) (hown : Own w base e sz A n c xs)
    (B : Nat) {A2 : Option Addr} {m c2 : Nat} (news : List Value) (hx : a.eval x = .slice A2 m c2) (hr : Rd w B A2 sz m news) (h1 : ∀ u ∈ news, u.oneCell' = true)
    (h63 : n + m ≤ maxLen) (hbytes : (n + m) * bytes ≤ 140737488355328) (hbase : base ≤ w.heap.size)
    (h : ∀ A' c' w', Own w' base e sz A' (n + m) c' (xs ++ news) → Keeps (inB A) w w' → (∀ k, inB A' k → inB A k ∨ w.heap.size ≤ k) → wpList P ops Q rest (a.put o.dst (.slice A' (n + m) c')) w') : wpList P ops Q (o :: rest) a w :=
  wpList_step fun K hK => by
    rw [if_pos hw]
    exact wp_app w E s x ho base xs hs hown B news hx hr h1 h63 hbytes hbase fun A' c' w' h2 h3 h4 => hK _ _ (h A' c' w' h2 h3 h4)
namespace topSplits
set_option maxRecDepth 100000 in
set_option maxHeartbeats 2000000 in
theorem main (w : World) (A : Option Addr) (n c : Nat) (z : List Int) (r : Rd w w.heap.size A 1 n (z.map (.int .i64))) (b : ∀ v ∈ z, -9223372036854775808 ≤ v ∧ v < 9223372036854775808) (hn : n ≤ 35184372088832) (y : Int) (y0 : 0 ≤ y) (y1 : y < 256) :
    Calls Try.prog 6 #[.slice A n c, .int .u8 y] w fun e w' => e = .returned (.bool true) ∧ Keeps (fun _ => False) w w' := by
  have wy : IntKind.i64.wrap y = y := IntWalk.i64_in _ (by omega)
  go_enter Try.func6, Try.ntmps6
  go_wp2_with fail
  refine (new_deck A n c z w.heap.size w (Nat.le_refl _) r b hn).mono ?_
  rintro e w1 ⟨rfl, d1, k1⟩
  have D1 := hide d1
  have K1 := hide k1
  clear d1 k1
  go_wp2_with fail
  refine (lines_any 30 (by omega) (by omega) w.heap.size _ w1 D1.out).mono ?_
  rintro e w2 ⟨A1, k, c1, l, rfl, hk, hS, o1, d2, k2⟩
  have O1 := hide o1
  have K2 := hide (K1.out.step k2 (fun q hq e => by omega))
  have hk30 : k ≤ 30 := by omega
  clear o1 d2 k2 hS hk D1
  go_wp2_with fail
  refine (select_any _ _ _ _ _ l (y % 40) (O1.out.rd (by omega)) (by omega) (by omega) (by omega)).mono ?_
  rintro e w3 ⟨Aa, ca, Ab, cb, rfl, ra, rb, k3⟩
  have R3 := hide ((O1.out.rd (by omega)).kept k3 (fun _ _ h => h))
  have RA := hide ra
  have RB := hide rb
  have K3 := hide (K2.out.trans k3)
  have hq := selN_le (y % 40) k
  obtain ⟨q, hqq⟩ : ∃ q, q = selN (y % 40) k := ⟨_, rfl⟩
  rw [← hqq] at RA RB hq ⊢
  obtain ⟨m, hm⟩ : ∃ m, m = k - q := ⟨_, rfl⟩
  rw [← hm] at RB ⊢
  have hcase : ((k : Int) < y % 40 ∧ ((q : Int) != (k : Int)) = false) ∨ (¬ (k : Int) < y % 40 ∧ ((q : Int) != y % 40) = false) := by
    rw [hqq]
    unfold selN
    rcases Int.lt_or_le (k : Int) (y % 40) with h | h
    · exact .inl ⟨h, by rw [bne_eq_false_iff_eq]; omega⟩
    · exact .inr ⟨by omega, by rw [bne_eq_false_iff_eq]; omega⟩
  have HM : Hid (q + m = k) := hide (by omega)
  have hmk : m ≤ 30 ∧ q ≤ 30 := by omega
  obtain ⟨S, hS⟩ : ∃ S, S = srtL l := ⟨_, rfl⟩
  rw [← hS] at RA RB
  have HS := hide hS
  clear ra rb k3 K1 K2 O1 hqq hm hS hq r b
  rcases hcase with ⟨e1, e2⟩ | ⟨e1, e2⟩
  ·
    go_wp2_with (first
      | (at_builtin; refine wpList_appG _ elemLn (by kernel_rfl) (.tmp 33) (.tmp 34) rfl w3.heap.size _ rfl (Own.new0 _ _ 38 3 _ (by simp) (by omega)) _ (m := q) _ rfl (RA.out.kept ((Keeps.refl (fun _ => False) w3).alloc _) (fun _ _ h => h)) (lnCs_one _) (by simp only [maxLen]; omega) (by omega) (by simp) ?_; intro A7 c7 w7 o7 k7 hA7; rw [Nat.zero_add, List.nil_append] at o7; have O7 := hide o7; have K7 := hide (((Keeps.refl (fun _ => False) w3).alloc (.cells #[] 38)).step k7 (fun k hk h => by have := (inB_some _ _ _).1 h; omega)); clear o7 k7 hA7)
      | (at_builtin; refine wpList_appG _ elemLn (by kernel_rfl) (.tmp 35) (.tmp 36) rfl w3.heap.size _ rfl O7.out _ (m := m) _ rfl (RB.out.kept K7.out (fun _ _ h => h)) (lnCs_one _) (by simp only [maxLen]; omega) (by omega) (K7.out.size) ?_; intro A8 c8 w8 o8 k8 hA8; have O8 := hide o8; have K8 := hide (K7.out.step k8 (fun k hk h => by have := O7.out.inB h; omega)); clear o8 k8 hA8))
    rw [HM.out]
    rw [HM.out, ← lnCs_app, List.take_append_drop] at O8
    refine (bsort_any w8 _ A1 k c1 l (R3.out.kept K8.out (fun _ _ h => h)) (by omega)).mono ?_
    rintro e w9 ⟨A9, c9, rfl, o9, k9⟩
    rw [← HS.out] at o9
    have R8 := hide ((O8.out.rd (by omega)).kept k9 (fun _ _ h => h))
    have R9 := hide (o9.rd (by omega))
    have K9 := hide (K8.out.trans k9)
    clear o9 k9 O8 O7 K7 K8
    go_wp2_with fail
    refine (sameLines_any _ _ _ _ _ _ _ _ _ R8.out R9.out (by omega)).mono ?_
    rintro e w10 ⟨rfl, kd, rfl⟩
    have KX := hide (K9.out.drewN kd)
    have RAX := hide (RA.out.kept KX.out (fun _ _ h => h))
    have RBX := hide (RB.out.kept KX.out (fun _ _ h => h))
    have K10 := hide (K3.out.trans KX.out)
    clear R8 R9 K9 RA RB KX R3 K3
    generalize w9.drewN kd = w10 at *
    go_upto_region 6 with fail
    go_loopw [45] (fun iv wr => ∃ i : Nat, i ≤ m ∧ iv = .int .i64 (i : Int) ∧ Hid (Keeps (fun _ => False) w10 wr)) (fun iv _ => m - (intOf iv).toNat)
    case atStart => exact ⟨0, by omega, rfl, hide (Keeps.refl _ _)⟩
    case round =>
      obtain ⟨i, hi, rfl, K11⟩ := hrel
      obtain ⟨wo, rfl⟩ : ∃ wo : World, wo = wr := ⟨_, rfl⟩
      by_cases hlt : i < m
      · have e3 : decide (i < m) = true := by simpa using hlt
        have hlB := lnRd_len RBX.out
        obtain ⟨x, hx⟩ : ∃ x, (S.drop q)[i]? = some x := ⟨(S.drop q)[i]'(by rw [hlB]; exact hlt), List.getElem?_eq_getElem _⟩
        obtain ⟨b3, off3, rfl, _, p0, p1, p2⟩ := lnRd_at (RBX.out.kept K11.out (fun _ _ h => h)) hx (by omega)
        have HX := hide hx
        have hiI : (i : Int) < (m : Int) := by omega
        clear hx hlB
        go_upto_region 9 with fail
        obtain ⟨gX, hgX⟩ : ∃ gX, gX = wo.heap.size := ⟨_, rfl⟩
        obtain ⟨w12, hw12⟩ : ∃ w12, w12 = wo.alloc (.cells #[.string x.key, .int .u64 x.lo, .int .u64 x.hi] 38) := ⟨_, rfl⟩
        rw [← hgX, ← hw12]
        have k12 : Keeps (fun _ => False) wo w12 := by rw [hw12]; exact (Keeps.refl _ _).alloc _
        have BX : Hid (Blk w12 gX 38 (lnC x).toArray) := hide (by rw [hw12, hgX]; exact Blk.new _ _ _)
        have K12 := hide (K11.out.trans k12)
        clear hgX hw12 k12 K11 p0 p1 p2
        go_loopw [51] (fun jv wr => ∃ j : Nat, j ≤ q ∧ jv = .int .i64 (j : Int) ∧ Hid (Keeps (fun _ => False) w12 wr)) (fun jv _ => q - (intOf jv).toNat)
        case atStart => exact ⟨0, by omega, rfl, hide (Keeps.refl _ _)⟩
        case round =>
          obtain ⟨j, hj, rfl, K13⟩ := hrel
          obtain ⟨wi, rfl⟩ : ∃ wi : World, wi = wr := ⟨_, rfl⟩
          by_cases hjt : j < q
          · have e4 : decide (j < q) = true := by simpa using hjt
            have hlA := lnRd_len RAX.out
            obtain ⟨v, hv⟩ : ∃ v, (S.take q)[j]? = some v := ⟨(S.take q)[j]'(by rw [hlA]; exact hjt), List.getElem?_eq_getElem _⟩
            have hxv : lnLt x v = false := by
              have hsd : Srt.Sd lnLt S := by rw [HS.out]; exact Srt.srt_sd lnLt_wk _
              have h1 := HX.out
              have h2 := hv
              rw [List.getElem?_drop] at h1
              rw [List.getElem?_take, if_pos hjt] at h2
              have h3 := List.getElem?_eq_some_iff.1 h1
              have h4 := List.getElem?_eq_some_iff.1 h2
              have := List.pairwise_iff_getElem.1 hsd j (q + i) h4.1 h3.1 (by omega)
              rw [h3.2, h4.2] at this
              exact this
            have K13' := hide (K12.out.trans K13.out)
            obtain ⟨b4, off4, rfl, _, t0, t1, t2⟩ := lnRd_at (RAX.out.kept K13'.out (fun _ _ h => h)) hv (by omega)
            have bx := BX.out.kept K13.out (fun h => h)
            obtain ⟨x0, x1, x2⟩ := ln_cells bx
            have hgl := bx.lt
            have hjI : (j : Int) < (q : Int) := by omega
            have HXV := hide hxv
            clear hv hlA bx hxv
            go_wp2_with fail
            refine (before_any x v _).mono ?_
            rintro e w14 ⟨rfl, k14⟩
            rw [HXV.out]
            have K14 := hide ((K13.out.alloc _).trans k14)
            clear k14 x0 x1 x2 t0 t1 t2 K13'
            go_wp2_with fail
            go_roundw
            case rel => exact ⟨j + 1, by omega, by go_num, K14⟩
            case measure => simp [intOf]; omega
          · have e4 : decide (j < q) = false := by simpa using hjt
            have K14 := hide (K12.out.trans K13.out)
            go_wp2_with fail
            go_roundw
            case rel => exact ⟨i + 1, by omega, by go_num, K14⟩
            case measure => simp [intOf]; omega
      · have e3 : decide (i < m) = false := by simpa using hlt
        have K12 := hide (K10.out.trans K11.out)
        go_wp2_with fail
        refine (awake23 _).mono ?_
        rintro e w13 ⟨rfl, k13⟩
        have K13 := hide (K12.out.trans k13)
        clear k13
        go_wp2_with fail
        go_ret
        exact ⟨rfl, K13.out⟩
  ·
    go_wp2_with (first
      | (at_builtin; refine wpList_appG _ elemLn (by kernel_rfl) (.tmp 33) (.tmp 34) rfl w3.heap.size _ rfl (Own.new0 _ _ 38 3 _ (by simp) (by omega)) _ (m := q) _ rfl (RA.out.kept ((Keeps.refl (fun _ => False) w3).alloc _) (fun _ _ h => h)) (lnCs_one _) (by simp only [maxLen]; omega) (by omega) (by simp) ?_; intro A7 c7 w7 o7 k7 hA7; rw [Nat.zero_add, List.nil_append] at o7; have O7 := hide o7; have K7 := hide (((Keeps.refl (fun _ => False) w3).alloc (.cells #[] 38)).step k7 (fun k hk h => by have := (inB_some _ _ _).1 h; omega)); clear o7 k7 hA7)
      | (at_builtin; refine wpList_appG _ elemLn (by kernel_rfl) (.tmp 35) (.tmp 36) rfl w3.heap.size _ rfl O7.out _ (m := m) _ rfl (RB.out.kept K7.out (fun _ _ h => h)) (lnCs_one _) (by simp only [maxLen]; omega) (by omega) (K7.out.size) ?_; intro A8 c8 w8 o8 k8 hA8; have O8 := hide o8; have K8 := hide (K7.out.step k8 (fun k hk h => by have := O7.out.inB h; omega)); clear o8 k8 hA8))
    rw [HM.out]
    rw [HM.out, ← lnCs_app, List.take_append_drop] at O8
    refine (bsort_any w8 _ A1 k c1 l (R3.out.kept K8.out (fun _ _ h => h)) (by omega)).mono ?_
    rintro e w9 ⟨A9, c9, rfl, o9, k9⟩
    rw [← HS.out] at o9
    have R8 := hide ((O8.out.rd (by omega)).kept k9 (fun _ _ h => h))
    have R9 := hide (o9.rd (by omega))
    have K9 := hide (K8.out.trans k9)
    clear o9 k9 O8 O7 K7 K8
    go_wp2_with fail
    refine (sameLines_any _ _ _ _ _ _ _ _ _ R8.out R9.out (by omega)).mono ?_
    rintro e w10 ⟨rfl, kd, rfl⟩
    have KX := hide (K9.out.drewN kd)
    have RAX := hide (RA.out.kept KX.out (fun _ _ h => h))
    have RBX := hide (RB.out.kept KX.out (fun _ _ h => h))
    have K10 := hide (K3.out.trans KX.out)
    clear R8 R9 K9 RA RB KX R3 K3
    generalize w9.drewN kd = w10 at *
    go_upto_region 6 with fail
    go_loopw [45] (fun iv wr => ∃ i : Nat, i ≤ m ∧ iv = .int .i64 (i : Int) ∧ Hid (Keeps (fun _ => False) w10 wr)) (fun iv _ => m - (intOf iv).toNat)
    case atStart => exact ⟨0, by omega, rfl, hide (Keeps.refl _ _)⟩
    case round =>
      obtain ⟨i, hi, rfl, K11⟩ := hrel
      obtain ⟨wo, rfl⟩ : ∃ wo : World, wo = wr := ⟨_, rfl⟩
      by_cases hlt : i < m
      · have e3 : decide (i < m) = true := by simpa using hlt
        have hlB := lnRd_len RBX.out
        obtain ⟨x, hx⟩ : ∃ x, (S.drop q)[i]? = some x := ⟨(S.drop q)[i]'(by rw [hlB]; exact hlt), List.getElem?_eq_getElem _⟩
        obtain ⟨b3, off3, rfl, _, p0, p1, p2⟩ := lnRd_at (RBX.out.kept K11.out (fun _ _ h => h)) hx (by omega)
        have HX := hide hx
        have hiI : (i : Int) < (m : Int) := by omega
        clear hx hlB
        go_upto_region 9 with fail
        obtain ⟨gX, hgX⟩ : ∃ gX, gX = wo.heap.size := ⟨_, rfl⟩
        obtain ⟨w12, hw12⟩ : ∃ w12, w12 = wo.alloc (.cells #[.string x.key, .int .u64 x.lo, .int .u64 x.hi] 38) := ⟨_, rfl⟩
        rw [← hgX, ← hw12]
        have k12 : Keeps (fun _ => False) wo w12 := by rw [hw12]; exact (Keeps.refl _ _).alloc _
        have BX : Hid (Blk w12 gX 38 (lnC x).toArray) := hide (by rw [hw12, hgX]; exact Blk.new _ _ _)
        have K12 := hide (K11.out.trans k12)
        clear hgX hw12 k12 K11 p0 p1 p2
        go_loopw [51] (fun jv wr => ∃ j : Nat, j ≤ q ∧ jv = .int .i64 (j : Int) ∧ Hid (Keeps (fun _ => False) w12 wr)) (fun jv _ => q - (intOf jv).toNat)
        case atStart => exact ⟨0, by omega, rfl, hide (Keeps.refl _ _)⟩
        case round =>
          obtain ⟨j, hj, rfl, K13⟩ := hrel
          obtain ⟨wi, rfl⟩ : ∃ wi : World, wi = wr := ⟨_, rfl⟩
          by_cases hjt : j < q
          · have e4 : decide (j < q) = true := by simpa using hjt
            have hlA := lnRd_len RAX.out
            obtain ⟨v, hv⟩ : ∃ v, (S.take q)[j]? = some v := ⟨(S.take q)[j]'(by rw [hlA]; exact hjt), List.getElem?_eq_getElem _⟩
            have hxv : lnLt x v = false := by
              have hsd : Srt.Sd lnLt S := by rw [HS.out]; exact Srt.srt_sd lnLt_wk _
              have h1 := HX.out
              have h2 := hv
              rw [List.getElem?_drop] at h1
              rw [List.getElem?_take, if_pos hjt] at h2
              have h3 := List.getElem?_eq_some_iff.1 h1
              have h4 := List.getElem?_eq_some_iff.1 h2
              have := List.pairwise_iff_getElem.1 hsd j (q + i) h4.1 h3.1 (by omega)
              rw [h3.2, h4.2] at this
              exact this
            have K13' := hide (K12.out.trans K13.out)
            obtain ⟨b4, off4, rfl, _, t0, t1, t2⟩ := lnRd_at (RAX.out.kept K13'.out (fun _ _ h => h)) hv (by omega)
            have bx := BX.out.kept K13.out (fun h => h)
            obtain ⟨x0, x1, x2⟩ := ln_cells bx
            have hgl := bx.lt
            have hjI : (j : Int) < (q : Int) := by omega
            have HXV := hide hxv
            clear hv hlA bx hxv
            go_wp2_with fail
            refine (before_any x v _).mono ?_
            rintro e w14 ⟨rfl, k14⟩
            rw [HXV.out]
            have K14 := hide ((K13.out.alloc _).trans k14)
            clear k14 x0 x1 x2 t0 t1 t2 K13'
            go_wp2_with fail
            go_roundw
            case rel => exact ⟨j + 1, by omega, by go_num, K14⟩
            case measure => simp [intOf]; omega
          · have e4 : decide (j < q) = false := by simpa using hjt
            have K14 := hide (K12.out.trans K13.out)
            go_wp2_with fail
            go_roundw
            case rel => exact ⟨i + 1, by omega, by go_num, K14⟩
            case measure => simp [intOf]; omega
      · have e3 : decide (i < m) = false := by simpa using hlt
        have K12 := hide (K10.out.trans K11.out)
        go_wp2_with fail
        refine (awake23 _).mono ?_
        rintro e w13 ⟨rfl, k13⟩
        have K13 := hide (K12.out.trans k13)
        clear k13
        go_wp2_with fail
        go_ret
        exact ⟨rfl, K13.out⟩
theorem walk (w : World) (A1 : Option Addr) (n1 c1 : Nat) (z1 : List Int) (r1 : Rd w w.heap.size A1 1 n1 (z1.map (.int .i64))) (b1 : ∀ z ∈ z1, -9223372036854775808 ≤ z ∧ z < 9223372036854775808) (s1 : n1 * 8 ≤ 140737488351232) (l1 : n1 ≤ c1)
    (y : Int) (y0 : 0 ≤ y) (y1 : y < 256) :
    Calls Try.prog 6 #[.slice A1 n1 c1, .int .u8 y] w fun e w' => e = .returned (.bool true) ∧ Below w.heap.size w w' :=
  (main w A1 n1 c1 z1 r1 b1 (by omega) y y0 y1).mono fun e w' ⟨he, hk⟩ => ⟨he, hk.done⟩
end topSplits
end Go.Proofs.Ytmbgnekilgobaaa
