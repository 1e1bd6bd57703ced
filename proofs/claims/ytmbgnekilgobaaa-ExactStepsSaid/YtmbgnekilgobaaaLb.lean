/-
  slices.SortStableFunc's parts: swapping ranges and rotating. No conditions beyond those of the statement.
-/
import Derived.Test.YtmbgnekilgobaaaLa
set_option linter.unusedVariables false
set_option linter.unusedSimpArgs false
namespace Go.Proofs.Ytmbgnekilgobaaa
open Go.RowKit
/-- the lines l lie in the slice A -/
abbrev Lns (w : World) (B : Nat) (A : Option Addr) (n c : Nat) (l : List Ln) : Prop := Own w B 38 3 A n c (lnCs l)
section
variable {w w' : World} {B g n c : Nat} {A : Option Addr} {l : List Ln}
theorem Lns.len (h : Lns w B A n c l) : l.length = n := by
  have := Own.len h
  rw [lnCs_len] at this
  omega
theorem Lns.at_ (h : Lns w B (some ⟨g, 0, none⟩) n c l) {i : Nat} {x : Ln} (hx : l[i]? = some x) :
    w.cell? ⟨g, i * 3, none⟩ = some (.string x.key) ∧ w.cell? ⟨g, i * 3 + 1, none⟩ = some (.int .u64 x.lo) ∧ w.cell? ⟨g, i * 3 + 2, none⟩ = some (.int .u64 x.hi) := by
  have hi := (List.getElem?_eq_some_iff.1 hx).1
  have hl := h.len
  obtain ⟨g0, g1, g2⟩ := lnCs_at hx
  exact ⟨(h.cell _ (by omega)).trans g0, (h.cell _ (by omega)).trans g1, (h.cell _ (by omega)).trans g2⟩
theorem keepsB (w : World) (g o : Nat) (v : Value) : Keeps (· = g) w (w.setCell ⟨g, o, none⟩ v) := Keeps.setCell (S := (· = g)) (p := ⟨g, o, none⟩) (Keeps.refl _ _) (.inl rfl) _
/-- one line is written -/
theorem Lns.put (h : Lns w B (some ⟨g, 0, none⟩) n c l) (i : Nat) (y : Ln) (hi : i < l.length) :
    Lns (((w.setCell ⟨g, i * 3, none⟩ (.string y.key)).setCell ⟨g, i * 3 + 1, none⟩ (.int .u64 y.lo)).setCell ⟨g, i * 3 + 2, none⟩ (.int .u64 y.hi)) B (some ⟨g, 0, none⟩) n c (l.set i y) ∧
    Keeps (· = g) w (((w.setCell ⟨g, i * 3, none⟩ (.string y.key)).setCell ⟨g, i * 3 + 1, none⟩ (.int .u64 y.lo)).setCell ⟨g, i * 3 + 2, none⟩ (.int .u64 y.hi)) := by
  have o := ((Own.store h (i * 3) (.string y.key)).store (i * 3 + 1) (.int .u64 y.lo)).store (i * 3 + 2) (.int .u64 y.hi)
  rw [lnCs_set l i y hi] at o
  exact ⟨o, ((keepsB w g _ _).trans (keepsB _ g _ _)).trans (keepsB _ g _ _)⟩
/-- two lines change places -/
theorem Lns.swap (h : Lns w B (some ⟨g, 0, none⟩) n c l) (i j : Nat) (x y : Ln) (hi : i < l.length) (hj : j < l.length) :
    Lns (((((((w.setCell ⟨g, i * 3, none⟩ (.string y.key)).setCell ⟨g, i * 3 + 1, none⟩ (.int .u64 y.lo)).setCell ⟨g, i * 3 + 2, none⟩ (.int .u64 y.hi)).setCell ⟨g, j * 3, none⟩ (.string x.key)).setCell ⟨g, j * 3 + 1, none⟩ (.int .u64 x.lo)).setCell ⟨g, j * 3 + 2, none⟩ (.int .u64 x.hi))) B (some ⟨g, 0, none⟩) n c ((l.set i y).set j x) ∧
    Keeps (· = g) w (((((((w.setCell ⟨g, i * 3, none⟩ (.string y.key)).setCell ⟨g, i * 3 + 1, none⟩ (.int .u64 y.lo)).setCell ⟨g, i * 3 + 2, none⟩ (.int .u64 y.hi)).setCell ⟨g, j * 3, none⟩ (.string x.key)).setCell ⟨g, j * 3 + 1, none⟩ (.int .u64 x.lo)).setCell ⟨g, j * 3 + 2, none⟩ (.int .u64 x.hi))) := by
  obtain ⟨h1, k1⟩ := h.put i y hi
  obtain ⟨h2, k2⟩ := h1.put j x (by simpa using hj)
  exact ⟨h2, k1.trans k2⟩
end
/-- places of a list in pieces -/
theorem pc1 {P Q : List Ln} {x : Ln} {i : Nat} (hi : i = P.length) : (P ++ x :: Q)[i]? = some x := by rw [hi, List.getElem?_append_right (Nat.le_refl _)]; simp
theorem pc1s {P Q : List Ln} {x y : Ln} {i : Nat} (hi : i = P.length) : (P ++ x :: Q).set i y = P ++ y :: Q := by rw [hi, List.set_append_right _ _ (Nat.le_refl _)]; simp
theorem swp_pc {P M Q : List Ln} {x y : Ln} {i j : Nat} (hi : i = P.length) (hj : j = P.length + 1 + M.length) : ((P ++ x :: M ++ y :: Q).set i y).set j x = P ++ y :: M ++ x :: Q := by
  rw [List.append_assoc, List.cons_append, pc1s hi, ← List.cons_append, ← List.append_assoc]
  exact pc1s (by simp; omega)
theorem at_pc {P M Q : List Ln} {x y : Ln} {i j : Nat} (hi : i = P.length) (hj : j = P.length + 1 + M.length) : (P ++ x :: M ++ y :: Q)[i]? = some x ∧ (P ++ x :: M ++ y :: Q)[j]? = some y := by
  refine ⟨?_, pc1 (by simp; omega)⟩
  rw [List.append_assoc, List.cons_append]
  exact pc1 hi
set_option maxRecDepth 100000 in
set_option maxHeartbeats 1000000 in
theorem swapRange_ok (w : World) (B : Nat) (A : Option Addr) (n c : Nat) (P X M Y Q : List Ln) (f : Value) (a b k : Nat) (ha : a = P.length) (hb : b = P.length + X.length + M.length) (hX : X.length = k) (hY : Y.length = k) (h : Lns w B A n c (P ++ X ++ M ++ Y ++ Q)) (hn : n ≤ 1000000) :
    Calls Try.prog 89 #[.slice A n c, .int .i64 a, .int .i64 b, .int .i64 k, f] w fun e w' => e = .returned (.tuple #[]) ∧ Lns w' B A n c (P ++ Y ++ M ++ X ++ Q) ∧ Keeps (inB A) w w' := by
  have hl := h.len
  simp only [List.length_append, hX, hY] at hl
  have H := hide h
  have HA := hide ha
  have HB := hide hb
  have HX := hide hX
  have HY := hide hY
  have hab : a + 2 * k ≤ n ∧ b + k ≤ n := by omega
  clear h ha hb hX hY hl
  go_enter Try.func89, Try.ntmps89
  go_wp2_with fail
  go_loopw [10] (fun iv wr => ∃ i : Nat, i ≤ k ∧ iv = .int .i64 i ∧ Hid (Lns wr B A n c (P ++ (Y.take i ++ X.drop i) ++ M ++ (X.take i ++ Y.drop i) ++ Q)) ∧ Hid (Keeps (inB A) w wr)) (fun iv _ => k - (intOf iv).toNat)
  case atStart => exact ⟨0, by omega, rfl, by simpa using H, hide (Keeps.refl _ _)⟩
  case round =>
    obtain ⟨i, hi, rfl, HL, HK⟩ := hrel
    by_cases hik : i < k
    · have HIK : Hid (i + 1 ≤ k) := hik
      obtain ⟨g, rfl, _⟩ := HL.out.some_ (by omega)
      have hxd : X.drop i = X[i]'(by rw [HX.out]; exact hik) :: X.drop (i + 1) := List.drop_eq_getElem_cons _
      have hyd : Y.drop i = Y[i]'(by rw [HY.out]; exact hik) :: Y.drop (i + 1) := List.drop_eq_getElem_cons _
      obtain ⟨x, hx⟩ : ∃ x, x = X[i]'(by rw [HX.out]; exact hik) := ⟨_, rfl⟩
      obtain ⟨y, hy⟩ : ∃ y, y = Y[i]'(by rw [HY.out]; exact hik) := ⟨_, rfl⟩
      rw [← hx] at hxd
      rw [← hy] at hyd
      have hxt : X.take (i + 1) = X.take i ++ [x] := by rw [hx, List.take_succ_eq_append_getElem]
      have hyt : Y.take (i + 1) = Y.take i ++ [y] := by rw [hy, List.take_succ_eq_append_getElem]
      have e0 : P ++ (Y.take i ++ X.drop i) ++ M ++ (X.take i ++ Y.drop i) ++ Q = (P ++ Y.take i) ++ x :: (X.drop (i + 1) ++ M ++ X.take i) ++ y :: (Y.drop (i + 1) ++ Q) := by rw [hxd, hyd]; simp
      have e1 : P ++ (Y.take (i + 1) ++ X.drop (i + 1)) ++ M ++ (X.take (i + 1) ++ Y.drop (i + 1)) ++ Q = (P ++ Y.take i) ++ y :: (X.drop (i + 1) ++ M ++ X.take i) ++ x :: (Y.drop (i + 1) ++ Q) := by rw [hxt, hyt]; simp
      have hai : a + i = (P ++ Y.take i).length := by have := HA.out; have := HY.out; simp; omega
      have hbi : b + i = (P ++ Y.take i).length + 1 + (X.drop (i + 1) ++ M ++ X.take i).length := by have := HB.out; have := HX.out; have := HY.out; simp; omega
      have HL2 := hide (by have := HL.out; rw [e0] at this; exact this : Lns wr B (some ⟨g, 0, none⟩) n c ((P ++ Y.take i) ++ x :: (X.drop (i + 1) ++ M ++ X.take i) ++ y :: (Y.drop (i + 1) ++ Q)))
      obtain ⟨hgx, hgy⟩ := at_pc (Q := Y.drop (i + 1) ++ Q) (x := x) (y := y) hai hbi
      have hsw := swp_pc (Q := Y.drop (i + 1) ++ Q) (x := x) (y := y) hai hbi
      have HSw := hide (hsw.trans e1.symm)
      obtain ⟨c0, c1, c2⟩ := HL2.out.at_ hgx
      obtain ⟨d0, d1, d2⟩ := HL2.out.at_ hgy
      have hlx := (List.getElem?_eq_some_iff.1 hgx).1
      have hly := (List.getElem?_eq_some_iff.1 hgy).1
      have HSwap := hide (HL2.out.swap (a + i) (b + i) x y hlx hly)
      have hp1 := (HL2.out.put (a + i) y hlx).1
      have hne : ¬ a + i = b + i := by have := HA.out; have := HB.out; have := HX.out; omega
      obtain ⟨d0', d1', d2'⟩ := hp1.at_ (i := b + i) (x := y) (by rw [List.getElem?_set, if_neg hne]; exact hgy)
      have f3' := hp1.frozen ((b + i) * 3)
      have f4' := hp1.frozen ((b + i) * 3 + 1)
      have f5' := hp1.frozen ((b + i) * 3 + 2)
      have ff := fun q => HL2.out.frozen q
      have f0 := ff ((a + i) * 3)
      have f1 := ff ((a + i) * 3 + 1)
      have f2 := ff ((a + i) * 3 + 2)
      have f3 := ff ((b + i) * 3)
      have f4 := ff ((b + i) * 3 + 1)
      have f5 := ff ((b + i) * 3 + 2)
      have w1 : IntKind.i64.wrap ((a : Int) + (i : Int)) = ((a + i : Nat) : Int) := by rw [IntWalk.i64_in _ (by omega)]; omega
      have w2 : IntKind.i64.wrap ((b : Int) + (i : Int)) = ((b + i : Nat) : Int) := by rw [IntWalk.i64_in _ (by omega)]; omega
      have hpI : ((a + i : Nat) : Int) < (n : Int) := by omega
      have hqI : ((b + i : Nat) : Int) < (n : Int) := by omega
      have hp0 : (0 : Int) ≤ ((a + i : Nat) : Int) := by omega
      have hq0 : (0 : Int) ≤ ((b + i : Nat) : Int) := by omega
      clear hx hy hxd hyd hxt hyt e0 e1 hai hbi hgx hgy hsw hlx hly ff hp1
      go_upto_region 3 with fail
      trace "R3"
      go_region
      trace "R3b"
      obtain ⟨hs, ks⟩ := HSwap.out
      rw [HSw.out] at hs
      have HS := hide (hs.kept ((Keeps.refl (fun _ => False) _).drew) (fun _ _ h => h))
      have KS := hide (Keeps.drew (HK.out.trans (ks.weak (S' := inB (some ⟨g, 0, none⟩)) (fun q _ e => (inB_some _ _ _).2 e.symm))))
      clear hs ks HSwap HSw c0 c1 c2 d0 d1 d2 f0 f1 f2 f3 f4 f5 d0' d1' d2' f3' f4' f5' w1 w2
      generalize World.drew _ = w6 at *
      go_wp2_with fail
      go_roundw
      case rel => exact ⟨i + 1, HIK.out, by go_num, HS, KS⟩
      case measure => have := HIK.out; simp [intOf]; omega
    · obtain rfl : i = k := by omega
      go_wp2_with fail
      trace "END"
      go_end0
      refine ⟨rfl, ?_, HK.out⟩
      have := HL.out
      rw [← HX.out, List.take_of_length_le (by have := HX.out; have := HY.out; omega : Y.length ≤ X.length), List.drop_of_length_le (Nat.le_refl X.length), List.take_of_length_le (Nat.le_refl X.length), List.drop_of_length_le (by have := HX.out; have := HY.out; omega : Y.length ≤ X.length), List.append_nil, List.append_nil] at this
      exact this
set_option maxRecDepth 100000 in
set_option maxHeartbeats 1000000 in
/-- X before Y comes behind it -/
theorem rotate_ok (w : World) (B : Nat) (A : Option Addr) (n c : Nat) (P U V Q : List Ln) (f : Value) (a m b : Nat) (ha : a = P.length) (hm : m = P.length + U.length) (hb : b = P.length + U.length + V.length) (hU : 1 ≤ U.length) (hV : 1 ≤ V.length) (h : Lns w B A n c (P ++ U ++ V ++ Q)) (hn : n ≤ 1000000) :
    Calls Try.prog 87 #[.slice A n c, .int .i64 a, .int .i64 m, .int .i64 b, f] w fun e w' => e = .returned (.tuple #[]) ∧ Lns w' B A n c (P ++ V ++ U ++ Q) ∧ Keeps (inB A) w w' := by
  have hl := h.len
  simp only [List.length_append] at hl
  have H := hide h
  have HM := hide hm
  have hbn : b ≤ n := by omega
  have ham : a + 1 ≤ m := by omega
  have hmb : m + 1 ≤ b := by omega
  obtain ⟨i0, hi0⟩ : ∃ i0, i0 = U.length := ⟨_, rfl⟩
  obtain ⟨j0, hj0⟩ : ∃ j0, j0 = V.length := ⟨_, rfl⟩
  have w1 : IntKind.i64.wrap ((m : Int) - (a : Int)) = (i0 : Int) := by rw [IntWalk.i64_in _ (by omega)]; omega
  have w2 : IntKind.i64.wrap ((b : Int) - (m : Int)) = (j0 : Int) := by rw [IntWalk.i64_in _ (by omega)]; omega
  have hij : i0 + j0 ≤ n ∧ 1 ≤ i0 ∧ 1 ≤ j0 ∧ i0 ≤ m ∧ m + j0 ≤ n := by omega
  have HU := hide hi0
  have HV := hide hj0
  clear h ha hm hb hl hU hV hi0 hj0
  go_enter Try.func87, Try.ntmps87
  go_upto_region 2 with fail
  trace "LOOP"
  clear w1 w2
  go_loopw [10, 11] (fun iv jv wr => ∃ (i j : Nat) (DL U1 V1 DR : List Ln), 1 ≤ i ∧ 1 ≤ j ∧ i ≤ m ∧ m + j ≤ n ∧ iv = .int .i64 i ∧ jv = .int .i64 j ∧ Hid (U1.length = i ∧ V1.length = j ∧ P.length + DL.length + i = m ∧ DL ++ V1 ++ U1 ++ DR = V ++ U) ∧ Hid (Lns wr B A n c (P ++ DL ++ U1 ++ V1 ++ DR ++ Q)) ∧ Hid (Keeps (inB A) w wr)) (fun iv jv _ => (intOf iv).toNat + (intOf jv).toNat)
  case atStart => exact ⟨i0, j0, [], U, V, [], by omega, by omega, by omega, by omega, rfl, rfl, hide ⟨HU.out.symm, HV.out.symm, by have := HM.out; have := HU.out; simp; omega, by simp⟩, hide (by simpa using H.out), hide (Keeps.refl _ _)⟩
  case round =>
    obtain ⟨i, j, DL, U1, V1, DR, hi1, hj1, him, hjn, rfl, rfl, HF, HL, HK⟩ := hrel
    have w3 : IntKind.i64.wrap ((m : Int) - (i : Int)) = ((m - i : Nat) : Int) := by rw [IntWalk.i64_in _ (by omega)]; omega
    by_cases hij2 : i = j
    · subst hij2
      have e1 : ((i : Int) != (i : Int)) = false := by simp
      go_wp2_with fail
      trace "LAST"
      have hh := HL.out
      have e2 : P ++ DL ++ U1 ++ V1 ++ DR ++ Q = (P ++ DL) ++ U1 ++ [] ++ V1 ++ (DR ++ Q) := by simp
      rw [e2] at hh
      refine (swapRange_ok _ B A n c (P ++ DL) U1 [] V1 (DR ++ Q) _ (m - i) m i (by have := HF.out; simp; omega) (by have := HF.out; simp; omega) HF.out.1 HF.out.2.1 hh hn).mono ?_
      rintro e w5 ⟨rfl, h5, k5⟩
      have H5 := hide h5
      have K5 := hide (HK.out.trans k5)
      clear hh e2 h5 k5
      go_wp2_with fail
      go_end0
      refine ⟨rfl, ?_, K5.out⟩
      have := H5.out
      have e3 : P ++ DL ++ V1 ++ [] ++ U1 ++ (DR ++ Q) = P ++ (DL ++ V1 ++ U1 ++ DR) ++ Q := by simp
      rw [e3, HF.out.2.2.2] at this
      simpa using this
    · have e1 : ((i : Int) != (j : Int)) = true := by simp; omega
      by_cases hgt : j < i
      · have e2 : decide ((j : Int) < (i : Int)) = true := by simpa using hgt
        have w4 : IntKind.i64.wrap ((i : Int) - (j : Int)) = ((i - j : Nat) : Int) := by rw [IntWalk.i64_in _ (by omega)]; omega
        have HG : Hid (i - j + j = i ∧ 1 ≤ i - j) := hide (by omega)
        clear hij2
        go_wp2_with fail
        trace "GT"
        have hh := HL.out
        have e4 : P ++ DL ++ U1 ++ V1 ++ DR ++ Q = (P ++ DL) ++ U1.take j ++ U1.drop j ++ V1 ++ (DR ++ Q) := by
          rw [List.append_assoc (P ++ DL) (U1.take j), List.take_append_drop]; simp
        rw [e4] at hh
        refine (swapRange_ok _ B A n c (P ++ DL) (U1.take j) (U1.drop j) V1 (DR ++ Q) _ (m - i) m j (by have := HF.out; simp; omega) (by have := HF.out; simp; omega) (by have := HF.out; simp; omega) HF.out.2.1 hh hn).mono ?_
        rintro e w5 ⟨rfl, h5, k5⟩
        have H5 : Hid (Lns w5 B A n c (P ++ (DL ++ V1) ++ U1.drop j ++ U1.take j ++ DR ++ Q)) := hide (by simpa using h5)
        have K5 := hide (HK.out.trans k5)
        clear hh e4 h5 k5
        go_wp2_with fail
        go_roundw
        case rel =>
          refine ⟨i - j, j, DL ++ V1, U1.drop j, U1.take j, DR, HG.out.2, hj1, by omega, hjn, rfl, rfl, hide ⟨by have := HF.out.1; simp; omega, by have := HF.out.1; have := HG.out; simp; omega, by have := HF.out; have := HG.out; simp; omega, ?_⟩, H5, K5⟩
          rw [← HF.out.2.2.2]
          rw [List.append_assoc (DL ++ V1) (U1.take j), List.take_append_drop]
        case measure => have := HG.out; simp [intOf]; omega
      · have e2 : decide ((j : Int) < (i : Int)) = false := by simpa using hgt
        have w5' : IntKind.i64.wrap ((m : Int) + (j : Int) - (i : Int)) = ((m + j - i : Nat) : Int) := by rw [IntWalk.i64_in _ (by omega)]; omega
        have w6 : IntKind.i64.wrap ((j : Int) - (i : Int)) = ((j - i : Nat) : Int) := by rw [IntWalk.i64_in _ (by omega)]; omega
        have HG : Hid (j - i + i = j ∧ 1 ≤ j - i) := hide (by omega)
        clear hij2
        go_wp2_with fail
        trace "LT"
        have hh := HL.out
        have e4 : P ++ DL ++ U1 ++ V1 ++ DR ++ Q = (P ++ DL) ++ U1 ++ V1.take (j - i) ++ V1.drop (j - i) ++ (DR ++ Q) := by
          rw [List.append_assoc ((P ++ DL) ++ U1) (V1.take _), List.take_append_drop]; simp
        rw [e4] at hh
        refine (swapRange_ok _ B A n c (P ++ DL) U1 (V1.take (j - i)) (V1.drop (j - i)) (DR ++ Q) _ (m - i) (m + j - i) i (by have := HF.out; simp; omega) (by have := HF.out; have := HG.out; simp; omega) HF.out.1 (by have := HF.out; have := HG.out; simp; omega) hh hn).mono ?_
        rintro e w5 ⟨rfl, h5, k5⟩
        have H5 : Hid (Lns w5 B A n c (P ++ DL ++ V1.drop (j - i) ++ V1.take (j - i) ++ (U1 ++ DR) ++ Q)) := hide (by simpa using h5)
        have K5 := hide (HK.out.trans k5)
        clear hh e4 h5 k5
        go_wp2_with fail
        go_roundw
        case rel =>
          refine ⟨i, j - i, DL, V1.drop (j - i), V1.take (j - i), U1 ++ DR, hi1, HG.out.2, him, by omega, rfl, rfl, hide ⟨by have := HF.out.2.1; have := HG.out; simp; omega, by have := HF.out.2.1; have := HG.out; simp; omega, HF.out.2.2.1, ?_⟩, H5, K5⟩
          rw [← HF.out.2.2.2]
          rw [List.append_assoc DL, List.take_append_drop]
          simp
        case measure => have := HG.out; simp [intOf]; omega
end Go.Proofs.Ytmbgnekilgobaaa
