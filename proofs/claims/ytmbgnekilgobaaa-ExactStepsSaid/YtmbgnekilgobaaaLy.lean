/-
  BoundsSorted: for every input the law returns true. No conditions beyond those of the statement.
-/
import Derived.Test.YtmbgnekilgobaaaLx
set_option linter.unusedVariables false
set_option linter.unusedSimpArgs false
namespace Go.Proofs.Ytmbgnekilgobaaa
open Go.RowKit
/-- the lines x and y are the same -/
def lnEq (x y : Ln) : Bool := (x.key.toList == y.key.toList) && (x.lo == y.lo) && (x.hi == y.hi)
/-- how many of the lines are x -/
def cntL (x : Ln) (l : List Ln) : Nat := l.countP (fun y => lnEq y x)
theorem cntL_le (x : Ln) (l : List Ln) : cntL x l ≤ l.length := List.countP_le_length
theorem cntL_snoc (x y : Ln) (l : List Ln) (j : Nat) (h : l[j]? = some y) : cntL x (l.take (j + 1)) = cntL x (l.take j) + if lnEq y x then 1 else 0 := by
  rw [List.take_add_one, h, cntL, List.countP_append]
  simp [cntL, List.countP_cons]
/-- the cells of a line of a slice -/
theorem lnRd_at {w : World} {B n : Nat} {A : Option Addr} {l : List Ln} (h : Rd w B A 3 n (lnCs l)) {i : Nat} {x : Ln} (hx : l[i]? = some x) (hi : 0 < n) :
    ∃ b off, A = some ⟨b, off, none⟩ ∧ b < B ∧ (w.cell? ⟨b, off + i * 3, none⟩ = some (.string x.key) ∧ w.cell? ⟨b, off + i * 3 + 1, none⟩ = some (.int .u64 x.lo) ∧ w.cell? ⟨b, off + i * 3 + 2, none⟩ = some (.int .u64 x.hi)) := by
  obtain ⟨b, off, rfl, hb, hc⟩ := h.2 hi
  obtain ⟨g0, g1, g2⟩ := lnCs_at hx
  exact ⟨b, off, rfl, hb, hc _ _ g0, by rw [Nat.add_assoc]; exact hc _ _ g1, by rw [Nat.add_assoc]; exact hc _ _ g2⟩
namespace boundsSorted
set_option maxRecDepth 100000 in
set_option maxHeartbeats 2000000 in
theorem main (w : World) (A : Option Addr) (n c : Nat) (z : List Int) (r : Rd w w.heap.size A 1 n (z.map (.int .i64))) (b : ∀ v ∈ z, -9223372036854775808 ≤ v ∧ v < 9223372036854775808) (hn : n ≤ 35184372088832) :
    Calls Try.prog 7 #[.slice A n c] w fun e w' => e = .returned (.bool true) ∧ Keeps (fun _ => False) w w' := by
  go_enter Try.func7, Try.ntmps7
  go_wp2_with fail
  refine (new_deck A n c z w.heap.size w (Nat.le_refl _) r b hn).mono ?_
  rintro e w1 ⟨rfl, d1, k1⟩
  have D1 := hide d1
  have K1 := hide k1
  clear d1 k1
  go_wp2_with fail
  refine (lines_any 30 (by omega) (by omega) w.heap.size _ w1 D1.out).mono ?_
  rintro e w2 ⟨A1, k, c1, l, rfl, hk, hS, o1, d2, k2⟩
  have O1 := hide o1
  have K2 := hide (K1.out.step k2 (fun q hq e => by omega))
  have HLk := hide o1.len
  have hk30 : k ≤ 30 := by omega
  clear o1 d2 k2 hS hk D1
  go_wp2_with fail
  refine (bsort_any w2 w2.heap.size A1 k c1 l (O1.out.rd (by omega)) (by omega)).mono ?_
  rintro e w3 ⟨A2, c2, rfl, o2, k3⟩
  have K3 := hide (K2.out.trans k3)
  have R1 := hide ((O1.out.rd (by omega)).kept k3 (fun _ _ h => h))
  have R2 := hide (o2.rd (by omega))
  obtain ⟨S, hS⟩ : ∃ S, S = srtL l := ⟨_, rfl⟩
  rw [← hS] at R2
  have HSd : Hid (Srt.Sd lnLt S) := hide (by rw [hS]; exact Srt.srt_sd lnLt_wk _)
  have HPm : Hid (S.Perm l) := hide (by rw [hS]; exact Srt.srt_perm _)
  have HSl : Hid (S.length = k) := hide (HPm.out.length_eq.trans HLk.out)
  clear o2 k3 hS O1 K1 K2
  go_upto_region 6 with fail
  go_loopw [21] (fun iv wr => ∃ i q : Nat, i ≤ k ∧ iv = .int .i64 (i : Int) ∧ wr = w3.drewN q) (fun iv _ => k - (intOf iv).toNat)
  case atStart => exact ⟨0, 0, by omega, rfl, rfl⟩
  case round =>
    obtain ⟨i, q, hi, rfl, rfl⟩ := hrel
    by_cases hlt : i < k
    · have e1 : decide (i < k) = true := by simpa using hlt
      obtain ⟨x, hx⟩ : ∃ x, S[i]? = some x := ⟨S[i]'(by rw [HSl.out]; exact hlt), List.getElem?_eq_getElem _⟩
      obtain ⟨b2, off2, rfl, _, p0, p1, p2⟩ := lnRd_at R2.out hx (by omega)
      have HX := hide hx
      clear hx
      go_upto_region 8 with fail
      go_cut [67] from 24 to 67 (fun sv wx => sv = .bool false ∧ ∃ q', wx = w3.drewN q')
      case first =>
        have hx := HX.out
        rcases Nat.eq_zero_or_pos i with h0 | h0
        · have e2 : decide (0 < i) = false := by simp; omega
          clear hx h0
          go_quiet (fail)
          go_wp2_with fail
          go_meet
          exact ⟨rfl, q + nq, by first | rfl | simp [World.drewN, Nat.add_assoc]⟩
        · obtain ⟨p, hp⟩ : ∃ p, i = p + 1 := ⟨i - 1, by omega⟩
          obtain ⟨y, hy⟩ : ∃ y, S[p]? = some y := ⟨S[p]'(by rw [HSl.out]; omega), List.getElem?_eq_getElem _⟩
          have hlt2 : lnLt x y = false := by
            have h1 := (List.getElem?_eq_some_iff.1 hx)
            have h2 := (List.getElem?_eq_some_iff.1 hy)
            have := List.pairwise_iff_getElem.1 HSd.out p i h2.1 h1.1 (by omega)
            rw [h1.2, h2.2] at this
            exact this
          have e2 : decide (0 < i) = true := by simp; omega
          have wp : IntKind.i64.wrap ((i : Int) - 1) = (p : Int) := by rw [IntWalk.i64_in _ (by omega)]; omega
          have hpI : (p : Int) < (k : Int) := by omega
          have hp0 : (0 : Int) ≤ (p : Int) := by omega
          obtain ⟨b3, off3, hA, _, q0, q1, q2⟩ := lnRd_at R2.out hy (by omega)
          injection hA with hA
          injection hA with hA1 hA2 _
          subst hA1 hA2
          simp only [lnLt, Bool.or_eq_false_iff] at hlt2
          obtain ⟨e3, e4⟩ := hlt2
          clear hx hy h0 hp
          rcases e5 : (x.hi == y.hi) with _ | _
          · clear e4
            go_quiet (fail)
            go_wp2_with fail
            go_meet
            exact ⟨rfl, q + nq, by first | rfl | simp [World.drewN, Nat.add_assoc]⟩
          · rw [e5, Bool.true_and] at e4
            go_quiet (fail)
            go_wp2_with fail
            go_meet
            exact ⟨rfl, q + nq, by first | rfl | simp [World.drewN, Nat.add_assoc]⟩
      case rest =>
        obtain ⟨rfl, q', rfl⟩ := hcut
        go_upto_region 12 with fail
        go_loopw [6, 7, 70] (fun av bv jv wr => ∃ j q : Nat, j ≤ k ∧ av = .int .i64 ((cntL x (l.take j) : Nat) : Int) ∧ bv = .int .i64 ((cntL x (S.take j) : Nat) : Int) ∧ jv = .int .i64 (j : Int) ∧ wr = w3.drewN q) (fun _ _ jv _ => k - (intOf jv).toNat)
        case atStart => exact ⟨0, q', by omega, rfl, rfl, rfl, rfl⟩
        case round =>
          obtain ⟨j, q, hj, rfl, rfl, rfl, rfl⟩ := hrel
          by_cases hjk : j < k
          · have e6 : decide (j < k) = true := by simpa using hjk
            obtain ⟨u, hu⟩ : ∃ u, l[j]? = some u := ⟨l[j]'(by have := HLk.out; omega), List.getElem?_eq_getElem _⟩
            obtain ⟨v, hv⟩ : ∃ v, S[j]? = some v := ⟨S[j]'(by rw [HSl.out]; exact hjk), List.getElem?_eq_getElem _⟩
            have HU := hide hu
            have HV := hide hv
            obtain ⟨b5, off5, rfl, _, t0, t1, t2⟩ := lnRd_at R1.out hu (by omega)
            obtain ⟨b6, off6, hA, _, s0, s1, s2⟩ := lnRd_at R2.out hv (by omega)
            injection hA with hA
            injection hA with hA1 hA2 _
            subst hA1 hA2
            obtain ⟨na, hna⟩ : ∃ na, na = cntL x (l.take j) := ⟨_, rfl⟩
            obtain ⟨nb, hnb⟩ : ∃ nb, nb = cntL x (S.take j) := ⟨_, rfl⟩
            rw [← hna, ← hnb]
            have ha := cntL_snoc x u l j hu
            have hb := cntL_snoc x v S j hv
            rw [← hna] at ha
            rw [← hnb] at hb
            have HA := hide ha
            have HB := hide hb
            have hla : na ≤ 30 ∧ nb ≤ 30 := by
              have h1 := cntL_le x (l.take j)
              have h2 := cntL_le x (S.take j)
              rw [List.length_take] at h1 h2
              omega
            have wa : IntKind.i64.wrap ((na : Int) + 1) = ((na + 1 : Nat) : Int) := by rw [IntWalk.i64_in _ (by omega)]; omega
            have wb : IntKind.i64.wrap ((nb : Int) + 1) = ((nb + 1 : Nat) : Int) := by rw [IntWalk.i64_in _ (by omega)]; omega
            clear hu hv hna hnb ha hb
            go_upto_region 14 with fail
            go_cut [81] from 73 to 81 (fun sv wx => sv = .bool (lnEq u x) ∧ ∃ q', wx = w3.drewN q')
            case first =>
              rcases a1 : (u.key.toList == x.key.toList) with _ | _
              · go_quiet (fail)
                go_wp2_with fail
                go_meet
                exact ⟨by simp [lnEq, a1], q + nq, by first | rfl | simp [World.drewN, Nat.add_assoc]⟩
              · rcases a2 : (u.lo == x.lo) with _ | _
                · go_quiet (fail)
                  go_wp2_with fail
                  go_meet
                  exact ⟨by simp [lnEq, a1, a2], q + nq, by first | rfl | simp [World.drewN, Nat.add_assoc]⟩
                · rcases a3 : (u.hi == x.hi) with _ | _
                  all_goals
                    go_quiet (fail)
                    go_wp2_with fail
                    go_meet
                    exact ⟨by simp [lnEq, a1, a2, a3], q + nq, by first | rfl | simp [World.drewN, Nat.add_assoc]⟩
            case rest =>
              obtain ⟨rfl, q1, rfl⟩ := hcut
              rcases eu : lnEq u x with _ | _
              · have HA1 : Hid (cntL x (l.take (j + 1)) = na) := hide (by rw [HA.out, eu]; rfl)
                clear eu t0 t1 t2
                go_upto_region 16 with fail
                go_cut [92] from 84 to 92 (fun sv wx => sv = .bool (lnEq v x) ∧ ∃ q', wx = w3.drewN q')
                case first =>
                  rcases a1 : (v.key.toList == x.key.toList) with _ | _
                  · go_quiet (fail)
                    go_wp2_with fail
                    go_meet
                    exact ⟨by simp [lnEq, a1], q1 + nq, by first | rfl | simp [World.drewN, Nat.add_assoc]⟩
                  · rcases a2 : (v.lo == x.lo) with _ | _
                    · go_quiet (fail)
                      go_wp2_with fail
                      go_meet
                      exact ⟨by simp [lnEq, a1, a2], q1 + nq, by first | rfl | simp [World.drewN, Nat.add_assoc]⟩
                    · rcases a3 : (v.hi == x.hi) with _ | _
                      all_goals
                        go_quiet (fail)
                        go_wp2_with fail
                        go_meet
                        exact ⟨by simp [lnEq, a1, a2, a3], q1 + nq, by first | rfl | simp [World.drewN, Nat.add_assoc]⟩
                case rest =>
                  obtain ⟨rfl, q2, rfl⟩ := hcut
                  rcases ev : lnEq v x with _ | _
                  · have HB1 : Hid (cntL x (S.take (j + 1)) = nb) := hide (by rw [HB.out, ev]; rfl)
                    go_wp2_with fail
                    go_roundw
                    case rel => exact ⟨j + 1, q2, by omega, by rw [HA1.out], by rw [HB1.out], by go_num, rfl⟩
                    case measure => simp [intOf]; omega
                  · have HB1 : Hid (cntL x (S.take (j + 1)) = nb + 1) := hide (by rw [HB.out, ev]; rfl)
                    go_wp2_with fail
                    go_roundw
                    case rel => exact ⟨j + 1, q2, by omega, by rw [HA1.out], by rw [HB1.out]; go_num, by go_num, rfl⟩
                    case measure => simp [intOf]; omega
              · have HA1 : Hid (cntL x (l.take (j + 1)) = na + 1) := hide (by rw [HA.out, eu]; rfl)
                clear eu t0 t1 t2
                go_upto_region 16 with fail
                go_cut [92] from 84 to 92 (fun sv wx => sv = .bool (lnEq v x) ∧ ∃ q', wx = w3.drewN q')
                case first =>
                  rcases a1 : (v.key.toList == x.key.toList) with _ | _
                  · go_quiet (fail)
                    go_wp2_with fail
                    go_meet
                    exact ⟨by simp [lnEq, a1], q1 + nq, by first | rfl | simp [World.drewN, Nat.add_assoc]⟩
                  · rcases a2 : (v.lo == x.lo) with _ | _
                    · go_quiet (fail)
                      go_wp2_with fail
                      go_meet
                      exact ⟨by simp [lnEq, a1, a2], q1 + nq, by first | rfl | simp [World.drewN, Nat.add_assoc]⟩
                    · rcases a3 : (v.hi == x.hi) with _ | _
                      all_goals
                        go_quiet (fail)
                        go_wp2_with fail
                        go_meet
                        exact ⟨by simp [lnEq, a1, a2, a3], q1 + nq, by first | rfl | simp [World.drewN, Nat.add_assoc]⟩
                case rest =>
                  obtain ⟨rfl, q2, rfl⟩ := hcut
                  rcases ev : lnEq v x with _ | _
                  · have HB1 : Hid (cntL x (S.take (j + 1)) = nb) := hide (by rw [HB.out, ev]; rfl)
                    go_wp2_with fail
                    go_roundw
                    case rel => exact ⟨j + 1, q2, by omega, by rw [HA1.out]; go_num, by rw [HB1.out], by go_num, rfl⟩
                    case measure => simp [intOf]; omega
                  · have HB1 : Hid (cntL x (S.take (j + 1)) = nb + 1) := hide (by rw [HB.out, ev]; rfl)
                    go_wp2_with fail
                    go_roundw
                    case rel => exact ⟨j + 1, q2, by omega, by rw [HA1.out]; go_num, by rw [HB1.out]; go_num, by go_num, rfl⟩
                    case measure => simp [intOf]; omega
          · have e6 : decide (j < k) = false := by simpa using hjk
            obtain rfl : j = k := by omega
            have hab : cntL x (S.take j) = cntL x (l.take j) := by
              rw [List.take_of_length_le (by rw [HSl.out]; exact Nat.le_refl _), List.take_of_length_le (by rw [HLk.out]; exact Nat.le_refl _)]
              exact HPm.out.countP_eq _
            rw [hab]
            obtain ⟨na, hna⟩ : ∃ na, na = cntL x (l.take j) := ⟨_, rfl⟩
            rw [← hna]
            clear hab hna
            go_wp2_with fail
            go_roundw
            case rel => exact ⟨i + 1, q, by omega, by go_num, rfl⟩
            case measure => simp [intOf]; omega
    · have e1 : decide (i < k) = false := by simpa using hlt
      go_wp2_with fail
      refine (awake18 _).mono ?_
      rintro e w4 ⟨rfl, k4⟩
      have K4 := hide ((K3.out.drewN q).trans k4)
      clear k4
      go_wp2_with fail
      go_ret
      exact ⟨rfl, K4.out⟩
theorem walk (w : World) (A1 : Option Addr) (n1 c1 : Nat) (z1 : List Int) (r1 : Rd w w.heap.size A1 1 n1 (z1.map (.int .i64))) (b1 : ∀ z ∈ z1, -9223372036854775808 ≤ z ∧ z < 9223372036854775808) (s1 : n1 * 8 ≤ 140737488351232) (l1 : n1 ≤ c1) :
    Calls Try.prog 7 #[.slice A1 n1 c1] w fun e w' => e = .returned (.bool true) ∧ Below w.heap.size w w' :=
  (main w A1 n1 c1 z1 r1 b1 (by omega)).mono fun e w' ⟨he, hk⟩ => ⟨he, hk.done⟩
end boundsSorted
end Go.Proofs.Ytmbgnekilgobaaa
