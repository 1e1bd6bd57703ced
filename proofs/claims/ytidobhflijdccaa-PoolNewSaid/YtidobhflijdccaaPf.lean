/-
  PoolNew: which pools can be made, and what a nil pool returns. No conditions beyond those of the statement.
-/
import Derived.Test.YtidobhflijdccaaPs
import Derived.Test.YtidobhflijdccaaBa
set_option linter.unusedVariables false
set_option linter.unusedSimpArgs false
namespace Go.Proofs.Ytidobhflijdccaa
open Go.RowKit Cfp
/-- what the reference's NewPool gives -/
def RPNews (w : World) (e : Ending) (w' : World) : Prop := (∃ q, e = .returned (.tuple #[.pointer (some ⟨q, 0, none⟩), .int .i64 0])) ∧ Keeps (fun _ => False) w w'
theorem rpnew_ok (w : World) (b : Nat) (k : Int) (h1 : 1 ≤ k) (h2 : k ≤ 8192) : Calls Try.prog 47 #[.pointer (some ⟨b, 0, none⟩), .int .i64 k] w (RPNews w) := by
  have t1 : decide (k < 1) = false := by simp; omega
  have t2 : decide ((8192 : Int) < k) = false := by simp; omega
  go_enter Try.func47, Try.ntmps47
  go_wp2_with fail
  go_ret2
  exact ⟨⟨_, rfl⟩, ((((Keeps.refl _ _).alloc _).alloc _).alloc _).alloc _⟩
theorem rpnew_bad (w : World) (b : Nat) (k : Int) (h : k < 1 ∨ 8192 < k) : Calls Try.prog 47 #[.pointer (some ⟨b, 0, none⟩), .int .i64 k] w fun e w' => e = .returned (.tuple #[.pointer none, .int .i64 1]) ∧ w' = w := by
  by_cases h1 : k < 1
  · have t1 : decide (k < 1) = true := by simpa using h1
    clear h h1
    go_enter Try.func47, Try.ntmps47
    go_wp2_with fail
    go_ret2
    exact ⟨rfl, rfl⟩
  · have t1 : decide (k < 1) = false := by simpa using h1
    have t2 : decide ((8192 : Int) < k) = true := by simp; omega
    clear h h1
    go_enter Try.func47, Try.ntmps47
    go_wp2_with fail
    go_ret2
    exact ⟨rfl, rfl⟩
theorem intern_nil (w : World) (t : ByteArray) : Calls Try.prog 39 #[.pointer none, .string t] w fun e w' => e = .returned (.tuple #[.int .i64 0, .int .i64 8]) ∧ w' = w := by
  go_enter Try.func39, Try.ntmps39
  go_wp2_with fail
  go_ret2
  exact ⟨rfl, rfl⟩
theorem text_nil (w : World) (z : Int) : Calls Try.prog 72 #[.pointer none, .int .i64 z] w fun e w' => e = .returned (.tuple #[.string ⟨#[]⟩, .bool false]) ∧ w' = w := by
  go_enter Try.func72, Try.ntmps72
  go_wp2_with fail
  go_ret2
  exact ⟨rfl, rfl⟩
theorem Text_nil (w : World) (z : Int) : Calls Try.prog 40 #[.pointer none, .int .i64 z] w fun e w' => e = .returned (.tuple #[.string ⟨#[]⟩, .int .i64 8]) ∧ w' = w := by
  go_enter Try.func40, Try.ntmps40
  go_wp2_with fail
  refine (text_nil _ _).mono ?_
  rintro e w1 ⟨rfl, rfl⟩
  go_wp2_with fail
  go_ret2
  exact ⟨rfl, rfl⟩
theorem release_nil (w : World) (z : Int) : Calls Try.prog 45 #[.pointer none, .int .i64 z] w fun e w' => e = .returned (.int .i64 8) ∧ w' = w := by
  go_enter Try.func45, Try.ntmps45
  go_wp2_with fail
  refine (text_nil _ _).mono ?_
  rintro e w1 ⟨rfl, rfl⟩
  go_wp2_with fail
  go_ret
  exact ⟨rfl, rfl⟩
theorem find_nil (w : World) (t : ByteArray) : Calls Try.prog 48 #[.pointer none, .string t] w fun e w' => e = .returned (.tuple #[.int .i64 0, .int .i64 0]) ∧ w' = w := by
  go_enter Try.func48, Try.ntmps48
  go_wp2_with fail
  go_ret2
  exact ⟨rfl, rfl⟩
theorem len_nil (w : World) : Calls Try.prog 44 #[.pointer none] w fun e w' => e = .returned (.int .i64 0) ∧ w' = w := by
  go_enter Try.func44, Try.ntmps44
  go_wp2_with fail
  go_ret
  exact ⟨rfl, rfl⟩
theorem i64_and16383 (n : Int) : bits .and .i64 n 16383 = n % 16384 := by
  have h15 : (BitVec.ofInt 64 16383).toNat = 2 ^ 14 - 1 := by decide
  have key : (BitVec.ofInt 64 n &&& BitVec.ofInt 64 16383).toNat = (n % ((2 ^ 64 : Nat) : Int)).toNat % 2 ^ 14 := by
    rw [BitVec.toNat_and, BitVec.toNat_ofInt, h15, Nat.and_two_pow_sub_one_eq_mod]
  show IntKind.i64.wrap ((BitVec.ofInt 64 n &&& BitVec.ofInt 64 16383).toNat : Nat) = n % 16384
  rw [key, IntKind.wrap_i64]
  omega
namespace poolNew
set_option maxRecDepth 100000 in
set_option maxHeartbeats 2000000 in
theorem main (w : World) (x : Int) (x0 : -9223372036854775808 ≤ x) (x1 : x < 9223372036854775808) (A1 : Option Addr) (n1 c1 : Nat) (zs : List Int) (hd : Rd w w.heap.size A1 1 n1 (zs.map (.int .i64))) (hz : ∀ z ∈ zs, -9223372036854775808 ≤ z ∧ z < 9223372036854775808) (hn1 : n1 ≤ 17592186043904) :
    Calls Try.prog 10 #[.int .i64 x, .slice A1 n1 c1] w fun e w' => e = .returned (.bool true) ∧ Keeps (fun _ => False) w w' := by
  have HD := hide hd
  clear hd
  go_enter Try.func10, Try.ntmps10
  go_wp2_with fail
  refine (new_deck A1 n1 c1 zs _ w (Nat.le_refl _) HD.out hz (by omega)).mono ?_
  rintro e w1 ⟨rfl, d1, k1⟩
  have HD1 := hide d1
  have K1 := hide k1
  clear d1 k1 HD
  go_wp2_with fail
  trace "CLASSES"
  refine (classes_any _ _ _ HD1.out).mono ?_
  rintro e w2 ⟨D, n, m, l, rfl, hn4, hE, hbd, o2, d2, k2⟩
  have HE := hide hE
  have O2 := hide o2
  have K2 := hide (K1.out.step k2 (fun b hb e => by omega))
  clear hE hbd o2 d2 k2 HD1 K1
  go_wp2_with fail
  trace "NEW"
  refine (anew_ok l HE.out D n m _ w2 (O2.out.rd (by omega)) (Nat.le_refl _)).mono ?_
  rintro e w3 ⟨a, CA, cap, rfl, h3, k3⟩
  have K3 := hide (K2.out.trans k3)
  have O3 := hide (O2.out.kept k3 (fun _ _ h => h))
  clear h3 k3 O2 K2
  go_wp2_with fail
  trace "RNEW"
  refine (rnew_ok l HE.out D n m _ w3 (O3.out.rd (by omega)) (Nat.le_refl _)).mono ?_
  rintro e w4 ⟨b, D4, c4, g4, rfl, _, _, _, _, _, k4⟩
  have K4 := hide (K3.out.trans k4)
  clear k4 O3 K3
  go_upto_region 4 with fail
  trace "R4"
  go_wp2_with fail
  trace "LOOP"
  have hv := i64_and16383 x
  obtain ⟨v1, hv1⟩ : ∃ v1, v1 = bits .and .i64 x 16383 := ⟨_, rfl⟩
  have hvb : 0 ≤ v1 ∧ v1 < 16384 := by rw [hv1, hv]; omega
  rw [← hv1]
  clear hv hv1
  have BL := hide (Blk.new w4 3 #[.int .i64 x, .int .i64 v1, .int .i64 8192, .int .i64 8193])
  have K5 := hide (K4.out.alloc (.cells #[.int .i64 x, .int .i64 v1, .int .i64 8192, .int .i64 8193] 3))
  clear K4
  generalize w4.alloc _ = w5 at *
  generalize w4.heap.size = XL at *
  go_loopw [11, 12, 13, 14, 15, 43] (fun _ _ _ _ _ iv wr => ∃ i : Nat, i ≤ 4 ∧ iv = .int .i64 i ∧ Hid (Keeps (fun _ => False) w5 wr)) (fun _ _ _ _ _ iv _ => 4 - (intOf iv).toNat)
  case atStart => exact ⟨0, by omega, rfl, hide (Keeps.refl _ _)⟩
  case round =>
    obtain ⟨i, hi, rfl, KR⟩ := hrel
    by_cases hlt : i < 4
    · have HLT : Hid (i + 1 ≤ 4) := hlt
      obtain ⟨v, hv, hvx⟩ : ∃ v, wr.cell? ⟨XL, i, none⟩ = some (.int .i64 v) ∧ -9223372036854775808 ≤ v ∧ v < 9223372036854775808 := by
        have hb := BL.out.kept KR.out (fun h => h)
        have := hb.cell i
        rcases i with _ | _ | _ | _ | i
        · exact ⟨_, this, x0, x1⟩
        · exact ⟨_, this, by omega, by omega⟩
        · exact ⟨_, this, by omega, by omega⟩
        · exact ⟨_, this, by omega, by omega⟩
        · omega
      have hiI : (i : Int) < 4 := by omega
      have hi0 : (0 : Int) ≤ (i : Int) := by omega
      by_cases hin : 1 ≤ v ∧ v ≤ 8192
      · go_wp2_with fail
        trace "PNEW"
        refine (pnew_ok _ a v hin.1 hin.2).mono ?_
        rintro e w6 ⟨p, g, mb, rfl, _, k6⟩
        have K6 := hide k6
        clear k6
        go_wp2_with fail
        refine (rpnew_ok _ b v hin.1 hin.2).mono ?_
        rintro e w7 ⟨⟨q, rfl⟩, k7⟩
        have K7 := hide (KR.out.trans (K6.out.trans k7))
        clear k7
        go_wp2_with fail
        go_roundw
        case rel => exact ⟨i + 1, HLT.out, by go_num, K7⟩
        case measure => have := HLT.out; simp [intOf]; omega
      · go_wp2_with fail
        trace "PNEW2"
        refine (pnew_bad _ a v (by omega)).mono ?_
        rintro e w6 ⟨rfl, rfl⟩
        go_wp2_with fail
        refine (rpnew_bad _ b v (by omega)).mono ?_
        rintro e w7 ⟨rfl, rfl⟩
        go_wp2_with fail
        go_roundw
        case rel => exact ⟨i + 1, HLT.out, by go_num, KR⟩
        case measure => have := HLT.out; simp [intOf]; omega
    · obtain rfl : i = 4 := by omega
      have K6 := hide (K5.out.trans KR.out)
      clear KR K5 BL
      go_wp2_with fail
      trace "NIL"
      refine (pnew_nil _ _).mono ?_
      rintro e w7 ⟨rfl, rfl⟩
      go_wp2_with fail
      refine (intern_nil _ _).mono ?_
      rintro e w8 ⟨rfl, rfl⟩
      go_wp2_with fail
      refine (Text_nil _ _).mono ?_
      rintro e w9 ⟨rfl, rfl⟩
      go_wp2_with fail
      refine (find_nil _ _).mono ?_
      rintro e w10 ⟨rfl, rfl⟩
      go_wp2_with fail
      refine (release_nil _ _).mono ?_
      rintro e w11 ⟨rfl, rfl⟩
      go_wp2_with fail
      refine (len_nil _).mono ?_
      rintro e w12 ⟨rfl, rfl⟩
      go_wp2_with fail
      trace "AWAKE"
      refine (awake09 _).mono ?_
      rintro e w13 ⟨rfl, k13⟩
      have K13 := hide (K6.out.trans k13)
      clear k13
      go_wp2_with fail
      go_ret
      exact ⟨rfl, K13.out⟩
theorem walk (w : World) (x : Int) (x0 : -9223372036854775808 ≤ x) (x1 : x < 9223372036854775808) (A1 : Option Addr) (n1 c1 : Nat) (z1 : List Int) (r1 : Rd w w.heap.size A1 1 n1 (z1.map (.int .i64))) (b1 : ∀ z ∈ z1, -9223372036854775808 ≤ z ∧ z < 9223372036854775808) (s1 : n1 * 8 ≤ 140737488351232) (l1 : n1 ≤ c1) :
    Calls Try.prog 10 #[.int .i64 x, .slice A1 n1 c1] w fun e w' => e = .returned (.bool true) ∧ Below w.heap.size w w' :=
  (main w x x0 x1 A1 n1 c1 z1 r1 b1 (by omega)).mono fun e w' ⟨he, hk⟩ => ⟨he, hk.done⟩
end poolNew
end Go.Proofs.Ytidobhflijdccaa
