/-
  ArenaCheck: which classes are accepted, the class of a size, and what a nil arena returns. No conditions beyond those of the statement.
-/
import Derived.Test.YtidobhflijdccaaBf
set_option linter.unusedVariables false
set_option linter.unusedSimpArgs false
namespace Go.Proofs.Ytidobhflijdccaa
open Go.RowKit Cfp
theorem i64_and7 (n : Int) : bits .and .i64 n 7 = n % 8 := by
  have h15 : (BitVec.ofInt 64 7).toNat = 2 ^ 3 - 1 := by decide
  have key : (BitVec.ofInt 64 n &&& BitVec.ofInt 64 7).toNat = (n % ((2 ^ 64 : Nat) : Int)).toNat % 2 ^ 3 := by
    rw [BitVec.toNat_and, BitVec.toNat_ofInt, h15, Nat.and_two_pow_sub_one_eq_mod]
  show IntKind.i64.wrap ((BitVec.ofInt 64 n &&& BitVec.ofInt 64 7).toNat : Nat) = n % 8
  rw [key, IntKind.wrap_i64]
  omega
theorem field_v0 (x y z : Value) (w : World) : (Instr.field 46 (.agg #[x, y, z]) 0).run Try.prog w = .ok x w := by
  kernel_rfl
theorem prs_set {l : List (Int × Int)} {i k : Nat} {x y : Int × Int} {v : Value} (h : l[i]? = some x) (hk : k < 2) (hy : prC y = (prC x).set k v) : (prs l).set (i * 2 + k) v = prs (l.set i y) := flat_set _ 2 (fun _ => rfl) l i k x y v h hk hy
namespace arenaCheck
def W64 (l : List (Int × Int)) : Prop := ∀ c ∈ l, (-9223372036854775808 ≤ c.1 ∧ c.1 < 9223372036854775808) ∧ (-9223372036854775808 ≤ c.2 ∧ c.2 < 9223372036854775808)
set_option maxRecDepth 100000 in
set_option maxHeartbeats 3000000 in
theorem main (w : World) (A0 : Option Addr) (n0 c0 : Nat) (lr : List (Int × Int)) (hr : Rd w w.heap.size A0 2 n0 (prs lr)) (hw : W64 lr) (hn0 : n0 ≤ 17592186043904)
    (A1 : Option Addr) (n1 c1 : Nat) (zs : List Int) (hd : Rd w w.heap.size A1 1 n1 (zs.map (.int .i64))) (hz : ∀ z ∈ zs, -9223372036854775808 ≤ z ∧ z < 9223372036854775808) (hn1 : n1 ≤ 17592186043904)
    (at_ nv size : Int) (hat : -9223372036854775808 ≤ at_ ∧ at_ < 9223372036854775808) (hnv : -9223372036854775808 ≤ nv ∧ nv < 9223372036854775808) :
    Calls Try.prog 3 #[.slice A0 n0 c0, .slice A1 n1 c1, .int .i64 at_, .int .i64 nv, .int .i64 size] w fun e w' => e = .returned (.bool true) ∧ Keeps (fun _ => False) w w' := by
  have HR := hide hr
  have HD := hide hd
  have HW := hide hw
  clear hr hd hw
  by_cases h12 : 12 < n0
  · have e1 : decide ((12 : Int) < (n0 : Int)) = true := by simp; omega
    go_enter Try.func3, Try.ntmps3
    go_wp2_with fail
    refine (awake08 _).mono ?_
    rintro e w5 ⟨rfl, k5⟩
    have K5 := hide k5
    clear k5
    go_wp2_with fail
    go_ret
    exact ⟨rfl, K5.out⟩
  have e1 : decide ((12 : Int) < (n0 : Int)) = false := by simp; omega
  go_enter Try.func3, Try.ntmps3
  go_wp2_with fail
  refine (new_deck A1 n1 c1 zs _ w (Nat.le_refl _) HD.out hz (by omega)).mono ?_
  rintro e w1 ⟨rfl, d1, k1⟩
  have K1 := hide k1
  clear k1
  go_wp2_with fail
  refine (classes_any _ w.heap.size w1 d1).mono ?_
  rintro e w2 ⟨D, n, m, l, rfl, hn4, hE, hb, o2, _, k2⟩
  have hg : w.heap.size < w1.heap.size := d1.lt
  have K2 := hide (K1.out.step k2 (fun b hb e => by omega))
  have hln : Hid (l.length = n) := by have := o2.len; rw [prs_len] at this; show _ = _; omega
  have hnp : 1 ≤ n := by have := (classes_bd2 l hE).1.1; have := hln.out; omega
  have HE := hide hE
  have HBd := hide (classes_bd2 l hE).2
  have hmc := o2.le
  have R2 := hide (o2.rd (by omega))
  clear K1 d1 hE hb o2 k2
  go_wp2_with fail
  refine (anew_ok l HE.out D n m _ w2 R2.out (Nat.le_refl _)).mono ?_
  rintro e w3 ⟨a, CA, cap, rfl, h3, k3⟩
  have H3 := hide h3
  have K3 := hide (K2.out.trans k3)
  have R3 := hide ((R2.out.kept k3 (fun _ _ h => h)).more k3.size)
  clear h3 k3 R2 K2
  go_upto_region 9 with fail
  trace "R9"
  go_wp2_with fail
  trace "LOOP"
  obtain ⟨v1, hv1⟩ : ∃ v1, v1 = bits .and .i64 size 255 := ⟨_, rfl⟩
  obtain ⟨v2, hv2⟩ : ∃ v2, v2 = bits .and .i64 size 31 := ⟨_, rfl⟩
  rw [← hv1, ← hv2]
  clear hv1 hv2
  have BL := hide (Blk.new w3 3 #[.int .i64 size, .int .i64 v1, .int .i64 v2])
  have kl := (Keeps.refl (fun _ => False) w3).alloc (.cells #[.int .i64 size, .int .i64 v1, .int .i64 v2] 3)
  have H4 := hide (H3.out.quiet kl)
  have R4 := hide ((R3.out.kept kl (fun _ _ h => h)).more kl.size)
  have K4 := hide (K3.out.trans kl)
  clear kl H3 R3 K3
  generalize w3.alloc _ = w4 at *
  generalize w3.heap.size = XL at *
  go_loopw [16, 17, 18, 19, 20, 54] (fun _ _ _ _ _ iv wr => ∃ i : Nat, i ≤ 3 ∧ iv = .int .i64 i ∧ Hid (Keeps (fun _ => False) w4 wr)) (fun _ _ _ _ _ iv _ => 3 - (intOf iv).toNat)
  case atStart => exact ⟨0, by omega, rfl, hide (Keeps.refl _ _)⟩
  case round =>
    obtain ⟨i, hi, rfl, KR⟩ := hrel
    by_cases hlt : i < 3
    · have HLT : Hid (i + 1 ≤ 3) := hlt
      obtain ⟨v, hv⟩ : ∃ v, wr.cell? ⟨XL, i, none⟩ = some (.int .i64 v) := by
        have hb := BL.out.kept KR.out (fun h => h)
        have := hb.cell i
        rcases i with _ | _ | _ | i
        · exact ⟨_, this⟩
        · exact ⟨_, this⟩
        · exact ⟨_, this⟩
        · omega
      have hiI : (i : Int) < 3 := by omega
      have hi0 : (0 : Int) ≤ (i : Int) := by omega
      have HA := hide (H4.out.quiet KR.out)
      have RR := hide ((R4.out.kept KR.out (fun _ _ h => h)).more KR.out.size)
      obtain ⟨fi, hfi⟩ : ∃ fi, fi = fitI l v := ⟨_, rfl⟩
      obtain ⟨fe, hfe⟩ : ∃ fe, fe = fitE l v := ⟨_, rfl⟩
      have HC1 := hide (afit_any _ a l n cap CA v wr HA.out hln.out (by omega))
      have HC2 := hide (fun W hr hB => rfit_any l D n m wr.heap.size v W hr hB (by omega))
      rw [← hfi, ← hfe] at HC1 HC2
      have b1 : (fi != fi) = false := by simp
      have b2 : (fe != fe) = false := by simp
      clear hfi hfe
      go_wp2_with fail
      trace "FIT"
      refine HC1.out.mono ?_
      rintro e w6 ⟨rfl, k6⟩
      have K6 := hide k6
      have R6 := hide (RR.out.kept k6 (fun _ _ h => h))
      clear k6 HC1
      go_wp2_with fail
      trace "RFIT"
      refine (HC2.out w6 R6.out K6.out.size).mono ?_
      rintro e w7 ⟨rfl, k7⟩
      have K7 := hide (KR.out.trans (K6.out.trans k7))
      clear k7 HC2 R6 RR HA K6
      go_wp2_with fail
      go_roundw
      case rel => exact ⟨i + 1, HLT.out, by go_num, K7⟩
      case measure => have := HLT.out; simp [intOf]; omega
    · obtain rfl : i = 3 := by omega
      have H5 := hide (H4.out.quiet KR.out)
      have R5 := hide ((R4.out.kept KR.out (fun _ _ h => h)).more KR.out.size)
      have K5 := hide (K4.out.trans KR.out)
      have hw5 : w.heap.size ≤ wr.heap.size := K5.out.size
      clear H4 R4 K4 KR BL
      go_upto_region 17 with (at_builtin; refine wpList_app _ elemClass rfl (.tmp 79) (.tmp 80) rfl wr.heap.size _ rfl (Own.new0 _ _ 37 2 _ (by simp) (by omega)) _ (m := n) _ rfl (R5.out.kept ((Keeps.refl (fun _ => False) wr).alloc _) (fun _ _ h => h)) (prs_one l) (by simp only [maxLen]; omega) (by omega) (by simp) ?_; intro A7 c7 w7 o7 k7 _; rw [Nat.zero_add, List.nil_append] at o7; have O7 := hide o7; have K7 := hide (((Keeps.refl (fun _ => False) wr).alloc (.cells #[] 37)).step k7 (fun k hk h => by have := (inB_some _ _ _).1 h; omega)); clear o7 k7)
      trace "R17"
      obtain ⟨G, rfl, hG1, hG2⟩ := O7.out.some_ (by omega)
      have K8 := hide (K5.out.trans K7.out)
      have hnc := O7.out.le
      clear H5 R5 K5 K7
      obtain ⟨kk, hkk, hkn⟩ : ∃ kk : Nat, at_ / 2 % 8 % (n : Int) = (kk : Int) ∧ kk < n := ⟨(at_ / 2 % 8 % (n : Int)).toNat, by have := Int.emod_nonneg (at_ / 2 % 8) (show (n : Int) ≠ 0 by omega); omega, by have := Int.emod_lt_of_pos (at_ / 2 % 8) (show (0 : Int) < (n : Int) by omega); omega⟩
      have h7 := i64_and7
      have htm : Int.tmod (at_ / 2 % 8) (n : Int) = (kk : Int) := by rw [← hkk]; exact Int.tmod_eq_emod_of_nonneg (Int.emod_nonneg _ (by omega))
      have n00 : ((n : Int) == 0) = false := by simp; omega
      obtain ⟨x, hx⟩ : ∃ x, l[kk]? = some x := ⟨l[kk]'(by rw [hln.out]; exact hkn), by simp⟩
      have hxb := HBd.out x (List.mem_of_getElem? hx)
      obtain ⟨g0, g1⟩ := prs_at hx
      have q0 := O7.out.cell (kk * 2) (by omega)
      have q1 := O7.out.cell (kk * 2 + 1) (by omega)
      rw [g0] at q0
      rw [g1] at q1
      have f0 := O7.out.frozen (kk * 2)
      have f1 := O7.out.frozen (kk * 2 + 1)
      have hkI : (kk : Int) < (n : Int) := by omega
      have hk0 : (0 : Int) ≤ (kk : Int) := by omega
      have HX := hide hx
      clear hkk hx g0 g1
      have hlb : ∀ c ∈ l, (-9223372036854775808 ≤ c.1 ∧ c.1 < 9223372036854775808) ∧ (-9223372036854775808 ≤ c.2 ∧ c.2 < 9223372036854775808) := fun c hc => by have := HBd.out c hc; omega
      have HM0 : Hid (∀ y : Int × Int, ((-9223372036854775808 ≤ y.1 ∧ y.1 < 9223372036854775808) ∧ (-9223372036854775808 ≤ y.2 ∧ y.2 < 9223372036854775808)) → W64 (l.set kk y)) := fun y hy c hc => by
        rcases List.mem_or_eq_of_mem_set hc with h | h
        · exact hlb c h
        · rw [h]; exact hy
      clear hlb
      by_cases hbit : (bits .and .i64 at_ 1 == 0) = true
      ·
        have HO8 := hide (O7.out.store (kk * 2) (.int .i64 nv))
        rw [show (prs l).set (kk * 2) (.int .i64 nv) = prs (l.set kk (nv, x.2)) from prs_set (k := 0) HX.out (by omega) rfl] at HO8
        have K9 := hide (K8.out.step (keepsOne w7 G (kk * 2) (.int .i64 nv)) (fun b hb e => by omega))
        have HM := hide (HM0.out (nv, x.2) ⟨hnv, by dsimp only; omega⟩)
        go_upto_region 21 with fail
        trace "R21"
        clear h7 htm n00 q0 q1 f0 f1 HX HM0 O7 K8
        generalize w7.setCell _ _ = w8 at *
        go_wp2_with fail
        trace "NIL"
        refine (alloc_nil 1 w8).mono ?_
        rintro e w9 ⟨rfl, k9⟩
        have k9' := k9.alloc (.cells #[.int .i64 0, .int .i64 0, .int .i64 0] 40)
        have K9' := hide (K9.out.trans k9')
        have O9 := hide (HO8.out.kept k9' (fun _ _ h => h))
        clear k9 k9' K9 HO8
        go_upto_region 23 with fail
        trace "R23"
        generalize w9.alloc _ = w9' at *
        go_wp2_with fail
        trace "RAW"
        obtain ⟨ev, hev⟩ : ∃ ev, ev = classesE lr := ⟨_, rfl⟩
        obtain ⟨em, hem⟩ : ∃ em, em = classesE (l.set kk (nv, x.2)) := ⟨_, rfl⟩
        have HEm := hide hem
        have HEv := hide hev
        clear hem
        have hR9 := HR.out.kept K9'.out (fun _ _ h => h)
        have hs9 : w.heap.size ≤ w9'.heap.size := K9'.out.size
        have HCA := hide (fun W hr hB => acheck_any lr HW.out A0 n0 c0 w.heap.size W hr hB (by omega))
        have HCB := hide (fun W hr hB => rclasses_any lr HW.out A0 n0 c0 w.heap.size W hr hB (by omega))
        rw [← hev] at HCA HCB
        by_cases hv0 : ev = 0
        · have hN := anew_ok lr (by rw [← hev]; exact hv0) A0 n0 c0 w.heap.size w9' hR9 hs9
          refine hN.mono ?_
          rintro e w10 ⟨a2, CA2, cap2, rfl, _, k10⟩
          have R10 := hide (hR9.kept k10 (fun _ _ h => h))
          have hw10 := Nat.le_trans hs9 k10.size
          have K10 := hide (K9'.out.trans k10)
          have O10 := hide (O9.out.kept k10 (fun _ _ h => h))
          subst hv0
          clear hN hR9 K9' O9 k10 hev
          have ke := (Keeps.refl (fun _ => False) w10).drew
          clear ke
          go_wp2_with fail
          trace "C1"
          refine (HCA.out w10 R10.out hw10).mono ?_
          rintro e w11 ⟨rfl, k11⟩
          have R11 := hide (R10.out.kept k11 (fun _ _ h => h))
          have hw11 := Nat.le_trans hw10 k11.size
          have K11 := hide (K10.out.trans k11)
          have O11 := hide (O10.out.kept k11 (fun _ _ h => h))
          clear k11 R10 K10 O10 HCA
          go_wp2_with fail
          trace "C2"
          refine (HCB.out w11 R11.out hw11).mono ?_
          rintro e w12 ⟨rfl, k12⟩
          have R12 := hide (R11.out.kept k12 (fun _ _ h => h))
          have hw12 := Nat.le_trans hw11 k12.size
          have K12 := hide (K11.out.trans k12)
          have O12 := hide (O11.out.kept k12 (fun _ _ h => h))
          clear k12 R11 K11 O11
          go_wp2_with fail
          trace "C3"
          have hc3 := acheck_any (l.set kk (nv, x.2)) HM.out (some ⟨G, 0, none⟩) n c7 w12.heap.size w12 (O12.out.rd (by omega)) (Nat.le_refl _) (by omega)
          rw [← HEm.out] at hc3
          refine hc3.mono ?_
          rintro e w13 ⟨rfl, k13⟩
          have R13 := hide (R12.out.kept k13 (fun _ _ h => h))
          have hw13 := Nat.le_trans hw12 k13.size
          have K13 := hide (K12.out.trans k13)
          have O13 := hide (O12.out.kept k13 (fun _ _ h => h))
          clear k13 R12 K12 O12 hc3
          go_wp2_with fail
          trace "C4"
          have hc4 := rclasses_any (l.set kk (nv, x.2)) HM.out (some ⟨G, 0, none⟩) n c7 w13.heap.size w13 (O13.out.rd (by omega)) (Nat.le_refl _) (by omega)
          rw [← HEm.out] at hc4
          refine hc4.mono ?_
          rintro e w14 ⟨rfl, k14⟩
          have R14 := hide (R13.out.kept k14 (fun _ _ h => h))
          have hw14 := Nat.le_trans hw13 k14.size
          have K14 := hide (K13.out.trans k14)
          clear k14 R13 K13 O13 hc4
          go_wp2_with fail
          trace "C5"
          refine (HCB.out w14 R14.out hw14).mono ?_
          rintro e w15 ⟨rfl, k15⟩
          have K15 := hide (K14.out.trans k15)
          clear k15 R14 K14
          go_wp2_with fail
          trace "C6"
          refine (free_nil w15 0 0 0).mono ?_
          rintro e w16 ⟨rfl, k16⟩
          have K16 := hide (K15.out.trans k16)
          clear k16 K15
          go_wp2_with fail
          trace "C7"
          refine (usage_nil w16).mono ?_
          rintro e w17 ⟨rfl, k17⟩
          have K17 := hide (K16.out.trans k17)
          clear k17 K16
          have hfv := fun x y z w => field_v0 x y z w
          go_wp2_with fail
          trace "C8"
          refine (awake08 _).mono ?_
          rintro e w18 ⟨rfl, k18⟩
          have K18 := hide (K17.out.trans k18)
          clear k18
          go_wp2_with fail
          go_ret
          exact ⟨rfl, K18.out⟩
        · have hN := anew_bad lr HW.out (by rw [← hev]; exact hv0) A0 n0 c0 w.heap.size w9' hR9 hs9 (by omega)
          rw [← hev] at hN
          refine hN.mono ?_
          rintro e w10 ⟨rfl, k10⟩
          have R10 := hide (hR9.kept k10 (fun _ _ h => h))
          have hw10 := Nat.le_trans hs9 k10.size
          have K10 := hide (K9'.out.trans k10)
          have O10 := hide (O9.out.kept k10 (fun _ _ h => h))
          have ev0 : (ev != 0) = true := by simpa using hv0
          have ev1 : (ev == 0) = false := by simpa using hv0
          clear hN hR9 K9' O9 k10 hev hv0
          have ke := (Keeps.refl (fun _ => False) w10).drew
          clear ke
          go_wp2_with fail
          trace "C1"
          refine (HCA.out w10 R10.out hw10).mono ?_
          rintro e w11 ⟨rfl, k11⟩
          have R11 := hide (R10.out.kept k11 (fun _ _ h => h))
          have hw11 := Nat.le_trans hw10 k11.size
          have K11 := hide (K10.out.trans k11)
          have O11 := hide (O10.out.kept k11 (fun _ _ h => h))
          clear k11 R10 K10 O10 HCA
          go_wp2_with fail
          trace "C2"
          refine (HCB.out w11 R11.out hw11).mono ?_
          rintro e w12 ⟨rfl, k12⟩
          have R12 := hide (R11.out.kept k12 (fun _ _ h => h))
          have hw12 := Nat.le_trans hw11 k12.size
          have K12 := hide (K11.out.trans k12)
          have O12 := hide (O11.out.kept k12 (fun _ _ h => h))
          clear k12 R11 K11 O11
          go_wp2_with fail
          trace "C3"
          have hc3 := acheck_any (l.set kk (nv, x.2)) HM.out (some ⟨G, 0, none⟩) n c7 w12.heap.size w12 (O12.out.rd (by omega)) (Nat.le_refl _) (by omega)
          rw [← HEm.out] at hc3
          refine hc3.mono ?_
          rintro e w13 ⟨rfl, k13⟩
          have R13 := hide (R12.out.kept k13 (fun _ _ h => h))
          have hw13 := Nat.le_trans hw12 k13.size
          have K13 := hide (K12.out.trans k13)
          have O13 := hide (O12.out.kept k13 (fun _ _ h => h))
          clear k13 R12 K12 O12 hc3
          go_wp2_with fail
          trace "C4"
          have hc4 := rclasses_any (l.set kk (nv, x.2)) HM.out (some ⟨G, 0, none⟩) n c7 w13.heap.size w13 (O13.out.rd (by omega)) (Nat.le_refl _) (by omega)
          rw [← HEm.out] at hc4
          refine hc4.mono ?_
          rintro e w14 ⟨rfl, k14⟩
          have R14 := hide (R13.out.kept k14 (fun _ _ h => h))
          have hw14 := Nat.le_trans hw13 k14.size
          have K14 := hide (K13.out.trans k14)
          clear k14 R13 K13 O13 hc4
          go_wp2_with fail
          trace "C5"
          refine (HCB.out w14 R14.out hw14).mono ?_
          rintro e w15 ⟨rfl, k15⟩
          have K15 := hide (K14.out.trans k15)
          clear k15 R14 K14
          go_wp2_with fail
          trace "C6"
          refine (free_nil w15 0 0 0).mono ?_
          rintro e w16 ⟨rfl, k16⟩
          have K16 := hide (K15.out.trans k16)
          clear k16 K15
          go_wp2_with fail
          trace "C7"
          refine (usage_nil w16).mono ?_
          rintro e w17 ⟨rfl, k17⟩
          have K17 := hide (K16.out.trans k17)
          clear k17 K16
          have hfv := fun x y z w => field_v0 x y z w
          go_wp2_with fail
          trace "C8"
          refine (awake08 _).mono ?_
          rintro e w18 ⟨rfl, k18⟩
          have K18 := hide (K17.out.trans k18)
          clear k18
          go_wp2_with fail
          go_ret
          exact ⟨rfl, K18.out⟩
      ·
        have hbit' : (bits .and .i64 at_ 1 == 0) = false := by simpa using hbit
        have HO8 := hide (O7.out.store (kk * 2 + 1) (.int .i64 nv))
        rw [show (prs l).set (kk * 2 + 1) (.int .i64 nv) = prs (l.set kk (x.1, nv)) from prs_set (k := 1) HX.out (by omega) rfl] at HO8
        have K9 := hide (K8.out.step (keepsOne w7 G (kk * 2 + 1) (.int .i64 nv)) (fun b hb e => by omega))
        have HM := hide (HM0.out (x.1, nv) ⟨by dsimp only; omega, hnv⟩)
        clear hbit
        go_upto_region 21 with fail
        trace "R21"
        clear h7 htm n00 q0 q1 f0 f1 HX HM0 O7 K8
        generalize w7.setCell _ _ = w8 at *
        go_wp2_with fail
        trace "NIL"
        refine (alloc_nil 1 w8).mono ?_
        rintro e w9 ⟨rfl, k9⟩
        have k9' := k9.alloc (.cells #[.int .i64 0, .int .i64 0, .int .i64 0] 40)
        have K9' := hide (K9.out.trans k9')
        have O9 := hide (HO8.out.kept k9' (fun _ _ h => h))
        clear k9 k9' K9 HO8
        go_upto_region 23 with fail
        trace "R23"
        generalize w9.alloc _ = w9' at *
        go_wp2_with fail
        trace "RAW"
        obtain ⟨ev, hev⟩ : ∃ ev, ev = classesE lr := ⟨_, rfl⟩
        obtain ⟨em, hem⟩ : ∃ em, em = classesE (l.set kk (x.1, nv)) := ⟨_, rfl⟩
        have HEm := hide hem
        have HEv := hide hev
        clear hem
        have hR9 := HR.out.kept K9'.out (fun _ _ h => h)
        have hs9 : w.heap.size ≤ w9'.heap.size := K9'.out.size
        have HCA := hide (fun W hr hB => acheck_any lr HW.out A0 n0 c0 w.heap.size W hr hB (by omega))
        have HCB := hide (fun W hr hB => rclasses_any lr HW.out A0 n0 c0 w.heap.size W hr hB (by omega))
        rw [← hev] at HCA HCB
        by_cases hv0 : ev = 0
        · have hN := anew_ok lr (by rw [← hev]; exact hv0) A0 n0 c0 w.heap.size w9' hR9 hs9
          refine hN.mono ?_
          rintro e w10 ⟨a2, CA2, cap2, rfl, _, k10⟩
          have R10 := hide (hR9.kept k10 (fun _ _ h => h))
          have hw10 := Nat.le_trans hs9 k10.size
          have K10 := hide (K9'.out.trans k10)
          have O10 := hide (O9.out.kept k10 (fun _ _ h => h))
          subst hv0
          clear hN hR9 K9' O9 k10 hev
          have ke := (Keeps.refl (fun _ => False) w10).drew
          clear ke
          go_wp2_with fail
          trace "C1"
          refine (HCA.out w10 R10.out hw10).mono ?_
          rintro e w11 ⟨rfl, k11⟩
          have R11 := hide (R10.out.kept k11 (fun _ _ h => h))
          have hw11 := Nat.le_trans hw10 k11.size
          have K11 := hide (K10.out.trans k11)
          have O11 := hide (O10.out.kept k11 (fun _ _ h => h))
          clear k11 R10 K10 O10 HCA
          go_wp2_with fail
          trace "C2"
          refine (HCB.out w11 R11.out hw11).mono ?_
          rintro e w12 ⟨rfl, k12⟩
          have R12 := hide (R11.out.kept k12 (fun _ _ h => h))
          have hw12 := Nat.le_trans hw11 k12.size
          have K12 := hide (K11.out.trans k12)
          have O12 := hide (O11.out.kept k12 (fun _ _ h => h))
          clear k12 R11 K11 O11
          go_wp2_with fail
          trace "C3"
          have hc3 := acheck_any (l.set kk (x.1, nv)) HM.out (some ⟨G, 0, none⟩) n c7 w12.heap.size w12 (O12.out.rd (by omega)) (Nat.le_refl _) (by omega)
          rw [← HEm.out] at hc3
          refine hc3.mono ?_
          rintro e w13 ⟨rfl, k13⟩
          have R13 := hide (R12.out.kept k13 (fun _ _ h => h))
          have hw13 := Nat.le_trans hw12 k13.size
          have K13 := hide (K12.out.trans k13)
          have O13 := hide (O12.out.kept k13 (fun _ _ h => h))
          clear k13 R12 K12 O12 hc3
          go_wp2_with fail
          trace "C4"
          have hc4 := rclasses_any (l.set kk (x.1, nv)) HM.out (some ⟨G, 0, none⟩) n c7 w13.heap.size w13 (O13.out.rd (by omega)) (Nat.le_refl _) (by omega)
          rw [← HEm.out] at hc4
          refine hc4.mono ?_
          rintro e w14 ⟨rfl, k14⟩
          have R14 := hide (R13.out.kept k14 (fun _ _ h => h))
          have hw14 := Nat.le_trans hw13 k14.size
          have K14 := hide (K13.out.trans k14)
          clear k14 R13 K13 O13 hc4
          go_wp2_with fail
          trace "C5"
          refine (HCB.out w14 R14.out hw14).mono ?_
          rintro e w15 ⟨rfl, k15⟩
          have K15 := hide (K14.out.trans k15)
          clear k15 R14 K14
          go_wp2_with fail
          trace "C6"
          refine (free_nil w15 0 0 0).mono ?_
          rintro e w16 ⟨rfl, k16⟩
          have K16 := hide (K15.out.trans k16)
          clear k16 K15
          go_wp2_with fail
          trace "C7"
          refine (usage_nil w16).mono ?_
          rintro e w17 ⟨rfl, k17⟩
          have K17 := hide (K16.out.trans k17)
          clear k17 K16
          have hfv := fun x y z w => field_v0 x y z w
          go_wp2_with fail
          trace "C8"
          refine (awake08 _).mono ?_
          rintro e w18 ⟨rfl, k18⟩
          have K18 := hide (K17.out.trans k18)
          clear k18
          go_wp2_with fail
          go_ret
          exact ⟨rfl, K18.out⟩
        · have hN := anew_bad lr HW.out (by rw [← hev]; exact hv0) A0 n0 c0 w.heap.size w9' hR9 hs9 (by omega)
          rw [← hev] at hN
          refine hN.mono ?_
          rintro e w10 ⟨rfl, k10⟩
          have R10 := hide (hR9.kept k10 (fun _ _ h => h))
          have hw10 := Nat.le_trans hs9 k10.size
          have K10 := hide (K9'.out.trans k10)
          have O10 := hide (O9.out.kept k10 (fun _ _ h => h))
          have ev0 : (ev != 0) = true := by simpa using hv0
          have ev1 : (ev == 0) = false := by simpa using hv0
          clear hN hR9 K9' O9 k10 hev hv0
          have ke := (Keeps.refl (fun _ => False) w10).drew
          clear ke
          go_wp2_with fail
          trace "C1"
          refine (HCA.out w10 R10.out hw10).mono ?_
          rintro e w11 ⟨rfl, k11⟩
          have R11 := hide (R10.out.kept k11 (fun _ _ h => h))
          have hw11 := Nat.le_trans hw10 k11.size
          have K11 := hide (K10.out.trans k11)
          have O11 := hide (O10.out.kept k11 (fun _ _ h => h))
          clear k11 R10 K10 O10 HCA
          go_wp2_with fail
          trace "C2"
          refine (HCB.out w11 R11.out hw11).mono ?_
          rintro e w12 ⟨rfl, k12⟩
          have R12 := hide (R11.out.kept k12 (fun _ _ h => h))
          have hw12 := Nat.le_trans hw11 k12.size
          have K12 := hide (K11.out.trans k12)
          have O12 := hide (O11.out.kept k12 (fun _ _ h => h))
          clear k12 R11 K11 O11
          go_wp2_with fail
          trace "C3"
          have hc3 := acheck_any (l.set kk (x.1, nv)) HM.out (some ⟨G, 0, none⟩) n c7 w12.heap.size w12 (O12.out.rd (by omega)) (Nat.le_refl _) (by omega)
          rw [← HEm.out] at hc3
          refine hc3.mono ?_
          rintro e w13 ⟨rfl, k13⟩
          have R13 := hide (R12.out.kept k13 (fun _ _ h => h))
          have hw13 := Nat.le_trans hw12 k13.size
          have K13 := hide (K12.out.trans k13)
          have O13 := hide (O12.out.kept k13 (fun _ _ h => h))
          clear k13 R12 K12 O12 hc3
          go_wp2_with fail
          trace "C4"
          have hc4 := rclasses_any (l.set kk (x.1, nv)) HM.out (some ⟨G, 0, none⟩) n c7 w13.heap.size w13 (O13.out.rd (by omega)) (Nat.le_refl _) (by omega)
          rw [← HEm.out] at hc4
          refine hc4.mono ?_
          rintro e w14 ⟨rfl, k14⟩
          have R14 := hide (R13.out.kept k14 (fun _ _ h => h))
          have hw14 := Nat.le_trans hw13 k14.size
          have K14 := hide (K13.out.trans k14)
          clear k14 R13 K13 O13 hc4
          go_wp2_with fail
          trace "C5"
          refine (HCB.out w14 R14.out hw14).mono ?_
          rintro e w15 ⟨rfl, k15⟩
          have K15 := hide (K14.out.trans k15)
          clear k15 R14 K14
          go_wp2_with fail
          trace "C6"
          refine (free_nil w15 0 0 0).mono ?_
          rintro e w16 ⟨rfl, k16⟩
          have K16 := hide (K15.out.trans k16)
          clear k16 K15
          go_wp2_with fail
          trace "C7"
          refine (usage_nil w16).mono ?_
          rintro e w17 ⟨rfl, k17⟩
          have K17 := hide (K16.out.trans k17)
          clear k17 K16
          have hfv := fun x y z w => field_v0 x y z w
          go_wp2_with fail
          trace "C8"
          refine (awake08 _).mono ?_
          rintro e w18 ⟨rfl, k18⟩
          have K18 := hide (K17.out.trans k18)
          clear k18
          go_wp2_with fail
          go_ret
          exact ⟨rfl, K18.out⟩
theorem walk (w : World) (A0 : Option Addr) (n0 c0 : Nat) (lr : List (Int × Int)) (r0 : Rd w w.heap.size A0 2 n0 (prs lr)) (b0 : ∀ x ∈ lr, (-9223372036854775808 ≤ x.1 ∧ x.1 < 9223372036854775808) ∧ (-9223372036854775808 ≤ x.2 ∧ x.2 < 9223372036854775808)) (s0 : n0 * 16 ≤ 140737488351232) (l0 : n0 ≤ c0)
    (A1 : Option Addr) (n1 c1 : Nat) (z1 : List Int) (r1 : Rd w w.heap.size A1 1 n1 (z1.map (.int .i64))) (b1 : ∀ z ∈ z1, -9223372036854775808 ≤ z ∧ z < 9223372036854775808) (s1 : n1 * 8 ≤ 140737488351232) (l1 : n1 ≤ c1)
    (x2 : Int) (g2 : -9223372036854775808 ≤ x2) (h2 : x2 < 9223372036854775808) (x3 : Int) (g3 : -9223372036854775808 ≤ x3) (h3 : x3 < 9223372036854775808) (x4 : Int) (g4 : -9223372036854775808 ≤ x4) (h4 : x4 < 9223372036854775808) :
    Calls Try.prog 3 #[.slice A0 n0 c0, .slice A1 n1 c1, .int .i64 x2, .int .i64 x3, .int .i64 x4] w fun e w' => e = .returned (.bool true) ∧ Below w.heap.size w w' :=
  (main w A0 n0 c0 lr r0 b0 (by omega) A1 n1 c1 z1 r1 b1 (by omega) x2 x3 x4 ⟨g2, h2⟩ ⟨g3, h3⟩).mono fun e w' ⟨he, hk⟩ => ⟨he, hk.done⟩
end arenaCheck
end Go.Proofs.Ytidobhflijdccaa
