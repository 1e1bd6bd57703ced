/-
  PoolSteps: the walk. No conditions beyond those of the statement.
-/
import Derived.Test.YtidobhflijdccaaGC
import Derived.Test.YtidobhflijdccaaGE
import Derived.Deep.CutRange
import Derived.Deep.CutBlock
set_option linter.unusedVariables false
set_option linter.unusedSimpArgs false
namespace Go.Proofs.Ytidobhflijdccaa
open Go.RowKit Cfp
namespace poolSteps
theorem i64_and15 (n : Int) : bits .and .i64 n 15 = n % 16 := by
  have h15 : (BitVec.ofInt 64 15).toNat = 2 ^ 4 - 1 := by decide
  have key : (BitVec.ofInt 64 n &&& BitVec.ofInt 64 15).toNat = (n % ((2 ^ 64 : Nat) : Int)).toNat % 2 ^ 4 := by
    rw [BitVec.toNat_and, BitVec.toNat_ofInt, h15, Nat.and_two_pow_sub_one_eq_mod]
  show IntKind.i64.wrap ((BitVec.ofInt 64 n &&& BitVec.ofInt 64 15).toNat : Nat) = n % 16
  rw [key, IntKind.wrap_i64]
  omega
theorem i64_and31 (n : Int) : bits .and .i64 n 31 = n % 32 := by
  have h15 : (BitVec.ofInt 64 31).toNat = 2 ^ 5 - 1 := by decide
  have key : (BitVec.ofInt 64 n &&& BitVec.ofInt 64 31).toNat = (n % ((2 ^ 64 : Nat) : Int)).toNat % 2 ^ 5 := by
    rw [BitVec.toNat_and, BitVec.toNat_ofInt, h15, Nat.and_two_pow_sub_one_eq_mod]
  show IntKind.i64.wrap ((BitVec.ofInt 64 n &&& BitVec.ofInt 64 31).toNat : Nat) = n % 32
  rw [key, IntKind.wrap_i64]
  omega
theorem i64_and3 (n : Int) : bits .and .i64 n 3 = n % 4 := by
  have h15 : (BitVec.ofInt 64 3).toNat = 2 ^ 2 - 1 := by decide
  have key : (BitVec.ofInt 64 n &&& BitVec.ofInt 64 3).toNat = (n % ((2 ^ 64 : Nat) : Int)).toNat % 2 ^ 2 := by
    rw [BitVec.toNat_and, BitVec.toNat_ofInt, h15, Nat.and_two_pow_sub_one_eq_mod]
  show IntKind.i64.wrap ((BitVec.ofInt 64 n &&& BitVec.ofInt 64 3).toNat : Nat) = n % 4
  rw [key, IntKind.wrap_i64]
  omega
def digits : ByteArray := ⟨#[48, 49, 50, 51, 52, 53, 54, 55, 56, 57, 48, 49, 50, 51, 52, 53, 54, 55, 56, 57, 48, 49, 50, 51, 52, 53, 54, 55, 56, 57, 48, 49, 50, 51, 52, 53, 54, 55, 56, 57]⟩
theorem run_dig (x : Int) (h0 : 0 ≤ x) (h1 : x < 32) : ∃ t : ByteArray, (t.size : Int) = x ∧
    (∀ w, (Instr.sliceAt 9 (.string ⟨#[48, 49, 50, 51, 52, 53, 54, 55, 56, 57, 48, 49, 50, 51, 52, 53, 54, 55, 56, 57, 48, 49, 50, 51, 52, 53, 54, 55, 56, 57, 48, 49, 50, 51, 52, 53, 54, 55, 56, 57]⟩) none (some (.int .i64 x)) none).run Try.prog w = .ok (.string t) w) ∧
    (∀ w, (Instr.slice 9 (.string ⟨#[48, 49, 50, 51, 52, 53, 54, 55, 56, 57, 48, 49, 50, 51, 52, 53, 54, 55, 56, 57, 48, 49, 50, 51, 52, 53, 54, 55, 56, 57, 48, 49, 50, 51, 52, 53, 54, 55, 56, 57]⟩) none (some (.int .i64 x)) none).run Try.prog w = .ok (.string t) w) := by
  have hsz : digits.size = 40 := rfl
  have h2 := fun w => run_slice_string_h (P := Try.prog) w 9 digits Try.underlying9 .i64 x (by omega) (by rw [hsz]; omega)
  refine ⟨_, ?_, fun w => ?_, h2⟩
  · rw [ByteArray.size_extract, hsz]; omega
  · rw [run_sliceAt_string _ _ _ _ _ _ Try.underlying9]; exact h2 w
theorem PoS_le {B k : Nat} {w : World} (h : PoS B w k) : B ≤ k := by
  rcases h with h | h
  · exact h.1
  · exact h.1
/-- what stands beside both pools -/
structure Rest (w : World) (B0 lo g : Nat) (wx : World) : Prop where
  deck : IsDeck wx w.heap.size g
  gl : g < lo
  gb : g < B0
  k : Keeps (fun _ => False) w wx
  wl : w.heap.size ≤ lo
  wb : w.heap.size ≤ B0
section
variable {w wx wy : World} {B0 lo g a p mb q b K : Nat} {n : Int}
theorem Rest.quiet (h : Rest w B0 lo g wx) (k : Keeps (fun _ => False) wx wy) : Rest w B0 lo g wy :=
  ⟨h.deck.kept k (fun h => h) (fun _ _ h => h), h.gl, h.gb, h.k.trans k, h.wl, h.wb⟩
theorem Rest.pos (h : Rest w B0 lo g wx) (k : Keeps (PoS B0 wx) wx wy) : Rest w B0 lo g wy :=
  ⟨h.deck.kept k (fun e => by have := PoS_le e; have := h.gb; omega) (fun q hq e => by have := PoS_le e; have := h.wb; omega), h.gl, h.gb, h.k.step k (fun q hq e => by have := PoS_le e; have := h.wb; omega), h.wl, h.wb⟩
theorem Rest.rps (h : Rest w B0 lo g wx) (k : Keeps (RPS (fun k => k < lo) wx) wx wy) : Rest w B0 lo g wy :=
  ⟨h.deck.kept k (fun e => e.1 h.gl) (fun q hq e => e.1 (by have := h.wl; show q < lo; omega)), h.gl, h.gb, h.k.step k (fun q hq e => e.1 (by have := h.wl; show q < lo; omega)), h.wl, h.wb⟩
/-- between two statements of a round -/
def Mid (w : World) (B0 a p mb lo q b g : Nat) (n : Int) (K : Nat) (wx : World) : Prop := Rest w B0 lo g wx ∧ PB wx B0 a p mb (fun k => k < lo) q b n K
theorem Mid.quiet (h : Mid w B0 a p mb lo q b g n K wx) (k : Keeps (fun _ => False) wx wy) : Mid w B0 a p mb lo q b g n K wy := ⟨h.1.quiet k, h.2.quiet k⟩
theorem Mid.more {K' : Nat} (h : Mid w B0 a p mb lo q b g n K wx) (hK : K ≤ K') : Mid w B0 a p mb lo q b g n K' wx := ⟨h.1, h.2.more hK⟩
theorem Mid.deck (h : Mid w B0 a p mb lo q b g n K wx) (d : IsDeck wy w.heap.size g) (k : Keeps (· = g) wx wy) (hg : w.heap.size ≤ g) : Mid w B0 a p mb lo q b g n K wy := by
  obtain ⟨h1, E, EA, cap, D, s, L, ρ, h2⟩ := h
  have gl := h1.gl
  have gb := h1.gb
  refine ⟨⟨d, gl, gb, h1.k.step k (fun q hq e => by omega), h1.wl, h1.wb⟩, E, EA, cap, D, s, L, ρ, ⟨h2.po.kept k (fun q e => .inl (by omega)), h2.ar.kept k (fun q e => .inl (by omega)), h2.iv, h2.pv, h2.rp.kept k (fun q e => .inl (by show q < lo; omega)), h2.re, h2.ns, h2.nf, Nat.le_trans h2.hB k.size, fun j e => Nat.lt_of_lt_of_le (h2.hF j e) k.size⟩⟩
end
set_option maxRecDepth 1000000 in
set_option maxHeartbeats 4000000 in
theorem main (w : World) (A1 : Option Addr) (n1 c1 : Nat) (zs : List Int) (hd : Rd w w.heap.size A1 1 n1 (zs.map (.int .i64))) (hz : ∀ z ∈ zs, -9223372036854775808 ≤ z ∧ z < 9223372036854775808) (hn1 : n1 ≤ 17592186043904)
    (A2 : Option Addr) (n2 c2 : Nat) (z2 : List Int) (hd2 : Rd w w.heap.size A2 1 n2 (z2.map (.int .i64))) (hz2 : ∀ z ∈ z2, -9223372036854775808 ≤ z ∧ z < 9223372036854775808) (hn2 : n2 ≤ 17592186043904) (raw : ByteArray) (hraw : raw.size ≤ 140737488351232) (idn : Int) (hidn : -9223372036854775808 ≤ idn ∧ idn < 9223372036854775808) :
    Calls Try.prog 11 #[.slice A1 n1 c1, .slice A2 n2 c2, .string raw, .int .i64 idn] w fun e w' => e = .returned (.bool true) ∧ Keeps (fun _ => False) w w' := by
  by_cases h300 : 300 < raw.size
  · have e0 : decide ((300 : Int) < (raw.size : Int)) = true := by simp; omega
    clear hd hd2 hz hz2
    go_enter Try.func11, Try.ntmps11
    go_wp2_with fail
    refine (awake09 _).mono ?_
    rintro e w' ⟨rfl, k⟩
    have K1 := hide k
    clear k
    go_wp2_with fail
    go_ret
    exact ⟨rfl, K1.out⟩
  have e0 : decide ((300 : Int) < (raw.size : Int)) = false := by simp; omega
  have HD := hide hd
  have HD2 := hide hd2
  have HZ2 := hide hz2
  have HL2 : Hid (z2.length = n2) := hide (by simpa using hd2.1)
  have hr300 : raw.size ≤ 300 := by omega
  clear hd hd2 hz2 h300 hraw
  go_enter Try.func11, Try.ntmps11
  go_wp2_with fail
  refine (new_deck A1 n1 c1 zs w.heap.size w (Nat.le_refl _) HD.out hz (by omega)).mono ?_
  rintro e w1 ⟨rfl, d1, k1⟩
  have K1 := hide k1
  have gl1 := d1.lt
  have gw1 : w.heap.size ≤ w1.heap.size := k1.size
  clear k1
  go_wp2_with fail
  refine (two9 w.heap.size w.heap.size w1 d1 gw1).mono ?_
  rintro e w2 ⟨a, p, b, q, mb, B0, lo, n, rfl, hB0, hlo, hPB, d2, k2⟩
  obtain ⟨g, hg⟩ : ∃ g, g = w.heap.size := ⟨_, rfl⟩
  have HM : Hid (Mid w B0 a p mb lo q b g n 0 w2) := hide ⟨⟨by rw [hg]; exact d2, by omega, by omega, K1.out.step k2 (fun q hq e => by omega), by omega, by omega⟩, hPB⟩
  have hgw : w.heap.size ≤ g := by omega
  have HG := hide hg
  clear hPB d2 k2 hg K1 d1
  go_upto_region 7 with fail
  rw [← HG.out]
  clear HG
  go_upto_region 8 with fail
  trace "LOOP"
  go_loopw [15, 16, 17, 18, 19, 20, 21, 22, 23, 24, 25, 26, 27, 28, 29, 30] (fun iv _ _ _ _ _ _ _ _ _ _ _ _ _ _ _ wr => ∃ i : Nat, i ≤ 50 ∧ iv = .int .i64 (i : Int) ∧ Hid (Mid w B0 a p mb lo q b g n i wr)) (fun iv _ _ _ _ _ _ _ _ _ _ _ _ _ _ _ _ => 50 - (intOf iv).toNat)
  case atStart => exact ⟨0, by omega, rfl, HM⟩
  case round =>
    obtain ⟨i, hi, rfl, HR⟩ := hrel
    obtain ⟨wo, rfl⟩ : ∃ wo : World, wo = wr := ⟨_, rfl⟩
    clear HM
    by_cases hlt : i < n2 ∧ i < 50
    · obtain ⟨hlt1, hlt2⟩ := hlt
      have e1 : decide ((i : Int) < (n2 : Int)) = true := by simpa using hlt1
      have e2 : decide ((i : Int) < 50) = true := by simp; omega
      obtain ⟨b2, off2, rfl, hb2, hcell⟩ := (HD2.out.kept HR.out.1.k (fun _ _ h => h)).2 (by omega)
      obtain ⟨v, hv⟩ : ∃ v, z2[i]? = some v := ⟨z2[i]'(by rw [HL2.out]; omega), List.getElem?_eq_getElem _⟩
      have hc1 := hcell i (.int .i64 v) (by rw [List.getElem?_map, hv]; rfl)
      have hvb := HZ2.out v (List.mem_of_getElem? hv)
      have hi3 : (i : Int) < (n2 : Int) := by omega
      clear hcell hv
      have h15 := i64_and15
      go_upto_region 11 with fail
      go_wp2_with fail
      trace "SHORT"
      refine (short_any w.heap.size g wo HR.out.1.deck).mono ?_
      rintro e w3 ⟨sk, rfl, sk1, sk2, d3, k3⟩
      have HM3 := hide (HR.out.deck d3 k3 hgw)
      clear d3 k3 hc1
      go_upto_block 2 with fail
      trace "B2"
      have hm16 : 0 ≤ v / 128 % 16 ∧ v / 128 % 16 < 16 := by omega
      generalize v / 128 % 16 = r at *
      have hnn : 0 ≤ v / 8 % 16 ∧ v / 8 % 16 < 16 := by omega
      generalize v / 8 % 16 = nn at *
      go_cut [17, 18] from 69 to 82 (fun kv nv wx => ∃ (t : ByteArray) (z : Int), kv = .string t ∧ nv = .int .i64 z ∧ t.size ≤ 400 ∧ (-9223372036854775808 ≤ z ∧ z < 9223372036854775808) ∧ wx = w3)
      case first =>
        by_cases r0 : r = 0
        · subst r0
          go_wp2_with fail
          go_meet
          exact ⟨raw, idn, rfl, rfl, by omega, hidn, rfl⟩
        have f0 : (r == 0) = false := by simpa using r0
        by_cases r1 : r = 1
        · subst r1
          go_wp2_with fail
          go_meet
          exact ⟨_, nn, rfl, rfl, by decide, by omega, rfl⟩
        have f1 : (r == 1) = false := by simpa using r1
        by_cases r2 : r = 2
        · subst r2
          have h31 := i64_and31
          obtain ⟨td, htd, hd1, hd2⟩ := run_dig (v / 2048 % 32) (by omega) (by omega)
          have hsz : (sk ++ td).size ≤ 400 := by rw [ByteArray.size_append]; omega
          go_wp2_with fail
          go_meet
          exact ⟨_, nn, rfl, rfl, hsz, by omega, rfl⟩
        have f2 : (r == 2) = false := by simpa using r2
        go_wp2_with fail
        go_meet
        exact ⟨sk, nn, rfl, rfl, by omega, by omega, rfl⟩
      case rest =>
      obtain ⟨t, z, rfl, rfl, ht, hz3, rfl⟩ := hcut
      obtain ⟨w4, rfl⟩ : ∃ w4 : World, w4 = wc := ⟨_, rfl⟩
      clear hm16 hnn sk1 sk2
      have h3 := i64_and3
      go_upto_block 3 with fail
      trace "B3"
      have hm4 : 0 ≤ v % 4 ∧ v % 4 < 4 := by omega
      generalize v % 4 = r at *
      go_cut [19, 20, 21, 22, 23, 24, 25, 26] from 85 to 136 (fun _ _ _ _ _ _ _ _ wx => Mid w B0 a p mb lo q b g n (i + 1) wx)
      case first =>
        by_cases r01 : r = 0 ∨ r = 1
        · rcases r01 with rfl | rfl
          all_goals
            go_wp2_with fail
            refine (intern_both HM3.out.2 (by omega) t (by omega)).mono ?_
            rintro e wa ⟨x, er, rfl, ka, ha⟩
            have RA := hide (HM3.out.1.pos ka)
            have HA := hide ha
            clear ka ha
            go_wp2_with fail
            refine (HA.out wa (Keeps.refl _ _)).mono ?_
            rintro e wb ⟨rfl, bb, kb⟩
            have HMB : Hid (Mid w B0 a p mb lo q b g n (i + 1) wb) := hide ⟨RA.out.rps kb, bb⟩
            clear RA HA bb kb
            go_wp2_with fail
            go_meet
            exact HMB.out
        · have f0 : (r == 0) = false := by simp; omega
          have f1 : (r == 1) = false := by simp; omega
          by_cases r2 : r = 2
          · subst r2
            go_wp2_with fail
            refine (release_both HM3.out.2 (by omega) z hz3).mono ?_
            rintro e wa ⟨er, rfl, ka, ha⟩
            have RA := hide (HM3.out.1.pos ka)
            have HA := hide ha
            clear ka ha
            go_wp2_with fail
            refine (HA.out wa (Keeps.refl _ _)).mono ?_
            rintro e wb ⟨rfl, bb, kb⟩
            have HMB : Hid (Mid w B0 a p mb lo q b g n (i + 1) wb) := hide ⟨RA.out.rps kb, bb⟩
            clear RA HA bb kb
            go_wp2_with fail
            go_meet
            exact HMB.out
          · have f2 : (r == 2) = false := by simpa using r2
            go_wp2_with fail
            refine (text_both HM3.out.2 (by omega) z hz3).mono ?_
            rintro e wa ⟨tx, er, rfl, ka, ha⟩
            have HMA := hide (HM3.out.quiet ka)
            have HA := hide ha
            clear ka ha
            go_wp2_with fail
            refine (HA.out wa (Keeps.refl _ _)).mono ?_
            rintro e wb ⟨rfl, rfl⟩
            have HMB := hide (HMA.out.more (Nat.le_succ i))
            clear HA
            go_wp2_with fail
            go_meet
            exact HMB.out
      case rest =>
      have HM5 := hide hcut
      clear hcut HM3
      obtain ⟨w5, rfl⟩ : ∃ w5 : World, w5 = wc := ⟨_, rfl⟩
      trace "R33"
      go_wp2_with fail
      refine (find_both HM5.out.2 (by omega) t (by omega)).mono ?_
      rintro e w6 ⟨x, u, rfl, k6, h6⟩
      have HM6 := hide (HM5.out.quiet k6)
      have H6 := hide h6
      clear k6 h6 HM5
      go_wp2_with fail
      refine (H6.out w6 (Keeps.refl _ _)).mono ?_
      rintro e w7 ⟨rfl, k7⟩
      have HM7 := hide (HM6.out.quiet k7)
      clear k7 H6 HM6
      go_wp2_with fail
      refine (len_both HM7.out.2 (by omega)).mono ?_
      rintro e w8 ⟨y, rfl, rfl, h8⟩
      have H8 := hide h8
      clear h8
      go_wp2_with fail
      refine (H8.out _ (Keeps.refl _ _)).mono ?_
      rintro e w9 ⟨rfl, rfl⟩
      clear H8
      go_wp2_with fail
      refine (usage_both HM7.out.2 (by omega)).mono ?_
      rintro e wa ⟨DU, nu, mu, bt, f, lv, rfl, o8, hnu, k8, h8⟩
      have O8 := hide o8
      have HMA := hide (HM7.out.quiet k8)
      have H8 := hide h8
      clear o8 k8 h8 HM7
      go_wp2_with fail
      refine (H8.out wa (Keeps.refl _ _)).mono ?_
      rintro e wb ⟨DV, mv, rfl, o9, k9⟩
      have O9 := hide o9
      have O89 := hide (O8.out.kept k9 (fun _ _ h => h))
      have HMB := hide (HMA.out.quiet k9)
      clear o9 k9 H8 O8 HMA
      go_wp2_with fail
      refine (sameUsage_any lv DU DV nu mu mv _ _ bt f wb (O89.out.rd (by omega)) (O9.out.rd (by omega)) (by omega)).mono ?_
      rintro e wd ⟨rfl, k10⟩
      have HMD := hide (HMB.out.quiet k10)
      clear k10 O9 O89 HMB
      go_wp2_with fail
      trace "END"
      go_roundw
      case rel => exact ⟨i + 1, by omega, by go_num, HMD⟩
      case measure => simp [intOf]; omega
    · by_cases hlt1 : (i : Int) < (n2 : Int)
      · have e1 : decide ((i : Int) < (n2 : Int)) = true := by simpa using hlt1
        have e2 : decide ((i : Int) < 50) = false := by simp; omega
        clear hlt
        go_wp2_with fail
        refine (awake09 _).mono ?_
        rintro e w18 ⟨rfl, k18⟩
        have K18 := hide (HR.out.1.k.trans k18)
        clear k18
        go_wp2_with fail
        go_ret
        exact ⟨rfl, K18.out⟩
      · have e1 : decide ((i : Int) < (n2 : Int)) = false := by simpa using hlt1
        clear hlt
        go_wp2_with fail
        refine (awake09 _).mono ?_
        rintro e w18 ⟨rfl, k18⟩
        have K18 := hide (HR.out.1.k.trans k18)
        clear k18
        go_wp2_with fail
        go_ret
        exact ⟨rfl, K18.out⟩
theorem walk (w : World) (A1 : Option Addr) (n1 c1 : Nat) (z1 : List Int) (r1 : Rd w w.heap.size A1 1 n1 (z1.map (.int .i64))) (b1 : ∀ z ∈ z1, -9223372036854775808 ≤ z ∧ z < 9223372036854775808) (s1 : n1 * 8 ≤ 140737488351232) (l1 : n1 ≤ c1)
    (A2 : Option Addr) (n2 c2 : Nat) (z2 : List Int) (r2 : Rd w w.heap.size A2 1 n2 (z2.map (.int .i64))) (b2 : ∀ z ∈ z2, -9223372036854775808 ≤ z ∧ z < 9223372036854775808) (s2 : n2 * 8 ≤ 140737488351232) (l2 : n2 ≤ c2) (s : ByteArray) (hs : s.size ≤ maxLen) (hs' : s.size ≤ 140737488351232)
    (z : Int) (z0 : -9223372036854775808 ≤ z) (z9 : z < 9223372036854775808) :
    Calls Try.prog 11 #[.slice A1 n1 c1, .slice A2 n2 c2, .string s, .int .i64 z] w fun e w' => e = .returned (.bool true) ∧ Below w.heap.size w w' :=
  (main w A1 n1 c1 z1 r1 b1 (by omega) A2 n2 c2 z2 r2 b2 (by omega) s hs' z ⟨z0, z9⟩).mono fun e w' ⟨he, hk⟩ => ⟨he, hk.done⟩
end poolSteps
end Go.Proofs.Ytidobhflijdccaa
